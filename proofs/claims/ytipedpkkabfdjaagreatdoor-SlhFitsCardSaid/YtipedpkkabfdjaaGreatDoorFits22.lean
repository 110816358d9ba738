/- slh: the signature of a text. slh: where nothing is signed. slh: where nothing fits. -/
import Derived.Test.YtipedpkkabfdjaaGreatDoorFits21
/- slh: the signature of a text. -/
namespace Go.Proofs.Sl
open Go.RowKit Go.Proofs
attribute [local go_sem] Oper.semAt_some

theorem ofAt_length (f : Few) (hN : f.N ≤ 136) (m : Sec) (tree q : Nat) : ∀ k, (ofAt f m tree q k).length = f.N
  | 0 => tweakL_length _ _ _ _ hN
  | _ + 1 => rootL_length f m _ _ hN
theorem mulKAN {f : Few} {m : Sec} (h : MadeOk f m) : f.K * ((f.A + 1) * f.N) ≤ 40 * (7 * 32) := Nat.mul_le_mul h.ok.K2 (Nat.mul_le_mul (by have := h.A; omega) h.ok.N.le)
def SignEnd (w : World) (l : List UInt8) (e : Ending) (w' : World) : Prop := ∃ A n c, e = .returned (.tuple #[.slice A n c, .int .i64 0]) ∧ Own eB w.heap.size w' A n c l ∧ Below w.heap.size w w'

set_option maxHeartbeats 4000000 in
theorem sign_any (f : Few) (m : Sec) (A1 A2 A3 Ax At : Option Addr) (n1 n2 n3 c1 c2 c3 nx cx nt ct : Nat) (extra text : List UInt8) (w : World) (hM : Ground f m A1 A2 A3 n1 n2 n3 w) (hx : Rd eB w Ax nx extra) (hxl : extra.length = f.N) (ht : Rd eB w At nt text) (htl : text.length ≤ 65536) :
    Calls Tryz.prog 8 #[vFew f, vSec A1 A2 A3 n1 n2 n3 c1 c2 c3, .slice Ax nx cx, .slice At nt ct] w (SignEnd w (signL f m extra text)) := by
  have HM := Lib.hid hM
  have HX := Lib.hid hx
  have HT := Lib.hid ht
  have HMA := Lib.hid (fun w => hM.made ▸ made_any f.N f.L f.H f.K f.A A1 A2 A3 n1 n2 n3 c1 c2 c3 w)
  have hnx : nx = f.N := by rw [← hx.len, hxl]
  subst hnx
  have hnt : nt ≤ 65536 := by rw [← ht.len]; exact htl
  have hN1 := hM.ok.ok.N.pos
  have hN2 := hM.ok.ok.N.le
  have HFL : Hid ([m.salt, extra, text].flatten = m.salt ++ extra ++ text) := Lib.hid (by simp)
  have HLEN : Hid (0 < (m.salt ++ extra ++ text).length ∧ (m.salt ++ extra ++ text).length ≤ 1048576) := Lib.hid (by have := hM.ok.salt; simp; omega)
  have HSL : Hid ((saltL f m extra text).length = f.N) := Lib.hid (saltL_length f (by omega) m extra text)
  have HPL : Hid ((publicL f m).length = f.N + f.N) := Lib.hid (publicL_length f m hM.ok)
  clear hM hx ht hxl
  unfold vFewI vSec at HMA
  unfold vFew vSec
  refine (callsIn_wide (n := 3)).1 ?_
  refine callsIn_of_wp_marks Tryz.func8 rfl trivial ?_ rfl
  simp only [Tryz.ntmps8, List.size_toArray, List.length_cons, List.length_nil, Nat.reduceAdd, Nat.reduceSub, Array.replicate_succ, Array.replicate_zero, List.push_toArray, List.append_toArray, List.nil_append, List.cons_append]
  gi_wp2_with fail
  refine ⟨trivial, ?_⟩
  refine (callsIn_wide.2 (HMA.out _)).mono ?_
  rintro e w1 ⟨rfl, hB⟩
  have HSB := Lib.hid (((SB.start f A1 A2 A3 n1 n2 n3 c1 c2 c3 w).below hB).below (Below.refl _ _).drew)
  have HG1 : Hid (Below w.heap.size w w1.drew) := Lib.hid ((((Below.refl _ w).alloc (Nat.le_refl _) _).alloc (by simp) _).trans (hB.mono (by simp; omega))).drew
  obtain ⟨k0, k1, k2, k3, k4, k5, k6, k7⟩ := (SB.start f A1 A2 A3 n1 n2 n3 c1 c2 c3 w).below hB
  clear hB
  gi_wp2_with fail
  replace k0 := HSB.out.k0; replace k1 := HSB.out.k1; replace k2 := HSB.out.k2; replace k3 := HSB.out.k3; replace k4 := HSB.out.k4; replace k5 := HSB.out.m0; replace k6 := HSB.out.m1; replace k7 := HSB.out.m2
  refine wpIn_region_wide Grow 89 9 8 [[], [], [], [], [], [4], [], [], [5]]
    [.still [] (.pointer (some ⟨w.heap.size + 1, 1, none⟩)), .still [] (.slice A2 n2 c2), .still [] (.slice Ax f.N cx), .still [] (.slice At nt ct), .grow [] (PartsV [m.salt, extra, text]), .grow [4] (OwnV eB w.heap.size (m.salt ++ extra ++ text)), .still [] (.pointer (some ⟨w.heap.size, 0, none⟩)), .still [] (.int .i64 (f.N : Int)), .grow [5] (OwnV eB w.heap.size (saltL f m extra text))] (by kernel_rfl) (by kernel_rfl) rfl rfl rfl Grow.trans (Grow.refl _) ?_
  iterate 4
    refine Obl.still (fun W hg _ => ?_) ?_
    · have c0 := cell_old hg k0; have c1 := cell_old hg k1; have c2 := cell_old hg k2; have c3 := cell_old hg k3; have c4 := cell_old hg k4; have c5 := cell_old hg k5; have c6 := cell_old hg k6; have c7 := cell_old hg k7; clear hg k0 k1 k2 k3 k4 k5 k6 k7
      go_wp2
      exact ⟨rfl, rfl, rfl, Grow.refl _⟩
    simp only [Act.put, List.setIfInBounds_toArray, List.set_cons_zero, List.set_cons_succ]
  refine Obl.grow (PartsV.keep _) (fun W hg _ => ?_) (fun v4 => ?_)
  · have hbW := HG1.out.trans (hg.mono HG1.out.size)
    have r1 := (HM.out.below hbW).r2
    have r2 := HX.out.below hbW
    have r3 := HT.out.below hbW
    clear hg k0 k1 k2 k3 k4 k5 k6 k7
    go_wp2
    exact ⟨rfl, rfl, ⟨_, _, rfl, parts3 (cell_new ..) (cell_new ..) (cell_new ..) (r1.alloc _) (r2.alloc _) (r3.alloc _)⟩, (Below.refl _ _).alloc (Nat.le_refl _) _⟩
  simp only [Act.put, List.setIfInBounds_toArray, List.set_cons_zero, List.set_cons_succ]
  refine Obl.grow (OwnV.keep _ _ _) (fun W hg ⟨h4, _⟩ => ?_) (fun v5 => ?_)
  · obtain ⟨bh4, nh4, rfl, h4⟩ := h4
    have hbW := HG1.out.trans (hg.mono HG1.out.size)
    obtain rfl : nh4 = 3 := by rw [← h4.len]; rfl
    have HC := Lib.hid (cat_any bh4 0 3 3 _ W h4 (by omega) (Nat.le_refl _) (by rw [HFL.out]; exact HLEN.out.1) (by rw [HFL.out]; have := HLEN.out.2; omega))
    rw [HFL.out] at HC
    have hsz := hbW.size
    clear hbW
    clear hg k0 k1 k2 k3 k4 k5 k6 k7
    go_wp2_with fail
    refine (HC.out).mono ?_
    rintro e w' ⟨A1, n1, c1, rfl, h1, h2⟩
    go_wp2
    exact ⟨rfl, rfl, ⟨_, _, _, rfl, h1.mono hsz⟩, h2⟩
  simp only [Act.put, List.setIfInBounds_toArray, List.set_cons_zero, List.set_cons_succ]
  iterate 2
    refine Obl.still (fun W hg _ => ?_) ?_
    · have c0 := cell_old hg k0; have c1 := cell_old hg k1; have c2 := cell_old hg k2; have c3 := cell_old hg k3; have c4 := cell_old hg k4; have c5 := cell_old hg k5; have c6 := cell_old hg k6; have c7 := cell_old hg k7; clear hg k0 k1 k2 k3 k4 k5 k6 k7
      go_wp2
      exact ⟨rfl, rfl, rfl, Grow.refl _⟩
    simp only [Act.put, List.setIfInBounds_toArray, List.set_cons_zero, List.set_cons_succ]
  refine Obl.grow (OwnV.keep _ _ _) (fun W hg ⟨h5, _⟩ => ?_) (fun v8 => ?_)
  · obtain ⟨Ah5, nh5, ch5, rfl, h5⟩ := h5
    have hbW := HG1.out.trans (hg.mono HG1.out.size)
    have HC := Lib.hid (shake_any Ah5 nh5 ch5 _ f.N W (HM.out.below hbW).laid h5.rd HLEN.out.2 (by omega) (by omega))
    have hsz := hbW.size
    clear hbW
    clear hg k0 k1 k2 k3 k4 k5 k6 k7
    go_wp2_with fail
    refine (HC.out).mono ?_
    rintro e w' ⟨A1, n1, c1, rfl, h1, h2⟩
    go_wp2
    exact ⟨rfl, rfl, ⟨_, _, _, rfl, h1.mono hsz⟩, h2⟩
  simp only [Act.put, List.setIfInBounds_toArray, List.set_cons_zero, List.set_cons_succ]
  refine Obl.done (fun W hg hall => ?_)
  obtain ⟨h8, _⟩ := hall
  obtain ⟨As, ns, cs, rfl, h8⟩ := h8
  have HG3 := Lib.hid (HG1.out.trans (hg.mono HG1.out.size))
  have HS3 := Lib.hid (HSB.out.below hg)
  have HSA := Lib.hid h8
  clear hg h8 k0 k1 k2 k3 k4 k5 k6 k7

  gi_wp2_with fail
  obtain ⟨d, hd⟩ : ∃ d, digestL f (saltL f m extra text) (publicL f m) text = d := ⟨_, rfl⟩
  have HD := Lib.hid hd
  clear hd
  have k0 := cell_old (Below.refl _ _).drew HS3.out.k0; have k1 := cell_old (Below.refl _ _).drew HS3.out.k1; have k2 := cell_old (Below.refl _ _).drew HS3.out.k2; have k3 := cell_old (Below.refl _ _).drew HS3.out.k3; have k4 := cell_old (Below.refl _ _).drew HS3.out.k4; have k5 := cell_old (Below.refl _ _).drew HS3.out.m0; have k6 := cell_old (Below.refl _ _).drew HS3.out.m1; have k7 := cell_old (Below.refl _ _).drew HS3.out.m2
  refine wpIn_region_wide Grow 89 14 10 [[], [], [], [], [], [], [4], [6], [7], [7], [7], [8], [9], [10]]
    [.still [] (.agg #[.int .i64 (f.N : Int), .int .i64 (f.L : Int), .int .i64 (f.H : Int), .int .i64 (f.K : Int), .int .i64 (f.A : Int)]), .still [] (.slice As ns cs), .still [] (.agg #[.int .i64 (f.N : Int), .int .i64 (f.L : Int), .int .i64 (f.H : Int), .int .i64 (f.K : Int), .int .i64 (f.A : Int)]), .still [] (.agg #[.slice A1 n1 c1, .slice A2 n2 c2, .slice A3 n3 c3]), .grow [] (OwnV eB w.heap.size (publicL f m)), .still [] (.slice At nt ct), .grow [4] (DigV f d), .grow [6] (DigV f d), .grow [7] (RdA (pA f) (d.take (pA f))), .grow [7] (ValV (.int .u64 (treeOf f d : Int))), .grow [7] (ValV (.int .u32 (leafOf f d : Int))), .grow [8] (RdA (pA f) (d.take (pA f))), .grow [9] (ValV (.int .u64 (treeOf f d : Int))), .grow [10] (ValV (.int .u32 (leafOf f d : Int)))] (by kernel_rfl) (by kernel_rfl) rfl rfl rfl Grow.trans (Grow.refl _) ?_
  iterate 4
    refine Obl.still (fun W hg _ => ?_) ?_
    · have c0 := cell_old hg k0; have c1 := cell_old hg k1; have c2 := cell_old hg k2; have c3 := cell_old hg k3; have c4 := cell_old hg k4; have c5 := cell_old hg k5; have c6 := cell_old hg k6; have c7 := cell_old hg k7; clear hg k0 k1 k2 k3 k4 k5 k6 k7
      go_wp2
      exact ⟨rfl, rfl, rfl, Grow.refl _⟩
    simp only [Act.put, List.setIfInBounds_toArray, List.set_cons_zero, List.set_cons_succ]
  refine Obl.grow (OwnV.keep _ _ _) (fun W hg _ => ?_) (fun v4 => ?_)
  · have hbW := HG3.out.drew.trans (hg.mono HG3.out.size)
    have HC := Lib.hid (public_any f m A1 A2 A3 n1 n2 n3 c1 c2 c3 W (HM.out.below hbW))
    unfold vFew vSec at HC
    have hsz := hbW.size
    clear hbW
    clear hg k0 k1 k2 k3 k4 k5 k6 k7
    go_wp2_with fail
    refine (HC.out).mono ?_
    rintro e w' ⟨A1, n1, c1, rfl, h1, h2⟩
    go_wp2
    exact ⟨rfl, rfl, ⟨_, _, _, rfl, h1.mono hsz⟩, h2⟩
  simp only [Act.put, List.setIfInBounds_toArray, List.set_cons_zero, List.set_cons_succ]
  refine Obl.still (fun W hg _ => ?_) ?_
  · have c0 := cell_old hg k0; have c1 := cell_old hg k1; have c2 := cell_old hg k2; have c3 := cell_old hg k3; have c4 := cell_old hg k4; have c5 := cell_old hg k5; have c6 := cell_old hg k6; have c7 := cell_old hg k7; clear hg k0 k1 k2 k3 k4 k5 k6 k7
    go_wp2
    exact ⟨rfl, rfl, rfl, Grow.refl _⟩
  simp only [Act.put, List.setIfInBounds_toArray, List.set_cons_zero, List.set_cons_succ]
  refine Obl.grow (DigV.keep _ _) (fun W hg ⟨h4, _⟩ => ?_) (fun v6 => ?_)
  · obtain ⟨Ah4, nh4, ch4, rfl, h4⟩ := h4
    have hbW := HG3.out.drew.trans (hg.mono HG3.out.size)
    have r2 := HT.out.below hbW
    have r1 := HSA.out.rd.below ((Below.refl _ _).drew.trans hg)
    have HC := Lib.hid (digest_any f HM.out.ok.ok As Ah4 At ns nh4 nt cs ch4 ct _ _ _ W (HM.out.below hbW).laid r1 h4.rd r2 (by rw [HSL.out]; omega) (by have := HSL.out; have := HPL.out; simp; omega))
    unfold vFew at HC
    rw [HD.out] at HC
    clear hbW r1 r2
    clear hg k0 k1 k2 k3 k4 k5 k6 k7
    go_wp2_with fail
    refine HC.out.mono ?_
    rintro e w' ⟨Ad, rfl, h1, h2⟩
    go_wp2
    exact ⟨rfl, rfl, ⟨Ad, rfl, h1⟩, h2⟩
  simp only [Act.put, List.setIfInBounds_toArray, List.set_cons_zero, List.set_cons_succ]
  refine Obl.grow (DigV.keep _ _) (fun W hg ⟨h6, _⟩ => ?_) (fun v7 => ?_)
  · obtain ⟨Ad6, rfl, h6⟩ := h6
    clear hg k0 k1 k2 k3 k4 k5 k6 k7
    go_wp2
    exact ⟨rfl, rfl, ⟨Ad6, rfl, h6⟩, Grow.refl _⟩
  simp only [Act.put, List.setIfInBounds_toArray, List.set_cons_zero, List.set_cons_succ]
  refine Obl.grow (RdA.keep _ _) (fun W hg ⟨h7, _⟩ => ?_) (fun v8 => ?_)
  · obtain ⟨Ad7, rfl, h7⟩ := h7
    clear hg k0 k1 k2 k3 k4 k5 k6 k7
    go_wp2
    exact ⟨rfl, rfl, ⟨Ad7, rfl, h7⟩, Grow.refl _⟩
  simp only [Act.put, List.setIfInBounds_toArray, List.set_cons_zero, List.set_cons_succ]
  refine Obl.grow (ValV.keep _) (fun W hg ⟨h7, _⟩ => ?_) (fun v9 => ?_)
  · obtain ⟨Ad7, rfl, h7⟩ := h7
    clear hg k0 k1 k2 k3 k4 k5 k6 k7
    go_wp2
    exact ⟨rfl, rfl, rfl, Grow.refl _⟩
  simp only [Act.put, List.setIfInBounds_toArray, List.set_cons_zero, List.set_cons_succ]
  refine Obl.grow (ValV.keep _) (fun W hg ⟨h7, _⟩ => ?_) (fun v10 => ?_)
  · obtain ⟨Ad7, rfl, h7⟩ := h7
    clear hg k0 k1 k2 k3 k4 k5 k6 k7
    go_wp2
    exact ⟨rfl, rfl, rfl, Grow.refl _⟩
  simp only [Act.put, List.setIfInBounds_toArray, List.set_cons_zero, List.set_cons_succ]
  refine Obl.grow (RdA.keep _ _) (fun W hg ⟨h8, _⟩ => ?_) (fun v11 => ?_)
  · obtain ⟨Ad8, rfl, h8⟩ := h8
    clear hg k0 k1 k2 k3 k4 k5 k6 k7
    go_wp2
    exact ⟨rfl, rfl, ⟨Ad8, rfl, h8⟩, Grow.refl _⟩
  simp only [Act.put, List.setIfInBounds_toArray, List.set_cons_zero, List.set_cons_succ]
  refine Obl.grow (ValV.keep _) (fun W hg ⟨h9, _⟩ => ?_) (fun v12 => ?_)
  · obtain rfl := h9
    clear hg k0 k1 k2 k3 k4 k5 k6 k7
    go_wp2
    exact ⟨rfl, rfl, rfl, Grow.refl _⟩
  simp only [Act.put, List.setIfInBounds_toArray, List.set_cons_zero, List.set_cons_succ]
  refine Obl.grow (ValV.keep _) (fun W hg ⟨h10, _⟩ => ?_) (fun v13 => ?_)
  · obtain rfl := h10
    clear hg k0 k1 k2 k3 k4 k5 k6 k7
    go_wp2
    exact ⟨rfl, rfl, rfl, Grow.refl _⟩
  simp only [Act.put, List.setIfInBounds_toArray, List.set_cons_zero, List.set_cons_succ]
  refine Obl.done (fun W hg hall => ?_)
  obtain ⟨h13, h12, h11, h10, h9, h8, h7, h6, h4, _⟩ := hall
  obtain rfl := h13
  obtain rfl := h12
  obtain ⟨Ad, rfl, hd11⟩ := h11
  obtain rfl := h10
  obtain rfl := h9
  obtain ⟨A8, rfl, _⟩ := h8
  obtain ⟨A7, rfl, _⟩ := h7
  obtain ⟨A6, rfl, _⟩ := h6
  obtain ⟨A4, n4, c4, rfl, _⟩ := h4
  have HG4 := Lib.hid (HG3.out.drew.trans (hg.mono HG3.out.size))
  have HS4 := Lib.hid (HS3.out.below ((Below.refl _ _).drew.trans hg))
  have HSA4 := Lib.hid (HSA.out.below ((Below.refl _ _).drew.trans hg))
  have HD4 := Lib.hid hd11
  clear hg hd11 k0 k1 k2 k3 k4 k5 k6 k7 HG3 HS3 HSA HSB HG1

  have hT1 : treeOf f d < 2 ^ 63 := Nat.lt_of_lt_of_le (Nat.mod_lt _ (Nat.two_pow_pos _)) (Nat.pow_le_pow_right (by omega) HM.out.ok.ok.LH)
  have hQ1 : leafOf f d < 2 ^ f.H := Nat.mod_lt _ (Nat.two_pow_pos _)
  have hQ2 : leafOf f d < 4294967296 := by have := pow512_le HM.out.ok.ok.H2; omega
  have HT1 := Lib.hid (And.intro (show W64 (treeOf f d) by unfold W64; omega) (And.intro hQ2 hQ1))
  have HSG : Hid (signL f m extra text = saltL f m extra text ++ fTell f m.seed m.secret (treeOf f d) (leafOf f d) (d.take (pA f)) ++ layersL f m (treeOf f d) (leafOf f d) f.L) := Lib.hid (by unfold signL; dsimp only; rw [HD.out])
  have HTL := Lib.hid (fTell_length f (by omega) m.seed m.secret (treeOf f d) (leafOf f d) (d.take (pA f)))
  have HDL : Hid ((d.take (pA f)).length = pA f ∧ f.K * f.A ≤ pA f * 8 ∧ pA f ≤ 70) := Lib.hid ⟨HD4.out.len, by unfold pA wholeB; omega, pA_le HM.out.ok.ok⟩
  clear hT1 hQ1 hQ2
  generalize treeOf f d = tr at *
  generalize leafOf f d = lf at *
  have k0 := HS4.out.k0; have k1 := HS4.out.k1; have k2 := HS4.out.k2; have k3 := HS4.out.k3; have k4 := HS4.out.k4; have k5 := HS4.out.m0; have k6 := HS4.out.m1; have k7 := HS4.out.m2
  gi_wp2_with fail
  refine ⟨trivial, ?_⟩
  have HC := Lib.hid (tell_any f m A1 A2 A3 Ad n1 n2 n3 c1 c2 c3 (pA f) (pA f) tr lf (d.take (pA f)) _ (HM.out.below HG4.out) HT1.out.1 HT1.out.2.1 HD4.out (by have := HDL.out.2.2; omega) (by rw [HDL.out.1]; exact HDL.out.2.1))
  unfold vFew vSec at HC
  refine (callsIn_wide.2 HC.out).mono ?_
  rintro e w5 ⟨A5, n5, c5, rfl, h5, g5⟩
  have HS5 := Lib.hid (HS4.out.below g5)
  have HG5 := Lib.hid (HG4.out.trans (g5.mono HG4.out.size))
  have hA5 : Below w5.heap.size w5 (w5.alloc (.cells #[.slice As ns cs, .slice A5 n5 c5] 24)) := (Below.refl _ _).alloc (Nat.le_refl _) _
  have hns : ns = f.N := by rw [← HSA4.out.len]; exact HSL.out
  have hn5 : n5 = f.K * ((f.A + 1) * f.N) := by rw [← h5.len]; exact HTL.out
  have HC5 := cat_any w5.heap.size 0 2 2 [saltL f m extra text, fTell f m.seed m.secret tr lf (d.take (pA f))] _ (parts2 (B := w5.heap.size) (c1 := cs) (c2 := c5) (w := w5.alloc (.cells #[.slice As ns cs, .slice A5 n5 c5] 24)) (cell_new ..) (cell_new ..) ((HSA4.out.rd.below g5).below hA5) (h5.rd.below hA5)) (by omega) (Nat.le_refl _) (by simp [HSL.out]; omega) (by simp [HSL.out, HTL.out]; have := mulKAN HM.out.ok; omega)
  rw [show [saltL f m extra text, fTell f m.seed m.secret tr lf (d.take (pA f))].flatten = saltL f m extra text ++ fTell f m.seed m.secret tr lf (d.take (pA f)) by simp] at HC5
  have HCC := Lib.hid HC5
  have HA5 := Lib.hid hA5
  have HNS := Lib.hid (And.intro hns hn5)
  clear HC HC5 h5 g5 hA5 hns hn5 k0 k1 k2 k3 k4 k5 k6 k7 HS4 HG4 HSA4
  gi_wp2_with fail
  refine ⟨trivial, ?_⟩
  refine (callsIn_wide.2 HCC.out).mono ?_
  rintro e w6 ⟨A6', n6, c6, rfl, h6, g6⟩
  have HS6 := Lib.hid ((HS5.out.below HA5.out).below g6)
  have HG6 := Lib.hid ((HG5.out.trans (HA5.out.mono HG5.out.size)).trans (g6.mono (Nat.le_trans HG5.out.size HA5.out.size)))
  have h6' : Own eB (w.heap.size + 2) w6 A6' n6 c6 (saltL f m extra text ++ fTell f m.seed m.secret tr lf (d.take (pA f))) := h6.mono (by have := World.block_lt_of_cell? _ _ HS5.out.m0; have := HA5.out.size; dsimp only at *; omega)
  have hn6 : n6 = f.N + f.K * ((f.A + 1) * f.N) := by rw [← h6'.len, List.length_append, HSL.out, HTL.out]
  subst hn6
  have HO6 := Lib.hid h6'
  clear h6 h6' g6 HCC HA5 HNS HS5 HG5
  have hA6 : Below w6.heap.size w6 (w6.alloc (.cells #[.slice A6' (f.N + f.K * ((f.A + 1) * f.N)) c6] 24)) := (Below.refl _ _).alloc (Nat.le_refl _) _
  have HS6a := Lib.hid (HS6.out.below hA6)
  have HG6a := Lib.hid (HG6.out.trans (hA6.mono HG6.out.size))
  have HO6a := Lib.hid (HO6.out.below hA6)
  have hsz6 : w.heap.size + 2 ≤ w6.heap.size := World.block_lt_of_cell? _ _ HS6.out.m0
  have c14 : (w6.alloc (.cells #[.slice A6' (f.N + f.K * ((f.A + 1) * f.N)) c6] 24)).cell? ⟨w6.heap.size, 0, none⟩ = some (.slice A6' (f.N + f.K * ((f.A + 1) * f.N)) c6) := cell_new ..
  have f14 : (w6.alloc (.cells #[.slice A6' (f.N + f.K * ((f.A + 1) * f.N)) c6] 24)).frozen? ⟨w6.heap.size, 0, none⟩ = false := frozen_new ..
  have HC14 := Lib.hid (And.intro c14 f14)
  obtain ⟨k0, k1, k2, k3, k4, k5, k6, k7⟩ := HS6a.out
  have HC := Lib.hid (whole_any f m A1 A2 A3 n1 n2 n3 c1 c2 c3 tr lf _ (HM.out.below HG6a.out) HT1.out.1 HT1.out.2.1)
  unfold vFew vSec at HC
  clear hA6 c14 f14 HS6 HG6 HO6
  gi_wp2_with fail
  refine ⟨trivial, ?_⟩
  refine (callsIn_wide.2 HC.out).mono ?_
  rintro e w7 ⟨A7', n7, c7, rfl, h7, g7⟩
  have hn7 : n7 = f.N := by rw [← h7.len]; exact tweakL_length _ _ _ _ (by omega)
  subst hn7
  have hA7 : Below w7.heap.size w7 (w7.alloc (.cells #[.slice A7' f.N c7] 24)) := (Below.refl _ _).alloc (Nat.le_refl _) _
  have HS7a := Lib.hid ((HS6a.out.below g7).below hA7)
  have HG7a := Lib.hid ((HG6a.out.trans (g7.mono HG6a.out.size)).trans (hA7.mono (Nat.le_trans HG6a.out.size g7.size)))
  have HO7a := Lib.hid ((HO6a.out.below g7).below hA7)
  have hlt14 : w6.heap.size < w7.heap.size := by have := g7.size; simp at this; omega
  have HF7 : Hid (Own eB (w.heap.size + 2) (w7.alloc (.cells #[.slice A7' f.N c7] 24)) A7' f.N c7 (fWhole f m.seed m.secret tr lf)) := Lib.hid ((h7.mono (by simp; omega)).below hA7)
  have HB14 : Hid ((w7.alloc (.cells #[.slice A7' f.N c7] 24)).cell? ⟨w6.heap.size, 0, none⟩ = some (.slice A6' (f.N + f.K * ((f.A + 1) * f.N)) c6) ∧ (w7.alloc (.cells #[.slice A7' f.N c7] 24)).frozen? ⟨w6.heap.size, 0, none⟩ = false) := Lib.hid
    ⟨cell_old hA7 (cell_old g7 HC14.out.1), (World.frozen?_of_block (w := w7) (a := ⟨w6.heap.size, 0, none⟩) (hA7.block _ hlt14)).trans ((World.frozen?_of_block (a := ⟨w6.heap.size, 0, none⟩) (g7.block _ (by simp))).trans HC14.out.2)⟩
  have HB15 : Hid ((w7.alloc (.cells #[.slice A7' f.N c7] 24)).cell? ⟨w7.heap.size, 0, none⟩ = some (.slice A7' f.N c7) ∧ (w7.alloc (.cells #[.slice A7' f.N c7] 24)).frozen? ⟨w7.heap.size, 0, none⟩ = false) := Lib.hid ⟨cell_new .., frozen_new ..⟩
  clear h7 g7 hA7 k0 k1 k2 k3 k4 k5 k6 k7 HC HC14 HS6a HG6a HO6a
  obtain ⟨k0, k1, k2, k3, k4, k5, k6, k7⟩ := HS7a.out
  have HC := Lib.hid (spots_any f A3 n3 c3 tr lf (w7.alloc (.cells #[.slice A7' f.N c7] 24)))
  unfold vFew at HC
  gi_wp2_with fail
  refine ⟨trivial, ?_⟩
  refine (callsIn_wide.2 HC.out).mono ?_
  rintro e w8 ⟨B1, B2, B3, B4, rfl, hB1, hB2, hB3, hB4, hdd, hsp, g8⟩
  have HSD : Hid (SD w w6.heap.size w7.heap.size B1 B2 B3 B4) := Lib.hid ⟨hsz6, hlt14, by simp at hB1; omega, by simp at hB2; omega, by simp at hB3; omega, by simp at hB4; omega, hdd⟩
  have hl14 := World.block_lt_of_cell? _ _ HB14.out.1
  have hl15 := World.block_lt_of_cell? _ _ HB15.out.1
  have HSI : Hid (SI f m A1 A2 A3 n1 n2 n3 c1 c2 c3 tr lf (saltL f m extra text ++ fTell f m.seed m.secret tr lf (d.take (pA f))) w w6.heap.size w7.heap.size B1 B2 B3 B4 0 w8) := Lib.hid
    ⟨HS7a.out.below g8, ⟨A6', c6, by simpa using cell_old g8 HB14.out.1, by simpa [layersL] using HO7a.out.below g8⟩, (World.frozen?_of_block (a := ⟨w6.heap.size, 0, none⟩) (g8.block _ hl14)).trans HB14.out.2, ⟨A7', c7, cell_old g8 HB15.out.1, HF7.out.below g8⟩, (World.frozen?_of_block (a := ⟨w7.heap.size, 0, none⟩) (g8.block _ hl15)).trans HB15.out.2, ⟨tr, lf, hsp⟩, HG7a.out.trans (g8.mono HG7a.out.size)⟩
  have HSP := Lib.hid hsp
  have hzB : w.heap.size + 2 ≤ w7.heap.size ∧ w7.heap.size < w8.heap.size := ⟨by omega, by have := g8.size; simp at this; omega⟩
  clear HC hsp g8 hB1 hB2 hB3 hB4 hdd HS7a HG7a HO7a HF7 HB14 HB15 k0 k1 k2 k3 k4 k5 k6 k7 hl14 hl15
  gi_wp2_with fail
  generalize w6.heap.size = b14 at *
  generalize w7.heap.size = b15 at *
  generalize w5.heap.size = b5 at *
  refine wpIn_rangeFunc_as (Kp := KpS B1 B2 B3 B4) (St := StS B3 B4) (xs := spotsL f tr lf) rfl (by omega) (gf := 65) (lb := #[.pointer (some ⟨B1, 0, none⟩), .pointer (some ⟨B2, 0, none⟩), .pointer (some ⟨B3, 0, none⟩), .pointer (some ⟨B4, 0, none⟩)]) rfl trivial (enters_of Tryz.func65 (by kernel_rfl) rfl)
    (spots_seq 2 (by omega) f A3 n3 c3 tr lf B1 B2 B3 B4 w8 HM.out.ok.ok HT1.out.1 HSD.out.d HSP.out) StS.keeps (fun h k => h.trans k) (fun W l o o' _ h ho _ => KpS.put W l o o' h ho) (fun _ => rfl)
    (fun pre W => SI f m A1 A2 A3 n1 n2 n3 c1 c2 c3 tr lf (saltL f m extra text ++ fTell f m.seed m.secret tr lf (d.take (pA f))) w b14 b15 B1 B2 B3 B4 pre.length W)
    (fun _ _ _ => False)
    (fun pre W W' row h hg hr => SI.kept h hg (fun r e => ⟨by have := (hr r e).1; omega, (hr r e).2⟩))
    (fun _ _ _ _ _ hs _ _ => hs)
    (fun pre W W' h hst => SI.turned (by omega) h HSD.out hst)
    HSI.out
    (SJ f m A1 A2 A3 n1 n2 n3 c1 c2 c3 tr lf (saltL f m extra text ++ fTell f m.seed m.secret tr lf (d.take (pA f))) w b14 b15 B1 B2 B3 B4 (fun b x => #[(.agg #[.int .i64 (f.N : Int), .int .i64 (f.L : Int), .int .i64 (f.H : Int), .int .i64 (f.K : Int), .int .i64 (f.A : Int)]), (.agg #[.slice A1 n1 c1, .slice A2 n2 c2, .slice A3 n3 c3]), (.slice Ax f.N cx), (.slice At nt ct), (.pointer (some ⟨w.heap.size, 0, none⟩)), (.pointer (some ⟨w.heap.size + 1, 0, none⟩)), undef, undef, (.slice none 0 0), (.int .i64 0), (.slice As ns cs), (.slice Ad (pA f) (pA f)), (.int .u64 (tr : Int)), (.int .u32 (lf : Int)), (.pointer (some ⟨b14, 0, none⟩)), (.pointer (some ⟨b15, 0, none⟩)), (.pointer (some ⟨b, 0, none⟩)), (.agg #[.int .i64 (f.N : Int), .int .i64 (f.L : Int), .int .i64 (f.H : Int), .int .i64 (f.K : Int), .int .i64 (f.A : Int)]), (.agg #[.slice A1 n1 c1, .slice A2 n2 c2, .slice A3 n3 c3]), (.bool true), (.bool false), (.bool false), (.slice Ax f.N cx), (.int .i64 (f.N : Int)), (.pointer (some ⟨w.heap.size, 0, none⟩)), (.int .i64 (f.N : Int)), (.bool false), (.bool false), (.bool false), (.slice At nt ct), (.int .i64 (nt : Int)), (.bool (decide (65536 < (nt : Int)))), (.bool (decide (65536 < (nt : Int)))), (.pointer (some ⟨w.heap.size + 1, 1, none⟩)), (.slice A2 n2 c2), (.slice Ax f.N cx), (.slice At nt ct), v4, v5, (.pointer (some ⟨w.heap.size, 0, none⟩)), (.int .i64 (f.N : Int)), (.slice As ns cs), (.tuple #[.slice A7 (pA f) (pA f), .int .u64 (tr : Int), .int .u32 (lf : Int)]), (.agg #[.int .i64 (f.N : Int), .int .i64 (f.L : Int), .int .i64 (f.H : Int), .int .i64 (f.K : Int), .int .i64 (f.A : Int)]), (.slice As ns cs), (.agg #[.int .i64 (f.N : Int), .int .i64 (f.L : Int), .int .i64 (f.H : Int), .int .i64 (f.K : Int), .int .i64 (f.A : Int)]), (.agg #[.slice A1 n1 c1, .slice A2 n2 c2, .slice A3 n3 c3]), (.slice A4 n4 c4), (.slice At nt ct), (.tuple #[.slice A6 (pA f) (pA f), .int .u64 (tr : Int), .int .u32 (lf : Int)]), (.slice A8 (pA f) (pA f)), (.int .u64 (tr : Int)), (.int .u32 (lf : Int)), (.slice As ns cs), (.agg #[.int .i64 (f.N : Int), .int .i64 (f.L : Int), .int .i64 (f.H : Int), .int .i64 (f.K : Int), .int .i64 (f.A : Int)]), (.agg #[.slice A1 n1 c1, .slice A2 n2 c2, .slice A3 n3 c3]), (.int .u64 (tr : Int)), (.int .u32 (lf : Int)), (.slice Ad (pA f) (pA f)), (.slice A5 n5 c5), (.slice (some ⟨b5, 0, none⟩) 2 2), (.slice A6' (f.N + f.K * ((f.A + 1) * f.N)) c6), (.agg #[.int .i64 (f.N : Int), .int .i64 (f.L : Int), .int .i64 (f.H : Int), .int .i64 (f.K : Int), .int .i64 (f.A : Int)]), (.agg #[.slice A1 n1 c1, .slice A2 n2 c2, .slice A3 n3 c3]), (.int .u64 (tr : Int)), (.int .u32 (lf : Int)), (.slice A7' f.N c7), (.agg #[.int .i64 (f.N : Int), .int .i64 (f.L : Int), .int .i64 (f.H : Int), .int .i64 (f.K : Int), .int .i64 (f.A : Int)]), (.pointer (some ⟨w.heap.size + 1, 2, none⟩)), (.slice A3 n3 c3), (.int .u64 (tr : Int)), (.int .u32 (lf : Int)), (.func (.func 65) #[] #[.pointer (some ⟨B1, 0, none⟩), .pointer (some ⟨B2, 0, none⟩), .pointer (some ⟨B3, 0, none⟩), .pointer (some ⟨B4, 0, none⟩)]), (.agg #[.int .i64 (f.N : Int), .int .i64 (f.L : Int), .int .i64 (f.H : Int), .int .i64 (f.K : Int), .int .i64 (f.A : Int), .slice A3 n3 c3, .int .u32 (x.1 : Int), .int .u64 (x.2.1 : Int), .int .u32 (x.2.2 : Int)]), undef, undef, undef, undef, undef, undef, undef, undef, undef, undef, undef, undef, undef, undef, undef]))
    (fun pre x a1 _ W W' row h hg hr => by
      obtain ⟨b, e1, e2, e3, e4⟩ := h
      exact ⟨b, e1, e2, e3.kept hg (fun r e => (hr r e).2), e4.kept hg (fun r e => ⟨by have := (hr r e).1; omega, (hr r e).2⟩)⟩) ?assign ?body ?done ?stop
  case assign =>
    intro l pre x W hI hpre
    have hlt := World.block_lt_of_cell? _ _ hI.out.choose_spec.choose_spec.1
    have HI := Lib.hid hI
    clear hI
    obtain ⟨x1, x2, x3⟩ := x
    dsimp only [encSpot, vSpot]
    gi_wp2
    refine ⟨KeepsOthers.alloc W _, KpS.of_block (fun b hb => ?_), ⟨W.heap.size, rfl, by omega, SpB.new f A3 n3 c3 x1 x2 x3 W, ?_⟩⟩
    · obtain ⟨t, u, hs⟩ := HI.out.sp
      have h1 := World.block_lt_of_cell? _ _ hs.f0; have h2 := World.block_lt_of_cell? _ _ hs.s; have h3 := World.block_lt_of_cell? _ _ hs.t; have h4 := World.block_lt_of_cell? _ _ hs.q
      dsimp only at h1 h2 h3 h4
      exact Below.heap_alloc W _ _ (by omega)
    · exact HI.out.kept (World.grownBy_alloc W _ none) (fun r e => by cases e)
  case body =>
    rintro l pre x a1 Wq hpre ⟨b, rfl, hb14, hsb, hI⟩
    obtain ⟨hkL, hxe⟩ := spots_next hpre
    have hlen : (pre ++ [x]).length = pre.length + 1 := by simp
    have HLEN2 := Lib.hid hlen
    generalize hkk : pre.length = k at *
    obtain ⟨tk, htk⟩ : ∃ tk, treeAt f.H tr k = tk := ⟨_, rfl⟩
    obtain ⟨lk, hlk⟩ : ∃ lk, leafAt f.H tr lf k = lk := ⟨_, rfl⟩
    rw [htk, hlk] at hxe
    subst hxe
    dsimp only at hsb ⊢
    have htk64 : W64 tk := by rw [← htk]; exact Nat.lt_of_le_of_lt (treeAt_le _ _ _) HT1.out.1
    have hlk2 : lk < 2 ^ f.H := by rw [← hlk]; exact leafAt_lt f tr lf HT1.out.2.2 k
    have hL22 := HM.out.ok.ok.L2
    obtain ⟨new, hnew⟩ : ∃ new, sSign f.N f.H m.seed m.secret k tk lk (ofAt f m tr lf k) = new := ⟨_, rfl⟩
    have HNL : Hid (new.length = sEach f) := Lib.hid (by rw [← hnew]; exact sSign_length f.N f.H (by omega) _ _ _ _ _ _)
    have HNEW := Lib.hid hnew
    have HOL := Lib.hid (ofAt_length f (by omega) m tr lf k)
    have HLK : Hid (lk < 4294967296 ∧ lk < 2 ^ f.H) := Lib.hid ⟨by have := pow512_le HM.out.ok.ok.H2; omega, hlk2⟩
    obtain ⟨Ao, co, ho, hoo⟩ := hI.out
    obtain ⟨Af, cf, hf, hof⟩ := hI.of
    have HSGr : Hid (SG f A3 n3 m.seed k tk Wq.drew) := Lib.hid (SG.below (w := Wq) ⟨(HM.out.below hI.below).laid, HM.out.ok.ok, (HM.out.below hI.below).r3, HM.out.ok.seed, by omega, htk64⟩ (Below.refl _ _).drew)
    have HRS : Hid (Rd eB Wq.drew A1 n1 m.secret) := Lib.hid ((HM.out.below hI.below).r1.below (Below.refl _ _).drew)
    have HOF := Lib.hid (hof.below (Below.refl _ _).drew)
    have HZW : Hid (w.heap.size + 2 ≤ Wq.drew.heap.size) := Lib.hid (World.block_lt_of_cell? _ _ hI.sb.m0)
    have HMI := Lib.hid (fun (W w' : World) (A' : Option Addr) (c' : Nat) (g : Grow Wq W) (h4 : W.grownBy w' (Ao.map (·.block))) => hI.mid (Wb := w') (by omega) HSD.out (.slice A' (f.N + f.K * ((f.A + 1) * f.N) + k * sEach f + sEach f) c') ho hoo hf hsb hb14 g h4)
    have HNX := Lib.hid (fun (W w' Wc : World) (A' Ar : Option Addr) (c' cr : Nat) (g : Grow Wq W) h3 (h4 : W.grownBy w' (Ao.map (·.block))) => hI.next (Wa := W) (Wb := w') (Wc := Wc) (A' := A') (c' := c') (Ar := Ar) (cr := cr) (new := new) (by omega) HSD.out ho hoo g h3 h4 (by rw [← hnew, htk, hlk]))
    have hNOb : f.N + f.K * ((f.A + 1) * f.N) + k * sEach f ≤ 100000 ∧ sEach f ≤ 2400 := by
      have h1 := mulKAN HM.out.ok
      have h2 : sEach f ≤ 32 * 73 := Nat.mul_le_mul hN2 (by have := HM.out.ok.H; unfold chainsL; omega)
      have h3 : k * sEach f ≤ 22 * (32 * 73) := Nat.mul_le_mul (by omega) h2
      omega
    have HOO := Lib.hid hoo
    obtain ⟨NO, hNO⟩ : ∃ NO, f.N + f.K * ((f.A + 1) * f.N) + k * sEach f = NO := ⟨_, rfl⟩
    rw [hNO] at ho hNOb HMI HNX HOO
    obtain ⟨hNO1, hNO2⟩ := hNOb
    have HNO := Lib.hid hNO
    have HTK := Lib.hid (And.intro htk (And.intro hlk htk64))
    have k0 := cell_old (Below.refl _ _).drew ho; have k1 := cell_old (Below.refl _ _).drew hsb.s0; have k2 := cell_old (Below.refl _ _).drew hsb.s1; have k3 := cell_old (Below.refl _ _).drew hsb.s2; have k4 := cell_old (Below.refl _ _).drew hsb.s3; have k5 := cell_old (Below.refl _ _).drew hsb.s4; have k6 := cell_old (Below.refl _ _).drew hsb.s5; have k7 := cell_old (Below.refl _ _).drew hsb.s6; have k8 := cell_old (Below.refl _ _).drew hsb.s7; have k9 := cell_old (Below.refl _ _).drew hsb.s8; have k10 := cell_old (Below.refl _ _).drew hI.sb.m0; have k11 := cell_old (Below.refl _ _).drew hf
    clear hI ho hoo hf hof hsb hnew htk hlk htk64 hlk2 hNO hpre hlen
    gi_wp2_with fail
    refine wpIn_region_rg (fun ⟨_, _, h⟩ => h) (by kernel_rfl) Grow 89 6 8 [[], [], [], [], [], []]
      [.still [] (.slice Ao NO co), .still [] (.agg #[.int .i64 (f.N : Int), .int .i64 (f.L : Int), .int .i64 (f.H : Int), .int .i64 (f.K : Int), .int .i64 (f.A : Int), .slice A3 n3 c3, .int .u32 (k : Int), .int .u64 (tk : Int), .int .u32 (lk : Int)]), .still [] (.pointer (some ⟨w.heap.size + 1, 0, none⟩)), .still [] (.slice A1 n1 c1), .still [] (.slice Af f.N cf), .grow [] (OwnV eB (w.heap.size + 2) new)] (by kernel_rfl) (by kernel_rfl) rfl rfl rfl Grow.trans (Grow.refl _) ?_
    iterate 5
      refine Obl.still (fun W hg _ => ?_) ?_
      · have c0 := cell_old hg k0; have c1 := cell_old hg k1; have c2 := cell_old hg k2; have c3 := cell_old hg k3; have c4 := cell_old hg k4; have c5 := cell_old hg k5; have c6 := cell_old hg k6; have c7 := cell_old hg k7; have c8 := cell_old hg k8; have c9 := cell_old hg k9; have c10 := cell_old hg k10; have c11 := cell_old hg k11; clear hg k0 k1 k2 k3 k4 k5 k6 k7 k8 k9 k10 k11
        go_wp2
        exact ⟨rfl, rfl, rfl, Grow.refl _⟩
      simp only [Act.put, List.setIfInBounds_toArray, List.set_cons_zero, List.set_cons_succ]
    refine Obl.grow (OwnV.keep _ _ _) (fun W hg _ => ?_) (fun v5 => ?_)
    · have HC := Lib.hid (ssign_any f A3 A1 Af n3 c3 n1 c1 f.N cf m.seed m.secret (ofAt f m tr lf k) k tk lk W (HSGr.out.below hg) HM.out.ok.H HLK.out.1 HLK.out.2 (HRS.out.below hg) HM.out.ok.secret (HOF.out.rd.below hg) HOL.out)
      unfold vSpot at HC
      rw [HNEW.out] at HC
      have hsz : w.heap.size + 2 ≤ W.heap.size := Nat.le_trans HZW.out hg.size
      clear hg k0 k1 k2 k3 k4 k5 k6 k7 k8 k9 k10 k11
      go_wp2_with fail
      refine (HC.out).mono ?_
      rintro e w' ⟨A1, n1, c1, rfl, h1, h2⟩
      go_wp2
      exact ⟨rfl, rfl, ⟨_, _, _, rfl, h1.mono hsz⟩, h2⟩
    simp only [Act.put, List.setIfInBounds_toArray, List.set_cons_zero, List.set_cons_succ]
    refine Obl.done (fun W hg hall => ?_)
    obtain ⟨h5, _⟩ := hall
    obtain ⟨A9, n9, c9, rfl, h5⟩ := h5
    have hn9 : n9 = sEach f := by rw [← h5.len, HNL.out]
    subst hn9
    have HOa := Lib.hid (HOO.out.below ((Below.refl _ _).drew.trans hg))
    have H5 := Lib.hid h5.rd
    have hszW : w.heap.size + 2 ≤ W.heap.size := Nat.le_trans HZW.out hg.size
    have HG9 : Hid (Grow Wq W) := Lib.hid ((Below.refl _ _).drew.trans hg)
    clear hg h5 k0 k1 k2 k3 k4 k5 k6 k7 k8 k9 k10 k11
    go_wp2_with (at_builtin; refine wpList_append_sl rfl _ _ 24 5 (.int .u8 0) 1 rfl Tryz.underlying24 infoB rfl (fun _ => rfl) rfl rfl HOa.out H5.out (by omega) (by omega) hszW ?_; intro A' c' w' h5 h6 h7; have HMM := HMI.out W w' A' c' HG9.out h6; obtain ⟨⟨v14, q14⟩, qf14⟩ := And.intro HMM.c14 HMM.f14; have q15 := HMM.c15; have qf15 := HMM.f15; have z0 := HMM.sb.k0; have z1 := HMM.sb.k1; have z2 := HMM.sb.k2; have z3 := HMM.sb.k3; have z4 := HMM.sb.k4; have z5 := HMM.sb.m0; have z6 := HMM.sb.m1; have z7 := HMM.sb.m2; have z8 := HMM.sp.s6; have z9 := HMM.sp.s7; have H9 := Lib.hid h5; have H6 := Lib.hid h6; have HMMh := Lib.hid HMM; clear h5 h6 h7 HMM)
    gi_wp2_with fail
    refine ⟨trivial, ?_⟩
    have HR := Lib.hid (root_any f m A1 A2 A3 n1 n2 n3 c1 c2 c3 k tk _ (HM.out.below HMMh.out.below) (by omega) HTK.out.2.2)
    unfold vFew vSec at HR
    refine (callsIn_wide.2 HR.out).mono ?_
    rintro e w10 ⟨Ar, nr, cr, rfl, hr, gr⟩
    obtain rfl : f.N = nr := by rw [← hr.len, rootL_length f m _ _ (by omega)]
    have HRR := Lib.hid hr
    have HGR := Lib.hid gr
    have y15 := cell_old gr q15
    have yf15 := (World.frozen?_of_block (a := ⟨b15, 0, none⟩) (gr.block _ (World.block_lt_of_cell? _ _ q15))).trans qf15
    clear HR hr gr q15 qf15 q14 qf14 z0 z1 z2 z3 z4 z5 z6 z7 z8 z9
    gi_wp2
    have hfin := HNX.out _ _ _ _ _ _ _ HG9.out H9.out H6.out HGR.out (HTK.out.1 ▸ (HRR.out.mono (World.block_lt_of_cell? _ _ HMMh.out.sb.m0)))
    obtain ⟨f1, f2, f3⟩ := hfin
    refine ⟨f1, f2, ?_⟩
    dsimp only
    rw [HLEN2.out]
    exact f3

  case done =>
    rintro D W hD hI hK
    obtain ⟨Ao, co, ho, hoo⟩ := hI.out
    have hll : (spotsL f tr lf).length = f.L := by simp [spotsL]
    rw [hll] at ho hoo
    have HOO := Lib.hid hoo
    have HBE := Lib.hid hI.below
    have HD2 := Lib.hid hD
    clear hI hoo hll hD
    gi_wp2
    refine ⟨by simp, .inl ⟨_, _, rfl, run_takeDeferred hK, ?_⟩⟩
    refine ⟨.tuple #[.slice Ao (f.N + f.K * ((f.A + 1) * f.N) + f.L * sEach f) co, .int .i64 0], by simp [results, Tryz.f8, go_sem], Ao, _, co, rfl, ?_, ?_⟩
    · rw [HSG.out]
      exact (HOO.out.kept (grownBy_putObj' W D _) (fun r e => by cases e; exact ⟨_, hK, rfl⟩)).mono (by omega)
    · exact HBE.out.trans (belowK_b (w := w) (Nat.le_refl _) W D _ _ (by have := HD2.out; omega) hK rfl rfl)
  case stop =>
    rintro D c pre W _ _ h _
    exact h.elim
end Go.Proofs.Sl

/- slh: where nothing is signed. -/
namespace Go.Proofs.Sl
open Go.RowKit Go.Proofs

theorem sign_not (N L H K A : Int) (A1 A2 A3 Ax At : Option Addr) (n1 n2 n3 c1 c2 c3 nx cx nt ct : Nat) (w : World) (h : madeI N L H K A n1 n2 n3 = false) :
    Calls Tryz.prog 8 #[vFewI N L H K A, vSec A1 A2 A3 n1 n2 n3 c1 c2 c3, .slice Ax nx cx, .slice At nt ct] w (RetV w (.tuple #[.slice none 0 0, .int .i64 1])) := by
  have HC := Lib.hid (fun w => h ▸ made_any N L H K A A1 A2 A3 n1 n2 n3 c1 c2 c3 w)
  unfold vFewI vSec at *
  go_enter Tryz.func8, Tryz.ntmps8
  go_wp2_with fail
  refine (HC.out _).mono ?_
  rintro e w1 ⟨rfl, hB⟩
  have g1 : Grow w w1 := (((Below.refl _ w).alloc (Nat.le_refl _) _).alloc (by simp) _).trans (hB.mono (by simp; omega))
  clear hB
  go_wp2
  go_ret2
  exact ⟨rfl, g1⟩
theorem sign_extra (N L H K A : Int) (A1 A2 A3 Ax At : Option Addr) (n1 n2 n3 c1 c2 c3 nx cx nt ct : Nat) (w : World) (h : madeI N L H K A n1 n2 n3 = true) (hx : (nx : Int) ≠ N) :
    Calls Tryz.prog 8 #[vFewI N L H K A, vSec A1 A2 A3 n1 n2 n3 c1 c2 c3, .slice Ax nx cx, .slice At nt ct] w (RetV w (.tuple #[.slice none 0 0, .int .i64 1])) := by
  have HC := Lib.hid (fun w => h ▸ made_any N L H K A A1 A2 A3 n1 n2 n3 c1 c2 c3 w)
  have hne : ((nx : Int) != N) = true := by simpa using hx
  clear h hx
  unfold vFewI vSec at *
  go_enter Tryz.func8, Tryz.ntmps8
  go_wp2_with fail
  refine (HC.out _).mono ?_
  rintro e w1 ⟨rfl, hB⟩
  have k0 : w1.cell? ⟨w.heap.size, 0, none⟩ = some (.int .i64 N) := (hB.cell (by simp; omega)).trans (by go_simp)
  have g1 : Grow w w1 := (((Below.refl _ w).alloc (Nat.le_refl _) _).alloc (by simp) _).trans (hB.mono (by simp; omega))
  clear hB
  go_wp2
  go_ret2
  exact ⟨rfl, g1⟩
end Go.Proofs.Sl

/- slh: where nothing fits. -/
namespace Go.Proofs.Sl
open Go.RowKit Go.Proofs

set_option maxHeartbeats 1000000 in
theorem fits_not (N L H K A : Int) (Ap At As : Option Addr) (np cp nt ct ns cs : Nat) (w : World) (h : mayI N L H K A = false) :
    Calls Tryz.prog 21 #[vFewI N L H K A, .slice Ap np cp, .slice At nt ct, .slice As ns cs] w (RetV w (.bool false)) := by
  have HM := Lib.hid (fun w => h ▸ may_any N L H K A w)
  unfold vFewI at *
  go_enter Tryz.func21, Tryz.ntmps21
  go_wp2
  generalize hW0 : World.alloc (World.alloc w _) _ = W0
  have HG1 : Hid (Below w.heap.size w W0.drew) := Lib.hid (by rw [← hW0]; exact (((Below.refl _ _).alloc (Nat.le_refl _) _).alloc (by simp) _).drew)
  have k0 : W0.drew.cell? ⟨w.heap.size, 0, none⟩ = some (.int .i64 N) := by subst hW0; go_simp
  have k1 : W0.drew.cell? ⟨w.heap.size, 1, none⟩ = some (.int .i64 L) := by subst hW0; go_simp
  have k2 : W0.drew.cell? ⟨w.heap.size, 2, none⟩ = some (.int .i64 H) := by subst hW0; go_simp
  have k3 : W0.drew.cell? ⟨w.heap.size, 3, none⟩ = some (.int .i64 K) := by subst hW0; go_simp
  have k4 : W0.drew.cell? ⟨w.heap.size, 4, none⟩ = some (.int .i64 A) := by subst hW0; go_simp
  have k5 : W0.drew.cell? ⟨w.heap.size + 1, 0, none⟩ = some (.slice As ns cs) := by subst hW0; go_simp
  clear hW0
  refine wp_region_rg Grow 111 23 10 [[], [], [], [], [], [], [], [], [], [], [], [], [], [], [], [], [], [], [], [], [], [], []]
    [.still [] (.agg #[.int .i64 N, .int .i64 L, .int .i64 H, .int .i64 K, .int .i64 A]), .still [] (.bool false), .still [] (.bool true), .still [] (.bool true), .still [] undef, .still [] undef, .still [] undef, .still [] undef, .still [] undef, .still [] undef, .still [] (.bool true), .still [] (.bool true), .still [] undef, .still [] undef, .still [] undef, .still [] undef, .still [] undef, .still [] (.bool true), .still [] (.bool true), .still [] undef, .still [] undef, .still [] undef, .still [] (.bool true)] (by kernel_rfl) (by kernel_rfl) rfl rfl rfl Grow.trans (Grow.refl _) ?_
  refine Obl.still (fun W hg _ => ?_) ?_
  · have c0 := cell_old hg k0; have c1 := cell_old hg k1; have c2 := cell_old hg k2; have c3 := cell_old hg k3; have c4 := cell_old hg k4; have c5 := cell_old hg k5; clear hg k0 k1 k2 k3 k4 k5
    go_wp2
    exact ⟨rfl, rfl, rfl, Grow.refl _⟩
  simp only [Act.put, List.setIfInBounds_toArray, List.set_cons_zero, List.set_cons_succ]
  refine Obl.still (fun W hg _ => ?_) ?_
  · have HC := Lib.hid (HM.out W)
    clear hg k0 k1 k2 k3 k4 k5
    go_wp2_with fail
    refine (HC.out).mono ?_
    rintro e w' ⟨rfl, hB⟩
    have hG : Grow W w' := hB
    clear hB
    go_wp2
    exact ⟨rfl, rfl, rfl, hG⟩
  simp only [Act.put, List.setIfInBounds_toArray, List.set_cons_zero, List.set_cons_succ]
  iterate 21
    refine Obl.still (fun W hg _ => ?_) ?_
    · have c0 := cell_old hg k0; have c1 := cell_old hg k1; have c2 := cell_old hg k2; have c3 := cell_old hg k3; have c4 := cell_old hg k4; have c5 := cell_old hg k5; clear hg k0 k1 k2 k3 k4 k5
      go_wp2
      exact ⟨rfl, rfl, rfl, Grow.refl _⟩
    simp only [Act.put, List.setIfInBounds_toArray, List.set_cons_zero, List.set_cons_succ]
  refine Obl.done (fun W hg hall => ?_)
  have hB := HG1.out.trans (hg.mono HG1.out.size)
  clear hg k0 k1 k2 k3 k4 k5 hall
  go_wp2
  go_ret
  exact ⟨rfl, hB⟩


set_option maxHeartbeats 1000000 in
theorem fits_public (f : Few) (hf : FewOk f) (Ap At As : Option Addr) (np cp nt ct ns cs : Nat) (w : World) (hp : np ≠ 2 * f.N) :
    Calls Tryz.prog 21 #[vFew f, .slice Ap np cp, .slice At nt ct, .slice As ns cs] w (RetV w (.bool false)) := by
  have HM := Lib.hid (fun w => mayI_ok' hf ▸ may_any f.N f.L f.H f.K f.A w)
  have hne : ((np : Int) != 2 * (f.N : Int)) = true := by simp only [bne_iff_ne]; omega
  have hN2 := hf.N.le
  clear hf
  unfold vFewI at HM
  unfold vFew
  go_enter Tryz.func21, Tryz.ntmps21
  go_wp2
  generalize hW0 : World.alloc (World.alloc w _) _ = W0
  have HG1 : Hid (Below w.heap.size w W0.drew) := Lib.hid (by rw [← hW0]; exact (((Below.refl _ _).alloc (Nat.le_refl _) _).alloc (by simp) _).drew)
  have k0 : W0.drew.cell? ⟨w.heap.size, 0, none⟩ = some (.int .i64 (f.N : Int)) := by subst hW0; go_simp
  have k1 : W0.drew.cell? ⟨w.heap.size, 1, none⟩ = some (.int .i64 (f.L : Int)) := by subst hW0; go_simp
  have k2 : W0.drew.cell? ⟨w.heap.size, 2, none⟩ = some (.int .i64 (f.H : Int)) := by subst hW0; go_simp
  have k3 : W0.drew.cell? ⟨w.heap.size, 3, none⟩ = some (.int .i64 (f.K : Int)) := by subst hW0; go_simp
  have k4 : W0.drew.cell? ⟨w.heap.size, 4, none⟩ = some (.int .i64 (f.A : Int)) := by subst hW0; go_simp
  have k5 : W0.drew.cell? ⟨w.heap.size + 1, 0, none⟩ = some (.slice As ns cs) := by subst hW0; go_simp
  clear hW0
  refine wp_region_rg Grow 111 23 10 [[], [], [], [], [], [], [], [], [], [], [], [], [], [], [], [], [], [], [], [], [], [], []]
    [.still [] (.agg #[.int .i64 (f.N : Int), .int .i64 (f.L : Int), .int .i64 (f.H : Int), .int .i64 (f.K : Int), .int .i64 (f.A : Int)]), .still [] (.bool true), .still [] (.bool false), .still [] (.bool false), .still [] (.slice Ap np cp), .still [] (.int .i64 (np : Int)), .still [] (.pointer (some ⟨w.heap.size, 0, none⟩)), .still [] (.int .i64 (f.N : Int)), .still [] (.int .i64 (2 * (f.N : Int))), .still [] (.bool true), .still [] (.bool true), .still [] (.bool true), .still [] undef, .still [] undef, .still [] undef, .still [] undef, .still [] undef, .still [] (.bool true), .still [] (.bool true), .still [] undef, .still [] undef, .still [] undef, .still [] (.bool true)] (by kernel_rfl) (by kernel_rfl) rfl rfl rfl Grow.trans (Grow.refl _) ?_
  refine Obl.still (fun W hg _ => ?_) ?_
  · have c0 := cell_old hg k0; have c1 := cell_old hg k1; have c2 := cell_old hg k2; have c3 := cell_old hg k3; have c4 := cell_old hg k4; have c5 := cell_old hg k5; clear hg k0 k1 k2 k3 k4 k5
    go_wp2
    exact ⟨rfl, rfl, rfl, Grow.refl _⟩
  simp only [Act.put, List.setIfInBounds_toArray, List.set_cons_zero, List.set_cons_succ]
  refine Obl.still (fun W hg _ => ?_) ?_
  · have HC := Lib.hid (HM.out W)
    clear hg k0 k1 k2 k3 k4 k5
    go_wp2_with fail
    refine (HC.out).mono ?_
    rintro e w' ⟨rfl, hB⟩
    have hG : Grow W w' := hB
    clear hB
    go_wp2
    exact ⟨rfl, rfl, rfl, hG⟩
  simp only [Act.put, List.setIfInBounds_toArray, List.set_cons_zero, List.set_cons_succ]
  iterate 21
    refine Obl.still (fun W hg _ => ?_) ?_
    · have c0 := cell_old hg k0; have c1 := cell_old hg k1; have c2 := cell_old hg k2; have c3 := cell_old hg k3; have c4 := cell_old hg k4; have c5 := cell_old hg k5; clear hg k0 k1 k2 k3 k4 k5
      go_wp2
      exact ⟨rfl, rfl, rfl, Grow.refl _⟩
    simp only [Act.put, List.setIfInBounds_toArray, List.set_cons_zero, List.set_cons_succ]
  refine Obl.done (fun W hg hall => ?_)
  have hB := HG1.out.trans (hg.mono HG1.out.size)
  clear hg k0 k1 k2 k3 k4 k5 hall
  go_wp2
  go_ret
  exact ⟨rfl, hB⟩


set_option maxHeartbeats 1000000 in
theorem fits_sig (f : Few) (hf : FewOk f) (Ap At As : Option Addr) (cp nt ct ns cs : Nat) (w : World) (hp : ns ≠ sizeL f) :
    Calls Tryz.prog 21 #[vFew f, .slice Ap (2 * f.N) cp, .slice At nt ct, .slice As ns cs] w (RetV w (.bool false)) := by
  have HM := Lib.hid (fun w => mayI_ok' hf ▸ may_any f.N f.L f.H f.K f.A w)
  have HZ := Lib.hid (fun w => size_any f hf w)
  have hN2 := hf.N.le
  obtain ⟨sz, hsz⟩ : ∃ sz, sizeL f = sz := ⟨_, rfl⟩
  rw [hsz] at hp HZ
  obtain ⟨np, hnp⟩ : ∃ np, 2 * f.N = np := ⟨_, rfl⟩
  rw [hnp]
  have hne1 : ((np : Int) != 2 * (f.N : Int)) = false := by simp only [bne_eq_false_iff_eq]; omega
  have hne : ((ns : Int) != (sz : Int)) = true := by simp only [bne_iff_ne]; omega
  have HNP := Lib.hid hnp
  clear hf hsz hnp hp
  unfold vFewI at HM
  unfold vFew at *
  go_enter Tryz.func21, Tryz.ntmps21
  go_wp2
  generalize hW0 : World.alloc (World.alloc w _) _ = W0
  have HG1 : Hid (Below w.heap.size w W0.drew) := Lib.hid (by rw [← hW0]; exact (((Below.refl _ _).alloc (Nat.le_refl _) _).alloc (by simp) _).drew)
  have k0 : W0.drew.cell? ⟨w.heap.size, 0, none⟩ = some (.int .i64 (f.N : Int)) := by subst hW0; go_simp
  have k1 : W0.drew.cell? ⟨w.heap.size, 1, none⟩ = some (.int .i64 (f.L : Int)) := by subst hW0; go_simp
  have k2 : W0.drew.cell? ⟨w.heap.size, 2, none⟩ = some (.int .i64 (f.H : Int)) := by subst hW0; go_simp
  have k3 : W0.drew.cell? ⟨w.heap.size, 3, none⟩ = some (.int .i64 (f.K : Int)) := by subst hW0; go_simp
  have k4 : W0.drew.cell? ⟨w.heap.size, 4, none⟩ = some (.int .i64 (f.A : Int)) := by subst hW0; go_simp
  have k5 : W0.drew.cell? ⟨w.heap.size + 1, 0, none⟩ = some (.slice As ns cs) := by subst hW0; go_simp
  clear hW0
  refine wp_region_rg Grow 111 23 10 [[], [], [], [], [], [], [], [], [], [], [], [], [], [], [], [], [], [], [], [], [], [], []]
    [.still [] (.agg #[.int .i64 (f.N : Int), .int .i64 (f.L : Int), .int .i64 (f.H : Int), .int .i64 (f.K : Int), .int .i64 (f.A : Int)]), .still [] (.bool true), .still [] (.bool false), .still [] (.bool false), .still [] (.slice Ap np cp), .still [] (.int .i64 (np : Int)), .still [] (.pointer (some ⟨w.heap.size, 0, none⟩)), .still [] (.int .i64 (f.N : Int)), .still [] (.int .i64 (2 * (f.N : Int))), .still [] (.bool false), .still [] (.bool false), .still [] (.bool false), .still [] (.slice As ns cs), .still [] (.int .i64 (ns : Int)), .still [] (.agg #[.int .i64 (f.N : Int), .int .i64 (f.L : Int), .int .i64 (f.H : Int), .int .i64 (f.K : Int), .int .i64 (f.A : Int)]), .still [] (.int .i64 (sz : Int)), .still [] (.bool true), .still [] (.bool true), .still [] (.bool true), .still [] undef, .still [] undef, .still [] undef, .still [] (.bool true)] (by kernel_rfl) (by kernel_rfl) rfl rfl rfl Grow.trans (Grow.refl _) ?_
  refine Obl.still (fun W hg _ => ?_) ?_
  · have c0 := cell_old hg k0; have c1 := cell_old hg k1; have c2 := cell_old hg k2; have c3 := cell_old hg k3; have c4 := cell_old hg k4; have c5 := cell_old hg k5; clear hg k0 k1 k2 k3 k4 k5
    go_wp2
    exact ⟨rfl, rfl, rfl, Grow.refl _⟩
  simp only [Act.put, List.setIfInBounds_toArray, List.set_cons_zero, List.set_cons_succ]
  refine Obl.still (fun W hg _ => ?_) ?_
  · have HC := Lib.hid (HM.out W)
    clear hg k0 k1 k2 k3 k4 k5
    go_wp2_with fail
    refine (HC.out).mono ?_
    rintro e w' ⟨rfl, hB⟩
    have hG : Grow W w' := hB
    clear hB
    go_wp2
    exact ⟨rfl, rfl, rfl, hG⟩
  simp only [Act.put, List.setIfInBounds_toArray, List.set_cons_zero, List.set_cons_succ]
  iterate 13
    refine Obl.still (fun W hg _ => ?_) ?_
    · have c0 := cell_old hg k0; have c1 := cell_old hg k1; have c2 := cell_old hg k2; have c3 := cell_old hg k3; have c4 := cell_old hg k4; have c5 := cell_old hg k5; clear hg k0 k1 k2 k3 k4 k5
      go_wp2
      exact ⟨rfl, rfl, rfl, Grow.refl _⟩
    simp only [Act.put, List.setIfInBounds_toArray, List.set_cons_zero, List.set_cons_succ]
  refine Obl.still (fun W hg _ => ?_) ?_
  · have HC := Lib.hid (HZ.out W)
    clear hg k0 k1 k2 k3 k4 k5
    go_wp2_with fail
    refine (HC.out).mono ?_
    rintro e w' ⟨rfl, hB⟩
    have hG : Grow W w' := hB
    clear hB
    go_wp2
    exact ⟨rfl, rfl, rfl, hG⟩
  simp only [Act.put, List.setIfInBounds_toArray, List.set_cons_zero, List.set_cons_succ]
  iterate 7
    refine Obl.still (fun W hg _ => ?_) ?_
    · have c0 := cell_old hg k0; have c1 := cell_old hg k1; have c2 := cell_old hg k2; have c3 := cell_old hg k3; have c4 := cell_old hg k4; have c5 := cell_old hg k5; clear hg k0 k1 k2 k3 k4 k5
      go_wp2
      exact ⟨rfl, rfl, rfl, Grow.refl _⟩
    simp only [Act.put, List.setIfInBounds_toArray, List.set_cons_zero, List.set_cons_succ]
  refine Obl.done (fun W hg hall => ?_)
  have hB := HG1.out.trans (hg.mono HG1.out.size)
  clear hg k0 k1 k2 k3 k4 k5 hall
  go_wp2
  go_ret
  exact ⟨rfl, hB⟩

end Go.Proofs.Sl
