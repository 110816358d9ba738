/- slh: whether a signature fits. The statements' first lines: answers that the document fixes. -/
import Derived.Test.YtipedpkkabfdjaaGreatDoorFits23
import Derived.Test.YtipedpkkabfdjaaGreatDoorFits20
import Derived.Test.YtipedpkkabfdjaaGreatDoorFits22
import Derived.Test.YtipedpkkabfdjaaGreatDoorFits21
/- slh: whether a signature fits. -/
namespace Go.Proofs.Sl
open Go.RowKit Go.Proofs
attribute [local go_sem] Oper.semAt_some

set_option maxHeartbeats 4000000 in
theorem fits_any (f : Few) (hf : FewOk f) (Ap At As : Option Addr) (cp nt ct ns cs : Nat) (pub text sig : List UInt8) (w : World) (hL : Laid w) (hp : Rd eB w Ap (2 * f.N) pub) (hcp : 2 * f.N ≤ cp) (ht : Rd eB w At nt text) (htl : text.length ≤ 65536) (hs : Rd eB w As ns sig) (hns : ns = sizeL f) (hcs : ns ≤ cs) :
    Calls Tryz.prog 21 #[vFew f, .slice Ap (2 * f.N) cp, .slice At nt ct, .slice As ns cs] w (RetV w (.bool (fitsL f pub text sig))) := by
  have HM := Lib.hid (fun w => mayI_ok' hf ▸ may_any f.N f.L f.H f.K f.A w)
  have HZ := Lib.hid (fun w => size_any f hf w)
  rw [← hns] at HZ
  have hnt : nt ≤ 65536 := by rw [← ht.len]; exact htl
  have hN1 := hf.N.pos
  have hN2 := hf.N.le
  have HF := Lib.hid hf
  have HL := Lib.hid hL
  have HT := Lib.hid ht
  have HTL := Lib.hid htl
  have HS := Lib.hid hs
  have HNS := Lib.hid hns
  have hsz1 : sHead f + f.L * sEach f = ns := by rw [hns]; unfold sHead sEach sizeL; rw [Nat.mul_left_comm f.L f.N, ← Nat.mul_add]
  have hka0 : 1 * 2 ≤ f.K * (f.A + 1) := Nat.mul_le_mul hf.K1 (by have := hf.A1; omega)
  have hsH : f.N + f.K * ((f.A + 1) * f.N) = sHead f := (sHead_eq f).symm
  have hka1 : f.N * 2 ≤ f.N * (f.K * (f.A + 1)) := Nat.mul_le_mul_left _ (by omega)
  have hsH2 : sHead f = f.N + f.N * (f.K * (f.A + 1)) := by unfold sHead; rw [Nat.mul_add, Nat.mul_one]
  have hnsN : f.N < ns := by omega
  have hsHN : f.N ≤ sHead f ∧ sHead f ≤ ns := by omega
  have HSH := Lib.hid (And.intro hsz1 (And.intro hsH hsHN))
  clear hsz1 hsH hka1 hsH2 hka0 hsHN
  obtain ⟨np, hnp⟩ : ∃ np, 2 * f.N = np := ⟨_, rfl⟩
  rw [hnp] at hp hcp ⊢
  have HPL : Hid (pub.length = f.N + f.N) := Lib.hid (by rw [hp.len, ← hnp]; omega)
  have HP := Lib.hid hp
  have HSA : Hid (Rd eB w As f.N (cutL sig 0 f.N)) := Lib.hid (by have := hs.take f.N (by omega); simpa [cutL] using this)
  have HSL : Hid ((cutL sig 0 f.N).length = f.N) := Lib.hid HSA.out.len
  have hne1 : ((np : Int) != 2 * (f.N : Int)) = false := by simp only [bne_eq_false_iff_eq]; omega
  have hne2 : ((ns : Int) != (ns : Int)) = false := by simp
  have hnp2 : np - f.N = f.N := by omega
  have hle1 : f.N ≤ np := by omega
  have hle2 : f.N ≤ cp := by omega
  have hle3 : f.N ≤ cs := by omega
  have hne3 : ¬ cp = f.N := by omega
  have HNP := Lib.hid hnp
  have hnt2 : ¬ (65536 : Int) < (nt : Int) := by omega
  clear hf hL ht htl hs hns hp hnp
  unfold vFewI at HM
  unfold vFew at HZ ⊢
  refine (callsIn_wide (n := 3)).1 ?_
  refine callsIn_of_wp_marks Tryz.func21 rfl trivial ?_ rfl
  simp only [Tryz.ntmps21, List.size_toArray, List.length_cons, List.length_nil, Nat.reduceAdd, Nat.reduceSub, Array.replicate_succ, Array.replicate_zero, List.push_toArray, List.append_toArray, List.nil_append, List.cons_append]
  gi_wp2_with fail
  generalize hW0 : World.alloc (World.alloc w _) _ = W0
  have HG1 : Hid (Below w.heap.size w W0.drew) := Lib.hid (by rw [← hW0]; exact (((Below.refl _ _).alloc (Nat.le_refl _) _).alloc (by simp) _).drew)
  have HFB1 : Hid (FB f As ns cs w.heap.size W0.drew) := Lib.hid (by rw [← hW0]; exact (FB.start f As ns cs w).below (Below.refl _ _).drew)
  clear hW0
  obtain ⟨k0, k1, k2, k3, k4, k5⟩ := HFB1.out
  refine wpIn_region_wide Grow 111 23 10 [[], [], [], [], [], [], [], [], [], [], [], [], [], [], [], [], [], [], [], [], [], [], []]
    [.still [] (.agg #[.int .i64 (f.N : Int), .int .i64 (f.L : Int), .int .i64 (f.H : Int), .int .i64 (f.K : Int), .int .i64 (f.A : Int)]), .still [] (.bool true), .still [] (.bool false), .still [] (.bool false), .still [] (.slice Ap np cp), .still [] (.int .i64 (np : Int)), .still [] (.pointer (some ⟨w.heap.size, 0, none⟩)), .still [] (.int .i64 (f.N : Int)), .still [] (.int .i64 (2 * (f.N : Int))), .still [] (.bool false), .still [] (.bool false), .still [] (.bool false), .still [] (.slice As ns cs), .still [] (.int .i64 (ns : Int)), .still [] (.agg #[.int .i64 (f.N : Int), .int .i64 (f.L : Int), .int .i64 (f.H : Int), .int .i64 (f.K : Int), .int .i64 (f.A : Int)]), .still [] (.int .i64 (ns : Int)), .still [] (.bool false), .still [] (.bool false), .still [] (.bool false), .still [] (.slice At nt ct), .still [] (.int .i64 (nt : Int)), .still [] (.bool (decide (65536 < (nt : Int)))), .still [] (.bool (decide (65536 < (nt : Int))))] (by kernel_rfl) (by kernel_rfl) rfl rfl rfl Grow.trans (Grow.refl _) ?_
  refine Obl.still (fun W hg _ => ?_) ?_
  · have c0 := cell_old hg k0; have c1 := cell_old hg k1; have c2 := cell_old hg k2; have c3 := cell_old hg k3; have c4 := cell_old hg k4; have c5 := cell_old hg k5; clear hg k0 k1 k2 k3 k4 k5
    go_wp2
    exact ⟨rfl, rfl, rfl, Grow.refl _⟩
  simp only [Act.put, List.setIfInBounds_toArray, List.set_cons_zero, List.set_cons_succ]
  refine Obl.still (fun W hg _ => ?_) ?_
  · have HC := Lib.hid (HM.out W)
    clear hg k0 k1 k2 k3 k4 k5
    go_wp2_with fail
    refine (HC.out).mono ?_
    rintro e w' ⟨rfl, hB⟩
    have hG : Grow W w' := hB
    clear hB
    go_wp2
    exact ⟨rfl, rfl, rfl, hG⟩
  simp only [Act.put, List.setIfInBounds_toArray, List.set_cons_zero, List.set_cons_succ]
  iterate 13
    refine Obl.still (fun W hg _ => ?_) ?_
    · have c0 := cell_old hg k0; have c1 := cell_old hg k1; have c2 := cell_old hg k2; have c3 := cell_old hg k3; have c4 := cell_old hg k4; have c5 := cell_old hg k5; clear hg k0 k1 k2 k3 k4 k5
      go_wp2
      exact ⟨rfl, rfl, rfl, Grow.refl _⟩
    simp only [Act.put, List.setIfInBounds_toArray, List.set_cons_zero, List.set_cons_succ]
  refine Obl.still (fun W hg _ => ?_) ?_
  · have HC := Lib.hid (HZ.out W)
    clear hg k0 k1 k2 k3 k4 k5
    go_wp2_with fail
    refine (HC.out).mono ?_
    rintro e w' ⟨rfl, hB⟩
    have hG : Grow W w' := hB
    clear hB
    go_wp2
    exact ⟨rfl, rfl, rfl, hG⟩
  simp only [Act.put, List.setIfInBounds_toArray, List.set_cons_zero, List.set_cons_succ]
  iterate 7
    refine Obl.still (fun W hg _ => ?_) ?_
    · have c0 := cell_old hg k0; have c1 := cell_old hg k1; have c2 := cell_old hg k2; have c3 := cell_old hg k3; have c4 := cell_old hg k4; have c5 := cell_old hg k5; clear hg k0 k1 k2 k3 k4 k5
      go_wp2
      exact ⟨rfl, rfl, rfl, Grow.refl _⟩
    simp only [Act.put, List.setIfInBounds_toArray, List.set_cons_zero, List.set_cons_succ]
  refine Obl.done (fun W hg hall => ?_)
  have HG2 := Lib.hid (HG1.out.trans (hg.mono HG1.out.size))
  have HFB2 := Lib.hid (HFB1.out.below hg)
  clear hg hall HG1 HFB1 k0 k1 k2 k3 k4 k5
  gi_wp2_with fail

  have k0 := cell_old (Below.refl _ _).drew HFB2.out.k0; have k1 := cell_old (Below.refl _ _).drew HFB2.out.k1; have k2 := cell_old (Below.refl _ _).drew HFB2.out.k2; have k3 := cell_old (Below.refl _ _).drew HFB2.out.k3; have k4 := cell_old (Below.refl _ _).drew HFB2.out.k4; have k5 := cell_old (Below.refl _ _).drew HFB2.out.m0
  refine wpIn_region_wide Grow 111 10 10 [[], [], [], [], [], [], [], [], [], []]
    [.still [] (.slice Ap np cp), .still [] (.pointer (some ⟨w.heap.size, 0, none⟩)), .still [] (.int .i64 (f.N : Int)), .still [] (.slice Ap f.N cp), .still [] (.slice Ap np cp), .still [] (.pointer (some ⟨w.heap.size, 0, none⟩)), .still [] (.int .i64 (f.N : Int)), .still [] (.slice (Option.map (fun x => x.add f.N) Ap) f.N (cp - f.N)), .still [] (.slice Ap f.N cp), .still [] (.slice (Option.map (fun x => x.add f.N) Ap) f.N (cp - f.N))] (by kernel_rfl) (by kernel_rfl) rfl rfl rfl Grow.trans (Grow.refl _) ?_
  iterate 10
    refine Obl.still (fun W hg _ => ?_) ?_
    · have c0 := cell_old hg k0; have c1 := cell_old hg k1; have c2 := cell_old hg k2; have c3 := cell_old hg k3; have c4 := cell_old hg k4; have c5 := cell_old hg k5; clear hg k0 k1 k2 k3 k4 k5
      go_wp2
      exact ⟨rfl, rfl, rfl, Grow.refl _⟩
    simp only [Act.put, List.setIfInBounds_toArray, List.set_cons_zero, List.set_cons_succ]
  refine Obl.done (fun W hg hall => ?_)
  have HG3 := Lib.hid (HG2.out.drew.trans (hg.mono HG2.out.size))
  have HFB3 := Lib.hid (HFB2.out.below ((Below.refl _ _).drew.trans hg))
  clear hg hall HG2 HFB2 k0 k1 k2 k3 k4 k5
  gi_wp2_with fail

  obtain ⟨d, hd⟩ : ∃ d, digestL f (cutL sig 0 f.N) pub text = d := ⟨_, rfl⟩
  have HD := Lib.hid hd
  clear hd
  have k0 := cell_old (Below.refl _ _).drew HFB3.out.k0; have k1 := cell_old (Below.refl _ _).drew HFB3.out.k1; have k2 := cell_old (Below.refl _ _).drew HFB3.out.k2; have k3 := cell_old (Below.refl _ _).drew HFB3.out.k3; have k4 := cell_old (Below.refl _ _).drew HFB3.out.k4; have k5 := cell_old (Below.refl _ _).drew HFB3.out.m0
  refine wpIn_region_wide Grow 111 15 10 [[], [], [], [], [], [], [], [], [7], [8], [8], [8], [9], [10], [11]]
    [.still [] (.agg #[.int .i64 (f.N : Int), .int .i64 (f.L : Int), .int .i64 (f.H : Int), .int .i64 (f.K : Int), .int .i64 (f.A : Int)]), .still [] (.slice As ns cs), .still [] (.pointer (some ⟨w.heap.size, 0, none⟩)), .still [] (.int .i64 (f.N : Int)), .still [] (.slice As f.N cs), .still [] (.slice Ap np cp), .still [] (.slice At nt ct), .grow [] (DigV f d), .grow [7] (DigV f d), .grow [8] (RdA (pA f) (d.take (pA f))), .grow [8] (ValV (.int .u64 (treeOf f d : Int))), .grow [8] (ValV (.int .u32 (leafOf f d : Int))), .grow [9] (RdA (pA f) (d.take (pA f))), .grow [10] (ValV (.int .u64 (treeOf f d : Int))), .grow [11] (ValV (.int .u32 (leafOf f d : Int)))] (by kernel_rfl) (by kernel_rfl) rfl rfl rfl Grow.trans (Grow.refl _) ?_
  iterate 7
    refine Obl.still (fun W hg _ => ?_) ?_
    · have c0 := cell_old hg k0; have c1 := cell_old hg k1; have c2 := cell_old hg k2; have c3 := cell_old hg k3; have c4 := cell_old hg k4; have c5 := cell_old hg k5; clear hg k0 k1 k2 k3 k4 k5
      go_wp2
      exact ⟨rfl, rfl, rfl, Grow.refl _⟩
    simp only [Act.put, List.setIfInBounds_toArray, List.set_cons_zero, List.set_cons_succ]
  refine Obl.grow (DigV.keep _ _) (fun W hg _ => ?_) (fun v7 => ?_)
  · have hbW := HG3.out.drew.trans (hg.mono HG3.out.size)
    have HC := Lib.hid (digest_any f HF.out As Ap At f.N np nt cs cp ct _ _ _ W (HL.out.below hbW) (HSA.out.below hbW) (HP.out.below hbW) (HT.out.below hbW) (by rw [HSL.out]; omega) (by have := HSL.out; have := HPL.out; have := HTL.out; simp; omega))
    unfold vFew at HC
    rw [HD.out] at HC
    clear hbW
    clear hg k0 k1 k2 k3 k4 k5
    go_wp2_with fail
    refine HC.out.mono ?_
    rintro e w' ⟨Ad, rfl, h1, h2⟩
    go_wp2
    exact ⟨rfl, rfl, ⟨Ad, rfl, h1⟩, h2⟩
  simp only [Act.put, List.setIfInBounds_toArray, List.set_cons_zero, List.set_cons_succ]
  refine Obl.grow (DigV.keep _ _) (fun W hg ⟨h7, _⟩ => ?_) (fun v8 => ?_)
  · obtain ⟨Ad6, rfl, h6⟩ := h7
    clear hg k0 k1 k2 k3 k4 k5
    go_wp2
    exact ⟨rfl, rfl, ⟨Ad6, rfl, h6⟩, Grow.refl _⟩
  simp only [Act.put, List.setIfInBounds_toArray, List.set_cons_zero, List.set_cons_succ]
  refine Obl.grow (RdA.keep _ _) (fun W hg ⟨h8, _⟩ => ?_) (fun v9 => ?_)
  · obtain ⟨Ad7, rfl, h7⟩ := h8
    clear hg k0 k1 k2 k3 k4 k5
    go_wp2
    exact ⟨rfl, rfl, ⟨Ad7, rfl, h7⟩, Grow.refl _⟩
  simp only [Act.put, List.setIfInBounds_toArray, List.set_cons_zero, List.set_cons_succ]
  refine Obl.grow (ValV.keep _) (fun W hg ⟨h8, _⟩ => ?_) (fun v10 => ?_)
  · obtain ⟨Ad7, rfl, h7⟩ := h8
    clear hg k0 k1 k2 k3 k4 k5
    go_wp2
    exact ⟨rfl, rfl, rfl, Grow.refl _⟩
  simp only [Act.put, List.setIfInBounds_toArray, List.set_cons_zero, List.set_cons_succ]
  refine Obl.grow (ValV.keep _) (fun W hg ⟨h8, _⟩ => ?_) (fun v11 => ?_)
  · obtain ⟨Ad7, rfl, h7⟩ := h8
    clear hg k0 k1 k2 k3 k4 k5
    go_wp2
    exact ⟨rfl, rfl, rfl, Grow.refl _⟩
  simp only [Act.put, List.setIfInBounds_toArray, List.set_cons_zero, List.set_cons_succ]
  refine Obl.grow (RdA.keep _ _) (fun W hg ⟨h9, _⟩ => ?_) (fun v12 => ?_)
  · obtain ⟨Ad8, rfl, h8⟩ := h9
    clear hg k0 k1 k2 k3 k4 k5
    go_wp2
    exact ⟨rfl, rfl, ⟨Ad8, rfl, h8⟩, Grow.refl _⟩
  simp only [Act.put, List.setIfInBounds_toArray, List.set_cons_zero, List.set_cons_succ]
  refine Obl.grow (ValV.keep _) (fun W hg ⟨h10, _⟩ => ?_) (fun v13 => ?_)
  · obtain rfl := h10
    clear hg k0 k1 k2 k3 k4 k5
    go_wp2
    exact ⟨rfl, rfl, rfl, Grow.refl _⟩
  simp only [Act.put, List.setIfInBounds_toArray, List.set_cons_zero, List.set_cons_succ]
  refine Obl.grow (ValV.keep _) (fun W hg ⟨h11, _⟩ => ?_) (fun v14 => ?_)
  · obtain rfl := h11
    clear hg k0 k1 k2 k3 k4 k5
    go_wp2
    exact ⟨rfl, rfl, rfl, Grow.refl _⟩
  simp only [Act.put, List.setIfInBounds_toArray, List.set_cons_zero, List.set_cons_succ]
  refine Obl.done (fun W hg hall => ?_)
  obtain ⟨h14, h13, h12, h11, h10, h9, h8, h7, _⟩ := hall
  obtain rfl := h14
  obtain rfl := h13
  obtain ⟨Ad, rfl, hd12⟩ := h12
  obtain rfl := h11
  obtain rfl := h10
  obtain ⟨A9, rfl, _⟩ := h9
  obtain ⟨A8, rfl, _⟩ := h8
  obtain ⟨A7, rfl, _⟩ := h7
  have HG4 := Lib.hid (HG3.out.drew.trans (hg.mono HG3.out.size))
  have HFB4 := Lib.hid (HFB3.out.below ((Below.refl _ _).drew.trans hg))
  have HD4 := Lib.hid hd12
  clear hg hd12 HG3 HFB3 k0 k1 k2 k3 k4 k5

  have hT1 : treeOf f d < 2 ^ 63 := Nat.lt_of_lt_of_le (Nat.mod_lt _ (Nat.two_pow_pos _)) (Nat.pow_le_pow_right (by omega) HF.out.LH)
  have hQ1 : leafOf f d < 2 ^ f.H := Nat.mod_lt _ (Nat.two_pow_pos _)
  have hQ2 : leafOf f d < 4294967296 := by have := pow512_le HF.out.H2; omega
  have HT1 := Lib.hid (And.intro (show W64 (treeOf f d) by unfold W64; omega) (And.intro hQ2 hQ1))
  have HFT : Hid (fitsL f pub text sig = sameB (climbTo f (cutL pub 0 f.N) (treeOf f d) (leafOf f d) (fStands f (cutL pub 0 f.N) (treeOf f d) (leafOf f d) (d.take (pA f)) (cutL sig f.N (sHead f))) sig f.L) (pub.drop f.N)) := Lib.hid (by unfold fitsL; dsimp only; rw [HD.out])
  have HDL : Hid ((d.take (pA f)).length = pA f ∧ f.K * f.A ≤ pA f * 8 ∧ pA f ≤ 70) := Lib.hid ⟨HD4.out.len, by unfold pA wholeB; omega, pA_le HF.out⟩
  clear hT1 hQ1 hQ2
  generalize treeOf f d = tr at *
  generalize leafOf f d = lf at *
  obtain ⟨k0, k1, k2, k3, k4, k5⟩ := HFB4.out
  obtain ⟨ka, hka⟩ : ∃ ka, f.K * (f.A + 1) = ka := ⟨_, rfl⟩
  have hka1 : (f.K : Int) * ((f.A : Int) + 1) = (ka : Int) := by rw [← hka]; simp
  have hka2 : ka ≤ 600 := by rw [← hka]; exact Nat.le_trans (Nat.mul_le_mul HF.out.K2 (show f.A + 1 ≤ 15 by have := HF.out.A2; omega)) (by omega)
  obtain ⟨sh, hsh⟩ : ∃ sh, sHead f = sh := ⟨_, rfl⟩
  have hsh1 : (f.N : Int) * (1 + (ka : Int)) = (sh : Int) := by rw [← hsh]; unfold sHead; rw [hka]; simp
  have hsh2 : sh ≤ 32 * 601 := by rw [← hsh]; unfold sHead; rw [hka]; exact Nat.mul_le_mul hN2 (by omega)
  have HSHE := Lib.hid hsh
  have hA2 := HF.out.A2
  clear hka hsh
  gi_wp2
  have HG5 : Hid (Below w.heap.size w (W.alloc (.cells #[.int .i64 (sh : Int)] 3))) := Lib.hid (HG4.out.alloc HG4.out.size _)
  have hA5 : Below W.heap.size W (W.alloc (.cells #[.int .i64 (sh : Int)] 3)) := (Below.refl _ _).alloc (Nat.le_refl _) _
  have HFB5 := Lib.hid (HFB4.out.below hA5)
  have HD5 := Lib.hid (HD4.out.below hA5)
  have HV14 : Hid (VarB W.heap.size (.int .i64 (sh : Int)) (W.alloc (.cells #[.int .i64 (sh : Int)] 3))) := Lib.hid ⟨cell_new .., frozen_new ..⟩
  have h14 : w.heap.size + 2 ≤ W.heap.size := World.block_lt_of_cell? _ _ HFB4.out.m0
  clear k0 k1 k2 k3 k4 k5 hA5 HG4 HFB4 HD4
  generalize World.alloc W _ = W5 at *
  generalize W.heap.size = b14 at *
  have HZ5 : Hid (w.heap.size + 2 ≤ W5.heap.size) := Lib.hid (World.block_lt_of_cell? _ _ HFB5.out.m0)
  obtain ⟨hsh3, hsh4⟩ : f.N ≤ sh ∧ sh ≤ ns := by rw [← HSHE.out]; exact HSH.out.2.2
  have hcs4 : sh ≤ cs := by omega
  have hcs5 : ¬ cs = f.N := by omega
  have HPS : Hid (Rd eB w Ap f.N (cutL pub 0 f.N)) := Lib.hid (by have := HP.out.take f.N (by omega); simpa [cutL] using this)
  have HPSL : Hid ((cutL pub 0 f.N).length = f.N) := Lib.hid HPS.out.len
  have HPR : Hid (Rd eB w (Option.map (fun x => x.add f.N) Ap) f.N (pub.drop f.N)) := Lib.hid (by have := HP.out.sub f.N np (by omega) (Nat.le_refl _); rw [hnp2, List.take_of_length_le (by rw [HP.out.len]; exact Nat.le_refl _)] at this; exact this)
  have HSG : Hid (Rd eB w (Option.map (fun x => x.add f.N) As) (sh - f.N) (cutL sig f.N sh)) := Lib.hid (HS.out.sub f.N sh hsh3 hsh4)
  have HSGL : Hid ((cutL sig f.N sh).length = f.K * fEach f) := Lib.hid (by rw [HSG.out.len, ← HSHE.out, ← HSH.out.2.1]; unfold fEach; omega)
  rw [HSHE.out] at HFT
  obtain ⟨of0, hof0⟩ : ∃ of0, fStands f (cutL pub 0 f.N) tr lf (d.take (pA f)) (cutL sig f.N sh) = of0 := ⟨_, rfl⟩
  have HOF0 := Lib.hid hof0
  have HOFL : Hid (of0.length = f.N) := Lib.hid (by rw [← hof0]; exact tweakL_length _ _ _ _ (by omega))
  rw [hof0] at HFT
  clear hof0
  have k0 := cell_old (Below.refl _ _).drew HFB5.out.k0; have k1 := cell_old (Below.refl _ _).drew HFB5.out.k1; have k2 := cell_old (Below.refl _ _).drew HFB5.out.k2; have k3 := cell_old (Below.refl _ _).drew HFB5.out.k3; have k4 := cell_old (Below.refl _ _).drew HFB5.out.k4; have k5 := cell_old (Below.refl _ _).drew HFB5.out.m0; have k6 := cell_old (Below.refl _ _).drew HV14.out.c
  refine wpIn_region_wide Grow 111 12 8 [[], [], [], [], [], [], [], [], [], [], [], []]
    [.still [] (.agg #[.int .i64 (f.N : Int), .int .i64 (f.L : Int), .int .i64 (f.H : Int), .int .i64 (f.K : Int), .int .i64 (f.A : Int)]), .still [] (.slice Ap f.N cp), .still [] (.int .u64 (tr : Int)), .still [] (.int .u32 (lf : Int)), .still [] (.slice Ad (pA f) (pA f)), .still [] (.slice As ns cs), .still [] (.pointer (some ⟨w.heap.size, 0, none⟩)), .still [] (.int .i64 (f.N : Int)), .still [] (.int .i64 (sh : Int)), .still [] (.slice (Option.map (fun x => x.add f.N) As) (sh - f.N) (cs - f.N)), .grow [] (OwnV eB (w.heap.size + 2) of0), .grow [] (BoxV (.slice none 0 0) W5.heap.size)] (by kernel_rfl) (by kernel_rfl) rfl rfl rfl Grow.trans (Grow.refl _) ?_
  iterate 10
    refine Obl.still (fun W hg _ => ?_) ?_
    · have c0 := cell_old hg k0; have c1 := cell_old hg k1; have c2 := cell_old hg k2; have c3 := cell_old hg k3; have c4 := cell_old hg k4; have c5 := cell_old hg k5; have c6 := cell_old hg k6; clear hg k0 k1 k2 k3 k4 k5 k6
      go_wp2
      exact ⟨rfl, rfl, rfl, Grow.refl _⟩
    simp only [Act.put, List.setIfInBounds_toArray, List.set_cons_zero, List.set_cons_succ]
  refine Obl.grow (OwnV.keep _ _ _) (fun W hg _ => ?_) (fun v10 => ?_)
  · have hbW := HG5.out.drew.trans (hg.mono HG5.out.size)
    have hsz : w.heap.size + 2 ≤ W.heap.size := Nat.le_trans HZ5.out hg.size
    have HC := Lib.hid (stands_any f Ap Ad (Option.map (fun x => x.add f.N) As) f.N cp (pA f) (pA f) (sh - f.N) (cs - f.N) tr lf _ _ _ W (HL.out.below hbW) HF.out (HPS.out.below hbW) HPSL.out HT1.out.1 HT1.out.2.1 (HD5.out.below ((Below.refl _ _).drew.trans hg)) (by have := HDL.out.2.2; omega) (by rw [HDL.out.1]; exact HDL.out.2.1) (HSG.out.below hbW) HSGL.out (by omega))
    unfold vFew at HC
    rw [HOF0.out] at HC
    clear hbW
    clear hg k0 k1 k2 k3 k4 k5 k6
    go_wp2_with fail
    refine (HC.out).mono ?_
    rintro e w' ⟨A1, n1, c1, rfl, h1, h2⟩
    go_wp2
    exact ⟨rfl, rfl, ⟨_, _, _, rfl, h1.mono hsz⟩, h2⟩
  simp only [Act.put, List.setIfInBounds_toArray, List.set_cons_zero, List.set_cons_succ]
  refine Obl.grow (BoxV.keep) (fun W hg _ => ?_) (fun v11 => ?_)
  · have hsz : W5.heap.size ≤ W.heap.size := hg.size
    clear hg k0 k1 k2 k3 k4 k5 k6
    go_wp2
    exact ⟨rfl, rfl, BoxV.new W _ _ hsz, (Below.refl _ _).alloc (Nat.le_refl _) _⟩
  simp only [Act.put, List.setIfInBounds_toArray, List.set_cons_zero, List.set_cons_succ]
  refine Obl.done (fun W hg hall => ?_)
  obtain ⟨h11, h10, _⟩ := hall
  obtain ⟨b15, rfl, hb15, hc15, hf15, hn15⟩ := h11
  obtain ⟨Ao, no, co, rfl, ho⟩ := h10
  obtain rfl : f.N = no := by rw [← ho.len, HOFL.out]
  have hne15 := ho.neOne (by omega) hn15
  have ho2 := ho.set_other ⟨b15, 0, none⟩ (.slice Ao f.N co) hne15
  have HG6 := Lib.hid ((HG5.out.drew.trans (hg.mono HG5.out.size)).setCell (p := ⟨b15, 0, none⟩) (show w.heap.size ≤ b15 by have := HZ5.out; omega) (.slice Ao f.N co))
  have HFB6 := Lib.hid ((HFB5.out.below ((Below.refl _ _).drew.trans hg)).same (block_set W ⟨b15, 0, none⟩ (.slice Ao f.N co) _ (show w.heap.size ≠ b15 by have := HZ5.out; omega)) (block_set W ⟨b15, 0, none⟩ (.slice Ao f.N co) _ (show w.heap.size + 1 ≠ b15 by have := HZ5.out; omega)))
  have HV14b := Lib.hid ((HV14.out.below ((Below.refl _ _).drew.trans hg)).other (b' := b15) (.slice Ao f.N co) (by have := HV14.out.lt; omega))
  have HV15 : Hid (VarB b15 (.slice Ao f.N co) (W.setCell ⟨b15, 0, none⟩ (.slice Ao f.N co))) := Lib.hid ((⟨hc15, hf15⟩ : VarB b15 _ W).set _)
  have HO6 := Lib.hid ho2
  have HB15 : Hid (b14 < b15) := Lib.hid (by have := HV14.out.lt; omega)
  clear hg ho ho2 hne15 hn15 hb15 HG5 HFB5 HV14 k0 k1 k2 k3 k4 k5 k6
  gi_wp2_with fail

  obtain ⟨se, hse⟩ : ∃ se, sEach f = se := ⟨_, rfl⟩
  have hch : chainsL f.N ≤ 67 := by unfold chainsL; omega
  have hH9 := HF.out.H2
  have hse1 : (f.N : Int) * (((chainsL f.N : Nat) : Int) + (f.H : Int)) = (se : Int) := by rw [← hse]; unfold sEach; simp
  have hse2 : se ≤ 32 * 76 := by rw [← hse]; unfold sEach; exact Nat.mul_le_mul hN2 (by omega)
  have HSE := Lib.hid hse
  clear hse
  gi_wp2_with fail
  generalize World.setCell W _ _ = W5 at *
  have k0 := cell_old (Below.refl _ _).drew HFB6.out.k0; have k1 := cell_old (Below.refl _ _).drew HFB6.out.k1; have k2 := cell_old (Below.refl _ _).drew HFB6.out.k2; have k3 := cell_old (Below.refl _ _).drew HFB6.out.k3; have k4 := cell_old (Below.refl _ _).drew HFB6.out.k4; have k5 := cell_old (Below.refl _ _).drew HFB6.out.m0
  refine wpIn_region_wide Grow 111 9 8 [[], [], [], [], [], [], [], [], []]
    [.still [] (.pointer (some ⟨w.heap.size, 0, none⟩)), .still [] (.int .i64 (f.N : Int)), .still [] (.agg #[.int .i64 (f.N : Int), .int .i64 (f.L : Int), .int .i64 (f.H : Int), .int .i64 (f.K : Int), .int .i64 (f.A : Int)]), .still [] (.int .i64 ((chainsL f.N : Nat) : Int)), .still [] (.pointer (some ⟨w.heap.size, 2, none⟩)), .still [] (.int .i64 (f.H : Int)), .still [] (.int .i64 (((chainsL f.N : Nat) : Int) + (f.H : Int))), .still [] (.int .i64 (se : Int)), .grow [] (BoxV (.int .i64 0) W5.heap.size)] (by kernel_rfl) (by kernel_rfl) rfl rfl rfl Grow.trans (Grow.refl _) ?_
  iterate 3
    refine Obl.still (fun W hg _ => ?_) ?_
    · have c0 := cell_old hg k0; have c1 := cell_old hg k1; have c2 := cell_old hg k2; have c3 := cell_old hg k3; have c4 := cell_old hg k4; have c5 := cell_old hg k5; clear hg k0 k1 k2 k3 k4 k5
      go_wp2
      exact ⟨rfl, rfl, rfl, Grow.refl _⟩
    simp only [Act.put, List.setIfInBounds_toArray, List.set_cons_zero, List.set_cons_succ]
  refine Obl.still (fun W hg _ => ?_) ?_
  · have HC := Lib.hid (chains_any f HF.out W)
    unfold vFew at HC
    clear hg k0 k1 k2 k3 k4 k5
    go_wp2_with fail
    refine (HC.out).mono ?_
    rintro e w' ⟨rfl, hB⟩
    have hG : Grow W w' := hB
    clear hB
    go_wp2
    exact ⟨rfl, rfl, rfl, hG⟩
  simp only [Act.put, List.setIfInBounds_toArray, List.set_cons_zero, List.set_cons_succ]
  iterate 4
    refine Obl.still (fun W hg _ => ?_) ?_
    · have c0 := cell_old hg k0; have c1 := cell_old hg k1; have c2 := cell_old hg k2; have c3 := cell_old hg k3; have c4 := cell_old hg k4; have c5 := cell_old hg k5; clear hg k0 k1 k2 k3 k4 k5
      go_wp2
      exact ⟨rfl, rfl, rfl, Grow.refl _⟩
    simp only [Act.put, List.setIfInBounds_toArray, List.set_cons_zero, List.set_cons_succ]
  refine Obl.grow (BoxV.keep) (fun W hg _ => ?_) (fun v8 => ?_)
  · have hsz : W5.heap.size ≤ W.heap.size := hg.size
    clear hg k0 k1 k2 k3 k4 k5
    go_wp2
    exact ⟨rfl, rfl, BoxV.new W _ _ hsz, (Below.refl _ _).alloc (Nat.le_refl _) _⟩
  simp only [Act.put, List.setIfInBounds_toArray, List.set_cons_zero, List.set_cons_succ]
  refine Obl.done (fun W hg hall => ?_)
  obtain ⟨h8, _⟩ := hall
  obtain ⟨b16, rfl, hb16, hc16, hf16, hn16⟩ := h8
  have hgg : Grow W5 W := (Below.refl _ _).drew.trans hg
  have HZ7 : Hid (w.heap.size + 2 ≤ W5.heap.size) := Lib.hid (World.block_lt_of_cell? _ _ HFB6.out.m0)
  have HG7 := Lib.hid ((HG6.out.trans (hgg.mono HG6.out.size)).setCell (p := ⟨b16, 0, none⟩) (show w.heap.size ≤ b16 by have := HZ7.out; omega) (.int .i64 (se : Int)))
  have HFB7 := Lib.hid ((HFB6.out.below hgg).same (block_set W ⟨b16, 0, none⟩ (.int .i64 (se : Int)) _ (show w.heap.size ≠ b16 by have := HZ7.out; omega)) (block_set W ⟨b16, 0, none⟩ (.int .i64 (se : Int)) _ (show w.heap.size + 1 ≠ b16 by have := HZ7.out; omega)))
  have HV14c := Lib.hid ((HV14b.out.below hgg).other (b' := b16) (.int .i64 (se : Int)) (by have := HV14b.out.lt; omega))
  have HV15c := Lib.hid ((HV15.out.below hgg).other (b' := b16) (.int .i64 (se : Int)) (by have := HV15.out.lt; omega))
  have HV16 : Hid (VarB b16 (.int .i64 (se : Int)) (W.setCell ⟨b16, 0, none⟩ (.int .i64 (se : Int)))) := Lib.hid ((⟨hc16, hf16⟩ : VarB b16 _ W).set _)
  have HO7 := Lib.hid ((HO6.out.below hgg).setVar (by omega) hc16 (fun x => by simp) (.int .i64 (se : Int)))
  have HB16 : Hid (b14 < b16 ∧ b15 < b16) := Lib.hid ⟨by have := HV14b.out.lt; omega, by have := HV15.out.lt; omega⟩
  clear hg hgg hb16 hn16 HG6 HFB6 HV14b HV15 HO6 k0 k1 k2 k3 k4 k5

  generalize hW6 : World.setCell W _ _ = W6 at *
  obtain ⟨k0, k1, k2, k3, k4, k5⟩ := HFB7.out
  have q14 := HV14c.out.c; have q15 := HV15c.out.c
  gi_wp2_with fail
  clear hW6
  refine ⟨trivial, ?_⟩
  have HC := Lib.hid (spots_any f Ap f.N cp tr lf W6)
  unfold vFew at HC
  refine (callsIn_wide.2 HC.out).mono ?_
  rintro e w8 ⟨B1, B2, B3, B4, rfl, hB1, hB2, hB3, hB4, hdd, hsp, g8⟩
  have HFD : Hid (FD w b14 b15 b16 B1 B2 B3 B4) := Lib.hid ⟨h14, ⟨by have := HB15.out; omega, by have := HB15.out; omega⟩, ⟨HB16.out.1, HB16.out.2⟩, by have := HV16.out.lt; omega, by have := HV16.out.lt; omega, by have := HV16.out.lt; omega, by have := HV16.out.lt; omega, hdd⟩
  have HFI : Hid (FI f As ns cs (cutL pub 0 f.N) tr lf of0 sig Ap f.N cp w b14 b15 b16 B1 B2 B3 B4 0 w8) := Lib.hid
    ⟨HFB7.out.below g8, by have := HV14c.out.below g8; rw [← HSHE.out] at this; simpa using this, ⟨Ao, co, HV15c.out.below g8, HO7.out.below g8⟩, by have := HV16.out.below g8; rw [← HSE.out] at this; exact this, ⟨tr, lf, hsp⟩, HG7.out.trans (g8.mono HG7.out.size)⟩
  have HSP := Lib.hid hsp
  have hzB : w.heap.size < w8.heap.size := by have := g8.size; have := HV16.out.lt; have := HB16.out.1; omega
  clear HC hsp g8 hB1 hB2 hB3 hB4 hdd HFB7 HG7 HO7 HV14c HV15c HV16 k0 k1 k2 k3 k4 k5
  gi_wp2_with fail
  refine wpIn_rangeFunc_as (Kp := KpS B1 B2 B3 B4) (St := StS B3 B4) (xs := spotsL f tr lf) rfl (by omega) (gf := 65) (lb := #[.pointer (some ⟨B1, 0, none⟩), .pointer (some ⟨B2, 0, none⟩), .pointer (some ⟨B3, 0, none⟩), .pointer (some ⟨B4, 0, none⟩)]) rfl trivial (enters_of Tryz.func65 (by kernel_rfl) rfl)
    (spots_seq 2 (by omega) f Ap f.N cp tr lf B1 B2 B3 B4 w8 HF.out HT1.out.1 HFD.out.d HSP.out) StS.keeps (fun h k => h.trans k) (fun W l o o' _ h ho _ => KpS.put W l o o' h ho) (fun _ => rfl)
    (fun pre W => FI f As ns cs (cutL pub 0 f.N) tr lf of0 sig Ap f.N cp w b14 b15 b16 B1 B2 B3 B4 pre.length W)
    (fun _ _ _ => False)
    (fun pre W W' row h hg hr => FI.kept h hg (fun r e => ⟨by have := (hr r e).1; omega, (hr r e).2⟩))
    (fun _ _ _ _ _ hs _ _ => hs)
    (fun pre W W' h hst => FI.turned (by omega) h HFD.out hst)
    HFI.out
    (FJ f As ns cs (cutL pub 0 f.N) tr lf of0 sig Ap f.N cp w b14 b15 b16 B1 B2 B3 B4 (fun b x => #[(.agg #[.int .i64 (f.N : Int), .int .i64 (f.L : Int), .int .i64 (f.H : Int), .int .i64 (f.K : Int), .int .i64 (f.A : Int)]), (.slice Ap np cp), (.slice At nt ct), (.slice As ns cs), (.pointer (some ⟨w.heap.size, 0, none⟩)), undef, undef, (.pointer (some ⟨w.heap.size + 1, 0, none⟩)), (.bool false), (.slice Ap f.N cp), (.slice (Option.map (fun x => x.add f.N) Ap) f.N (cp - f.N)), (.slice Ad (pA f) (pA f)), (.int .u64 (tr : Int)), (.int .u32 (lf : Int)), (.pointer (some ⟨b14, 0, none⟩)), (.pointer (some ⟨b15, 0, none⟩)), (.pointer (some ⟨b16, 0, none⟩)), (.pointer (some ⟨b, 0, none⟩)), (.agg #[.int .i64 (f.N : Int), .int .i64 (f.L : Int), .int .i64 (f.H : Int), .int .i64 (f.K : Int), .int .i64 (f.A : Int)]), (.bool true), (.bool false), (.bool false), (.slice Ap np cp), (.int .i64 (np : Int)), (.pointer (some ⟨w.heap.size, 0, none⟩)), (.int .i64 (f.N : Int)), (.int .i64 (2 * (f.N : Int))), (.bool false), (.bool false), (.bool false), (.slice As ns cs), (.int .i64 (ns : Int)), (.agg #[.int .i64 (f.N : Int), .int .i64 (f.L : Int), .int .i64 (f.H : Int), .int .i64 (f.K : Int), .int .i64 (f.A : Int)]), (.int .i64 (ns : Int)), (.bool false), (.bool false), (.bool false), (.slice At nt ct), (.int .i64 (nt : Int)), (.bool (decide (65536 < (nt : Int)))), (.bool (decide (65536 < (nt : Int)))), (.slice Ap np cp), (.pointer (some ⟨w.heap.size, 0, none⟩)), (.int .i64 (f.N : Int)), (.slice Ap f.N cp), (.slice Ap np cp), (.pointer (some ⟨w.heap.size, 0, none⟩)), (.int .i64 (f.N : Int)), (.slice (Option.map (fun x => x.add f.N) Ap) f.N (cp - f.N)), (.tuple #[.slice A8 (pA f) (pA f), .int .u64 (tr : Int), .int .u32 (lf : Int)]), (.agg #[.int .i64 (f.N : Int), .int .i64 (f.L : Int), .int .i64 (f.H : Int), .int .i64 (f.K : Int), .int .i64 (f.A : Int)]), (.slice As ns cs), (.pointer (some ⟨w.heap.size, 0, none⟩)), (.int .i64 (f.N : Int)), (.slice As f.N cs), (.slice Ap np cp), (.slice At nt ct), (.tuple #[.slice A7 (pA f) (pA f), .int .u64 (tr : Int), .int .u32 (lf : Int)]), (.slice A9 (pA f) (pA f)), (.int .u64 (tr : Int)), (.int .u32 (lf : Int)), (.pointer (some ⟨w.heap.size, 0, none⟩)), (.int .i64 (f.N : Int)), (.pointer (some ⟨w.heap.size, 3, none⟩)), (.int .i64 (f.K : Int)), (.pointer (some ⟨w.heap.size, 4, none⟩)), (.int .i64 (f.A : Int)), (.int .i64 ((f.A : Int) + 1)), (.int .i64 (ka : Int)), (.int .i64 (1 + (ka : Int))), (.int .i64 (sh : Int)), (.agg #[.int .i64 (f.N : Int), .int .i64 (f.L : Int), .int .i64 (f.H : Int), .int .i64 (f.K : Int), .int .i64 (f.A : Int)]), (.slice Ap f.N cp), (.int .u64 (tr : Int)), (.int .u32 (lf : Int)), (.slice Ad (pA f) (pA f)), (.slice As ns cs), (.pointer (some ⟨w.heap.size, 0, none⟩)), (.int .i64 (f.N : Int)), (.int .i64 (sh : Int)), (.slice (Option.map (fun x => x.add f.N) As) (sh - f.N) (cs - f.N)), (.slice Ao f.N co), (.pointer (some ⟨w.heap.size, 0, none⟩)), (.int .i64 (f.N : Int)), (.agg #[.int .i64 (f.N : Int), .int .i64 (f.L : Int), .int .i64 (f.H : Int), .int .i64 (f.K : Int), .int .i64 (f.A : Int)]), (.int .i64 ((chainsL f.N : Nat) : Int)), (.pointer (some ⟨w.heap.size, 2, none⟩)), (.int .i64 (f.H : Int)), (.int .i64 (((chainsL f.N : Nat) : Int) + (f.H : Int))), (.int .i64 (se : Int)), (.agg #[.int .i64 (f.N : Int), .int .i64 (f.L : Int), .int .i64 (f.H : Int), .int .i64 (f.K : Int), .int .i64 (f.A : Int)]), (.slice Ap f.N cp), (.int .u64 (tr : Int)), (.int .u32 (lf : Int)), (.func (.func 65) #[] #[.pointer (some ⟨B1, 0, none⟩), .pointer (some ⟨B2, 0, none⟩), .pointer (some ⟨B3, 0, none⟩), .pointer (some ⟨B4, 0, none⟩)]), (.agg #[.int .i64 (f.N : Int), .int .i64 (f.L : Int), .int .i64 (f.H : Int), .int .i64 (f.K : Int), .int .i64 (f.A : Int), .slice Ap f.N cp, .int .u32 (x.1 : Int), .int .u64 (x.2.1 : Int), .int .u32 (x.2.2 : Int)]), undef, undef, undef, undef, undef, undef, undef, undef, undef, undef, undef, undef, undef, undef, undef]))
    (fun pre x a1 _ W W' row h hg hr => by
      obtain ⟨b, e1, e3, e4⟩ := h
      exact ⟨b, e1, e3.kept hg (fun r e => (hr r e).2), e4.kept hg (fun r e => ⟨by have := (hr r e).1; omega, (hr r e).2⟩)⟩) ?assign ?body ?done ?stop
  case assign =>
    intro l pre x W hI hpre
    have HI := Lib.hid hI
    clear hI
    obtain ⟨x1, x2, x3⟩ := x
    dsimp only [encSpot, vSpot]
    gi_wp2
    refine ⟨KeepsOthers.alloc W _, KpS.of_block (fun b hb => ?_), ⟨W.heap.size, rfl, SpB.new f Ap f.N cp x1 x2 x3 W, ?_⟩⟩
    · obtain ⟨t, u, hs⟩ := HI.out.sp
      have h1 := World.block_lt_of_cell? _ _ hs.f0; have h2 := World.block_lt_of_cell? _ _ hs.s; have h3 := World.block_lt_of_cell? _ _ hs.t; have h4 := World.block_lt_of_cell? _ _ hs.q
      dsimp only at h1 h2 h3 h4
      exact Below.heap_alloc W _ _ (by omega)
    · exact HI.out.kept (World.grownBy_alloc W _ none) (fun r e => by cases e)
  case body =>
    rintro l pre x a1 Wq hpre ⟨b, rfl, hsb, hI⟩
    obtain ⟨hkL, hxe⟩ := spots_next hpre
    have hlen : (pre ++ [x]).length = pre.length + 1 := by simp
    have HLEN2 := Lib.hid hlen
    generalize hkk : pre.length = k at *
    obtain ⟨tk, htk⟩ : ∃ tk, treeAt f.H tr k = tk := ⟨_, rfl⟩
    obtain ⟨lk, hlk⟩ : ∃ lk, leafAt f.H tr lf k = lk := ⟨_, rfl⟩
    rw [htk, hlk] at hxe
    subst hxe
    dsimp only at hsb ⊢
    have htk64 : W64 tk := by rw [← htk]; exact Nat.lt_of_le_of_lt (treeAt_le _ _ _) HT1.out.1
    have hlk2 : lk < 2 ^ f.H := by rw [← hlk]; exact leafAt_lt f tr lf HT1.out.2.2 k
    have hlk3 : lk < 4294967296 := by have := pow512_le HF.out.H2; omega
    have hL22 := HF.out.L2
    obtain ⟨Af, cf, hf15, hof⟩ := hI.c15
    have hq15 := hf15.c
    have hq14 := hI.c14.c
    have hq16 := hI.c16.c
    have HNX := Lib.hid (fun (Wa : World) (Ar : Option Addr) (cr : Nat) (g : Grow Wq Wa) h3 => hI.next (by omega) HFD.out (Wa := Wa) (Ar := Ar) (cr := cr) g h3)
    have HV14q := Lib.hid hI.c14
    have HV15q := Lib.hid hf15
    have HV16q := Lib.hid hI.c16
    have HIB := Lib.hid hI.below
    obtain ⟨no, hno⟩ : ∃ no, sHead f + k * sEach f = no := ⟨_, rfl⟩
    have hno2 : sHead f + (k + 1) * sEach f = no + se := by rw [← hno, Nat.succ_mul, HSE.out, Nat.add_assoc]
    have hkl : (k + 1) * sEach f ≤ f.L * sEach f := Nat.mul_le_mul_right _ (by omega)
    have hle1 : no + se ≤ ns := by have := HSH.out.1; omega
    have hcs1 : no + se ≤ cs := by omega
    have hse0 : 1 ≤ se := by rw [← HSE.out]; unfold sEach; have : 1 * 1 ≤ f.N * (chainsL f.N + f.H) := Nat.mul_le_mul (by omega) (by unfold chainsL; omega)
                             omega
    have hcs2 : ¬ cs = no := by omega
    have hns9 : ns ≤ 200000 := by
      have h1 := HSH.out.1
      have h3 : f.L * sEach f ≤ 22 * (32 * 76) := Nat.mul_le_mul hL22 (by rw [HSE.out]; exact hse2)
      have h4 : sHead f ≤ 32 * 601 := by rw [HSHE.out]; exact hsh2
      omega
    have hnn : no + se - no = se := by omega
    obtain ⟨of1, hof1⟩ : ∃ of1, climbTo f (cutL pub 0 f.N) tr lf of0 sig k = of1 := ⟨_, rfl⟩
    have hofl : of1.length = f.N := by rw [← hof.len, hof1]
    rw [hof1] at hof
    have hcutl : (cutL sig no (no + se)).length = (chainsL f.N + f.H) * f.N := by
      rw [cutL_length _ _ _ (by omega) (by rw [HS.out.len]; omega), hnn, ← HSE.out]; unfold sEach; exact Nat.mul_comm _ _
    obtain ⟨new, hnew⟩ : ∃ new, sLeads f.N f.H (cutL pub 0 f.N) k tk lk of1 (cutL sig no (no + se)) = new := ⟨_, rfl⟩
    have HNW : Hid (climbTo f (cutL pub 0 f.N) tr lf of0 sig (k + 1) = new) := Lib.hid (by rw [← hnew, ← hno2, ← hno, ← hof1, ← htk, ← hlk]; rfl)
    have HNEW := Lib.hid hnew
    have HNL : Hid (new.length = f.N) := Lib.hid (by rw [← hnew]; exact sClimb_length _ _ _ _ _ _ _ (by omega) (sEnds_length _ _ _ _ _ _ _ (by omega)) _)
    have HSGr : Hid (SG f Ap f.N (cutL pub 0 f.N) k tk Wq.drew) := Lib.hid (SG.below (w := Wq) ⟨HL.out.below hI.below, HF.out, HPS.out.below hI.below, HPSL.out, by omega, htk64⟩ (Below.refl _ _).drew)
    have HCUT : Hid (Rd eB Wq.drew (Option.map (fun x => x.add no) As) se (cutL sig no (no + se))) := Lib.hid (by have := ((HS.out.below hI.below).below (Below.refl _ _).drew).sub no (no + se) (by omega) hle1; rw [hnn] at this; exact this)
    have HOF := Lib.hid (hof.below (Below.refl _ _).drew)
    have HZW : Hid (w.heap.size + 2 ≤ Wq.drew.heap.size) := Lib.hid (World.block_lt_of_cell? _ _ hI.fb.m0)
    have HMS := Lib.hid (And.intro hno2 (And.intro hno (And.intro hofl (And.intro hcutl (And.intro hlk3 hnn)))))
    rw [hno] at hq14 HV14q
    rw [HSE.out] at hq16 HV16q
    have k0 := cell_old (Below.refl _ _).drew hq14; have k1 := cell_old (Below.refl _ _).drew hsb.s0; have k2 := cell_old (Below.refl _ _).drew hsb.s1; have k3 := cell_old (Below.refl _ _).drew hsb.s2; have k4 := cell_old (Below.refl _ _).drew hsb.s3; have k5 := cell_old (Below.refl _ _).drew hsb.s4; have k6 := cell_old (Below.refl _ _).drew hsb.s5; have k7 := cell_old (Below.refl _ _).drew hsb.s6; have k8 := cell_old (Below.refl _ _).drew hsb.s7; have k9 := cell_old (Below.refl _ _).drew hsb.s8; have k10 := cell_old (Below.refl _ _).drew hI.fb.m0; have k11 := cell_old (Below.refl _ _).drew hq15; have k12 := cell_old (Below.refl _ _).drew hq16
    clear hI hf15 hof hq14 hq15 hq16 hno hno2 hkl hof1 hofl hcutl hnew htk hlk htk64 hlk2 hlk3 hsb hpre hlen hnn
    gi_wp2_with fail
    refine wpIn_region_rg (fun ⟨_, _, h⟩ => h) (by kernel_rfl) Grow 111 9 8 [[], [], [], [], [], [], [], [], []]
      [.still [] (.agg #[.int .i64 (f.N : Int), .int .i64 (f.L : Int), .int .i64 (f.H : Int), .int .i64 (f.K : Int), .int .i64 (f.A : Int), .slice Ap f.N cp, .int .u32 (k : Int), .int .u64 (tk : Int), .int .u32 (lk : Int)]), .still [] (.slice Af f.N cf), .still [] (.slice As ns cs), .still [] (.int .i64 (no : Int)), .still [] (.int .i64 (no : Int)), .still [] (.int .i64 (se : Int)), .still [] (.int .i64 ((no : Int) + (se : Int))), .still [] (.slice (Option.map (fun x => x.add no) As) se (cs - no)), .grow [] (OwnV eB (w.heap.size + 2) new)] (by kernel_rfl) (by kernel_rfl) rfl rfl rfl Grow.trans (Grow.refl _) ?_
    iterate 8
      refine Obl.still (fun W hg _ => ?_) ?_
      · have c0 := cell_old hg k0; have c1 := cell_old hg k1; have c2 := cell_old hg k2; have c3 := cell_old hg k3; have c4 := cell_old hg k4; have c5 := cell_old hg k5; have c6 := cell_old hg k6; have c7 := cell_old hg k7; have c8 := cell_old hg k8; have c9 := cell_old hg k9; have c10 := cell_old hg k10; have c11 := cell_old hg k11; have c12 := cell_old hg k12; clear hg k0 k1 k2 k3 k4 k5 k6 k7 k8 k9 k10 k11 k12
        go_wp2
        exact ⟨rfl, rfl, rfl, Grow.refl _⟩
      simp only [Act.put, List.setIfInBounds_toArray, List.set_cons_zero, List.set_cons_succ]
    refine Obl.grow (OwnV.keep _ _ _) (fun W hg _ => ?_) (fun v8 => ?_)
    · have HC := Lib.hid (leads_any f Ap (Option.map (fun x => x.add no) As) Af f.N cp se (cs - no) cf (cutL pub 0 f.N) (cutL sig no (no + se)) of1 k tk lk W (HSGr.out.below hg) HMS.out.2.2.2.2.1 (HCUT.out.below hg) HMS.out.2.2.2.1 (by omega) (HOF.out.rd.below hg) HMS.out.2.2.1)
      unfold vSpot at HC
      rw [HNEW.out] at HC
      have hsz : w.heap.size + 2 ≤ W.heap.size := Nat.le_trans HZW.out hg.size
      clear hg k0 k1 k2 k3 k4 k5 k6 k7 k8 k9 k10 k11 k12
      go_wp2_with fail
      refine (HC.out).mono ?_
      rintro e w' ⟨A1, n1, c1, rfl, h1, h2⟩
      go_wp2
      exact ⟨rfl, rfl, ⟨_, _, _, rfl, h1.mono hsz⟩, h2⟩
    simp only [Act.put, List.setIfInBounds_toArray, List.set_cons_zero, List.set_cons_succ]
    refine Obl.done (fun W hg hall => ?_)
    obtain ⟨h8, _⟩ := hall
    obtain ⟨Ar, nr, cr, rfl, h8⟩ := h8
    obtain rfl : f.N = nr := by rw [← h8.len, HNL.out]
    have HG9 : Hid (Grow Wq W) := Lib.hid ((Below.refl _ _).drew.trans hg)
    have HR := Lib.hid h8
    have q14 := ((HV14q.out.below HG9.out).other (b' := b15) (.slice Ar f.N cr) HFD.out.h15.1).c
    have f14 := ((HV14q.out.below HG9.out).other (b' := b15) (.slice Ar f.N cr) HFD.out.h15.1).f
    have q15 := (HV15q.out.below HG9.out).c
    have f15 := (HV15q.out.below HG9.out).f
    have q16 := ((HV16q.out.below HG9.out).other (b' := b15) (.slice Ar f.N cr) (by have := HFD.out.h16.2; omega)).c
    clear hg h8 k0 k1 k2 k3 k4 k5 k6 k7 k8 k9 k10 k11 k12
    go_wp2
    gi_wp2
    have hfin := HNX.out W Ar cr HG9.out (by rw [HNW.out]; exact HR.out)
    rw [HMS.out.1] at hfin
    obtain ⟨f1, f2, f3⟩ := hfin
    refine ⟨f1, f2, ?_⟩
    dsimp only
    rw [HLEN2.out]
    exact f3

  case done =>
    rintro D W hD hI hK
    obtain ⟨Af, cf, ho, hoo⟩ := hI.c15
    have hll : (spotsL f tr lf).length = f.L := by simp [spotsL]
    rw [hll] at hoo
    have q15 := ho.c
    have HOO := Lib.hid hoo
    have HBE := Lib.hid hI.below
    have HD2 := Lib.hid hD
    have HK := Lib.hid hK
    clear hI hoo hll hD ho hK
    gi_wp2_with fail
    refine ⟨trivial, ?_⟩
    have HC := Lib.hid (osame_any Af (Option.map (fun x => x.add f.N) Ap) f.N f.N cf (cp - f.N) _ (pub.drop f.N) W HOO.out.rd (HPR.out.below HBE.out))
    refine (callsIn_wide.2 HC.out).mono ?_
    rintro e W2 ⟨rfl, g2⟩
    have hK2 : W2.heap[D]? = some (.deferred (some [])) := (g2.block _ (Array.getElem?_eq_some_iff.1 HK.out).1).trans HK.out
    have HBE2 := Lib.hid (HBE.out.trans (g2.mono HBE.out.size))
    clear HC g2 q15
    gi_wp2
    refine ⟨by simp, .inl ⟨_, _, rfl, run_takeDeferred hK2, ?_⟩⟩
    exact ⟨_, results_tmp rfl _ _ _, by rw [HFT.out]; rfl, HBE2.out.trans (belowK_b (w := w) (Nat.le_refl _) W2 D _ _ (by have := HD2.out; omega) hK2 rfl rfl)⟩
  case stop =>
    rintro D c pre W _ _ h _
    exact h.elim
end Go.Proofs.Sl

/- The statements' first lines: answers that the document fixes. -/
namespace Go.Proofs.Sl
open Go.RowKit Go.Proofs

def f0 : Few := ⟨16, 1, 1, 1, 1⟩
def f1 : Few := ⟨16, 22, 3, 33, 6⟩
theorem f0_ok : FewOk f0 := by constructor <;> simp [f0, NOk]
theorem f1_ok : FewOk f1 := by constructor <;> simp [f1, NOk]
def z16 : List UInt8 := List.replicate 16 0
def m0 : Sec := ⟨z16, z16, z16⟩
theorem m0_ok : MadeOk f0 m0 := by
  refine ⟨f0_ok, ?_, ?_, ?_, ?_, ?_⟩ <;> simp [f0, m0, z16]

def vF0 : Value := .agg #[.int .i64 16, .int .i64 1, .int .i64 1, .int .i64 1, .int .i64 1]
def vF1 : Value := .agg #[.int .i64 16, .int .i64 22, .int .i64 3, .int .i64 33, .int .i64 6]
theorem vF0_eq : vFew f0 = vF0 := rfl
theorem vF1_eq : vFew f1 = vF1 := rfl
theorem size1 (w : World) : Calls Tryz.prog 15 #[vF1] w (RetV w (.int .i64 17088)) := by
  have h := size_any f1 f1_ok w
  rw [vF1_eq, show sizeL f1 = 17088 from rfl] at h
  exact h
theorem size0 (w : World) : Calls Tryz.prog 15 #[vF0] w (RetV w (.int .i64 624)) := by
  have h := size_any f0 f0_ok w
  rw [vF0_eq, show sizeL f0 = 624 from rfl] at h
  exact h
theorem chains0 (w : World) : Calls Tryz.prog 17 #[vF0] w (RetV w (.int .i64 35)) := by
  have h := chains_any f0 f0_ok w
  rw [vF0_eq, show chainsL f0.N = 35 from rfl] at h
  exact h

set_option maxHeartbeats 4000000 in
set_option maxRecDepth 100000 in
theorem awake_any (w : World) (hL : Laid w) : Calls Tryz.prog 6 #[] w (RetV w (.bool true)) := by
  obtain ⟨zr, hzr⟩ : ∃ z, Array.replicate 16 (Value.int .u8 0) = z := ⟨_, rfl⟩
  have hmk : ∀ w : World, (Instr.makeSlice 24 (.int .i64 16) (.int .i64 16)).run Tryz.prog w = .ok (.slice (some ⟨w.heap.size, 0, none⟩) 16 16) (w.alloc (.cells zr 5)) := fun w => by
    have := run_make_row' (P := Tryz.prog) 24 5 (.int .u8 0) 1 Tryz.underlying24 infoB rfl .i64 .i64 16 (by omega) (by omega) w
    rw [made_replicate, hzr] at this
    exact this
  have HZ : Hid (∀ (W : World), Own eB W.heap.size (W.alloc (.cells zr 5)) (some ⟨W.heap.size, 0, none⟩) 16 16 z16) := Lib.hid (fun W => by
    have := Own.new (B := W.heap.size) (enc := eB) W 5 z16 (Nat.le_refl _) (by simp [z16])
    have e : (z16.map eB).toArray = zr := by rw [← hzr]; rfl
    rw [e] at this
    simpa [z16] using this)
  have HL := Lib.hid hL
  clear hL hzr
  go_enter Tryz.func6, Tryz.ntmps6
  go_wp2_with fail
  generalize hW0 : World.alloc (World.alloc (World.alloc w _) _) _ = w0
  have hg0 : Below w.heap.size w w0 := by rw [← hW0]; exact (((Below.refl _ w).alloc (Nat.le_refl _) _).alloc (by simp) _).alloc (by simp; omega) _
  have hz : Rd eB w0 (some ⟨w.heap.size + 1, 0, none⟩) 16 z16 := by
    rw [← hW0]
    have := ((HZ.out (w.alloc (.cells #[.int .i64 16, .int .i64 1, .int .i64 1, .int .i64 1, .int .i64 1] 23))).alloc (.cells #[.slice (some ⟨w.heap.size + 1, 0, none⟩) 16 16, .slice (some ⟨w.heap.size + 1, 0, none⟩) 16 16, .slice (some ⟨w.heap.size + 1, 0, none⟩) 16 16] 26)).rd
    simpa using this
  have q0 : w0.cell? ⟨w.heap.size, 0, none⟩ = some (.int .i64 16) := by subst hW0; go_simp
  have q1 : w0.cell? ⟨w.heap.size, 1, none⟩ = some (.int .i64 1) := by subst hW0; go_simp
  have q2 : w0.cell? ⟨w.heap.size, 2, none⟩ = some (.int .i64 1) := by subst hW0; go_simp
  have q3 : w0.cell? ⟨w.heap.size, 3, none⟩ = some (.int .i64 1) := by subst hW0; go_simp
  have q4 : w0.cell? ⟨w.heap.size, 4, none⟩ = some (.int .i64 1) := by subst hW0; go_simp
  have q5 : w0.cell? ⟨w.heap.size + 1 + 1, 0, none⟩ = some (.slice (some ⟨w.heap.size + 1, 0, none⟩) 16 16) := by subst hW0; go_simp
  have q6 : w0.cell? ⟨w.heap.size + 1 + 1, 1, none⟩ = some (.slice (some ⟨w.heap.size + 1, 0, none⟩) 16 16) := by subst hW0; go_simp
  have q7 : w0.cell? ⟨w.heap.size + 1 + 1, 2, none⟩ = some (.slice (some ⟨w.heap.size + 1, 0, none⟩) 16 16) := by subst hW0; go_simp
  have HGr : Hid (Ground f0 m0 (some ⟨w.heap.size + 1, 0, none⟩) (some ⟨w.heap.size + 1, 0, none⟩) (some ⟨w.heap.size + 1, 0, none⟩) 16 16 16 w0) := Lib.hid ⟨HL.out.below hg0, m0_ok, hz, hz, hz⟩
  have HG0 := Lib.hid hg0
  have HZ0 := Lib.hid hz
  clear hW0 hg0 hz hmk HZ
  have HSG : Hid ((signL f0 m0 z16 z16).length = 624) := Lib.hid (signL_length f0 (by simp [f0]) m0 z16 z16)
  have HPL : Hid ((publicL f0 m0).length = 32) := Lib.hid (publicL_length f0 m0 m0_ok)
  have HFIT : Hid (fitsL f0 (publicL f0 m0) z16 (signL f0 m0 z16 z16) = true) := Lib.hid (signed_fits f0 m0 m0_ok z16 z16)
  have HC := Lib.hid (sign_any f0 m0 _ _ _ _ (some ⟨w.heap.size + 1, 0, none⟩) 16 16 16 16 16 16 16 16 16 16 z16 z16 w0 HGr.out HZ0.out (by simp [z16, f0]) HZ0.out (by simp [z16]))
  rw [vF0_eq] at HC
  unfold vF0 vSec at HC
  have HPUB := Lib.hid (fun W (hW : Below w0.heap.size w0 W) => public_any f0 m0 (some ⟨w.heap.size + 1, 0, none⟩) (some ⟨w.heap.size + 1, 0, none⟩) (some ⟨w.heap.size + 1, 0, none⟩) 16 16 16 16 16 16 W (HGr.out.below hW))
  have HRPUB := Lib.hid (fun W (hW : Below w0.heap.size w0 W) => rpublic_any f0 m0 (some ⟨w.heap.size + 1, 0, none⟩) (some ⟨w.heap.size + 1, 0, none⟩) (some ⟨w.heap.size + 1, 0, none⟩) 16 16 16 16 16 16 W (HGr.out.below hW))
  rw [vF0_eq] at HPUB HRPUB
  have HSZ1 := Lib.hid size1
  have HSZ0 := Lib.hid size0
  have HCH0 := Lib.hid chains0
  unfold vF0 vSec at HPUB HRPUB
  unfold vF1 at HSZ1
  unfold vF0 at HSZ0 HCH0
  generalize signL f0 m0 z16 z16 = sg at *
  generalize publicL f0 m0 = pb at *
  refine HC.out.mono ?_
  rintro e w1 ⟨A1, n1, c1, rfl, h1, g1⟩
  obtain rfl : 624 = n1 := by rw [← h1.len]; exact HSG.out.symm
  have G1 : Hid (Below w0.heap.size w0 w1) := Lib.hid g1
  have H1 := Lib.hid h1.rd
  have hc1 := h1.nc
  have p0 := cell_old g1 q0; have p1 := cell_old g1 q1; have p2 := cell_old g1 q2; have p3 := cell_old g1 q3; have p4 := cell_old g1 q4; have p5 := cell_old g1 q5; have p6 := cell_old g1 q6; have p7 := cell_old g1 q7
  clear g1 h1 q0 q1 q2 q3 q4 q5 q6 q7 HC
  go_wp2_with fail
  refine (HPUB.out w1 G1.out).mono ?_
  rintro e w2 ⟨A2, n2, c2, rfl, h2, g2⟩
  obtain rfl : 32 = n2 := by rw [← h2.len]; exact HPL.out.symm
  have G2 : Hid (Below w0.heap.size w0 w2) := Lib.hid (Below.trans G1.out (g2.mono G1.out.size))
  have H2 := Lib.hid h2.rd
  have H12 := Lib.hid (H1.out.below g2)
  have hc2 := h2.nc
  have q0 := cell_old g2 p0; have q1 := cell_old g2 p1; have q2 := cell_old g2 p2; have q3 := cell_old g2 p3; have q4 := cell_old g2 p4; have q5 := cell_old g2 p5; have q6 := cell_old g2 p6; have q7 := cell_old g2 p7
  clear g2 h2 p0 p1 p2 p3 p4 p5 p6 p7 H1 G1
  go_wp2_with fail
  refine (HSZ1.out w2).mono ?_
  rintro e w3 ⟨rfl, g3⟩
  have G3 : Hid (Below w2.heap.size w2 w3) := Lib.hid g3
  have p0 := cell_old g3 q0; have p1 := cell_old g3 q1; have p2 := cell_old g3 q2; have p3 := cell_old g3 q3; have p4 := cell_old g3 q4; have p5 := cell_old g3 q5; have p6 := cell_old g3 q6; have p7 := cell_old g3 q7
  clear g3 q0 q1 q2 q3 q4 q5 q6 q7
  go_wp2_with fail
  refine (HCH0.out w3).mono ?_
  rintro e w4 ⟨rfl, g4⟩
  have G4 : Hid (Below w2.heap.size w2 w4) := Lib.hid (Below.trans G3.out (g4.mono G3.out.size))
  have q0 := cell_old g4 p0; have q1 := cell_old g4 p1; have q2 := cell_old g4 p2; have q3 := cell_old g4 p3; have q4 := cell_old g4 p4; have q5 := cell_old g4 p5; have q6 := cell_old g4 p6; have q7 := cell_old g4 p7
  clear g4 p0 p1 p2 p3 p4 p5 p6 p7 G3
  go_wp2_with fail
  refine (HSZ0.out w4).mono ?_
  rintro e w5 ⟨rfl, g5⟩
  have G5 : Hid (Below w2.heap.size w2 w5) := Lib.hid (Below.trans G4.out (g5.mono G4.out.size))
  have G05 : Hid (Below w0.heap.size w0 w5) := Lib.hid (Below.trans G2.out (G5.out.mono G2.out.size))
  have p0 := cell_old g5 q0; have p1 := cell_old g5 q1; have p2 := cell_old g5 q2; have p3 := cell_old g5 q3; have p4 := cell_old g5 q4; have p5 := cell_old g5 q5; have p6 := cell_old g5 q6; have p7 := cell_old g5 q7
  have HFC := Lib.hid (fits_any f0 f0_ok A2 (some ⟨w.heap.size + 1, 0, none⟩) A1 c2 16 16 624 c1 pb z16 sg w5 ((HL.out.below HG0.out).below G05.out) (H2.out.below G5.out) hc2 (HZ0.out.below G05.out) (by simp [z16]) (H12.out.below G5.out) rfl hc1)
  rw [HFIT.out, vF0_eq] at HFC
  unfold vF0 at HFC
  clear g5 q0 q1 q2 q3 q4 q5 q6 q7 G4
  go_wp2_with fail
  refine HFC.out.mono ?_
  rintro e w6 ⟨rfl, g6⟩
  have G6 : Hid (Below w2.heap.size w2 w6) := Lib.hid (Below.trans G5.out (g6.mono G5.out.size))
  have q0 := cell_old g6 p0; have q1 := cell_old g6 p1; have q2 := cell_old g6 p2; have q3 := cell_old g6 p3; have q4 := cell_old g6 p4; have q5 := cell_old g6 p5; have q6 := cell_old g6 p6; have q7 := cell_old g6 p7
  clear g6 p0 p1 p2 p3 p4 p5 p6 p7 G5 G05 HFC
  have HFN := Lib.hid (fits_sig f0 f0_ok A2 (some ⟨w.heap.size + 1, 0, none⟩) none c2 16 16 0 0 w6 (by decide))
  rw [vF0_eq] at HFN
  unfold vF0 at HFN
  go_wp2_with fail
  refine HFN.out.mono ?_
  rintro e w7 ⟨rfl, g7⟩
  have G7 : Hid (Below w2.heap.size w2 w7) := Lib.hid (Below.trans G6.out (g7.mono G6.out.size))
  have G07 : Hid (Below w0.heap.size w0 w7) := Lib.hid (Below.trans G2.out (G7.out.mono G2.out.size))
  have p0 := cell_old g7 q0; have p1 := cell_old g7 q1; have p2 := cell_old g7 q2; have p3 := cell_old g7 q3; have p4 := cell_old g7 q4; have p5 := cell_old g7 q5; have p6 := cell_old g7 q6; have p7 := cell_old g7 q7
  clear g7 q0 q1 q2 q3 q4 q5 q6 q7 G6 HFN
  go_wp2_with fail
  refine (HRPUB.out w7 G07.out).mono ?_
  rintro e w8 ⟨A8, n8, c8, rfl, h8, g8⟩
  have G08 : Hid (Below w0.heap.size w0 w8) := Lib.hid (Below.trans G07.out (g8.mono G07.out.size))
  have HSM := Lib.hid (same_any A2 A8 32 n8 c2 c8 pb pb w8 ((H2.out.below G7.out).below g8) h8.rd)
  rw [sameB_refl] at HSM
  clear h8 g8 p0 p1 p2 p3 p4 p5 p6 p7
  go_wp2_with fail
  refine HSM.out.mono ?_
  rintro e w9 ⟨rfl, g9⟩
  have G9 : Hid (Below w.heap.size w w9) := Lib.hid (HG0.out.trans ((Below.trans G08.out (g9.mono G08.out.size)).mono HG0.out.size))
  clear g9
  go_wp2
  go_ret
  exact ⟨rfl, G9.out⟩
end Go.Proofs.Sl
