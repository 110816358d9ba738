/- The document's SLH: a signature. -/
import Derived.Test.YtipedpkkabfdjaaGreatDoorFits28
import Derived.Test.YtipedpkkabfdjaaGreatDoorFits29
import Derived.Test.YtipedpkkabfdjaaGreatDoorFits21
namespace Go.Proofs.Sl
open Go.RowKit Go.Proofs

theorem ofAt_len (f : Few) (hN : f.N ≤ 136) (m : Sec) (tree q : Nat) : ∀ k, (ofAt f m tree q k).length = f.N
  | 0 => tweakL_length _ _ _ _ hN
  | _ + 1 => sNode_length _ _ _ _ _ _ _ hN
theorem run_index3 (x y z : Int) (w : World) : (Instr.index 61 (.agg #[.int .i64 x, .int .i64 y, .int .i64 z]) (.int .i64 0)).run Tryz.prog w = .ok (.int .i64 x) w := by
  have ha := Tryz.isAgg3
  have hs := Tryz.sizeOf3
  simp [Instr.index, go_sem, ha, hs]

set_option maxRecDepth 8000 in
set_option maxHeartbeats 8000000 in
theorem rsign_any (f : Few) (m : Sec) (A1 A2 A3 Ax At : Option Addr) (n1 n2 n3 nx nt c1 c2 c3 cx ct : Nat) (extra text : List UInt8) (w : World) (hM : Ground f m A1 A2 A3 n1 n2 n3 w) (hx : Rd eB w Ax nx extra) (hxl : extra.length = f.N) (ht : Rd eB w At nt text) (htl : text.length ≤ 65536) :
    Calls Tryz.prog 9 #[vFew f, vSec A1 A2 A3 n1 n2 n3 c1 c2 c3, .slice Ax nx cx, .slice At nt ct] w (fun e w' => ∃ A n c, e = .returned (.tuple #[.slice A n c, .int .i64 0]) ∧ Own eB w.heap.size w' A n c (signL f m extra text) ∧ Below w.heap.size w w') := by
  have HM := Lib.hid hM
  have HX := Lib.hid hx
  have HT := Lib.hid ht
  have hN1 := hM.ok.ok.N.pos'
  have hN2 := hM.ok.ok.N.le'
  have hnx : nx = f.N := by rw [← hx.len]; exact hxl
  subst hnx
  have hntl : nt ≤ 65536 := by rw [← ht.len]; exact htl
  have HZ : Hid ((m.salt ++ extra ++ text).length ≤ 70000) := Lib.hid (by simp only [List.length_append, hM.ok.salt, hxl]; omega)
  have HFL : Hid ([m.salt, extra, text].flatten = m.salt ++ extra ++ text) := Lib.hid (by simp)
  have HMD := Lib.hid (rmade_any f.N f.L f.H f.K f.A A1 A2 A3 n1 n2 n3 c1 c2 c3 ((w.alloc (.cells #[.int .i64 (f.N : Int), .int .i64 (f.L : Int), .int .i64 (f.H : Int), .int .i64 (f.K : Int), .int .i64 (f.A : Int)] 23)).alloc (.cells #[.slice A1 n1 c1, .slice A2 n2 c2, .slice A3 n3 c3] 26)))
  rw [HM.out.made] at HMD
  have hNN : ((f.N : Int) != (f.N : Int)) = false := by simp
  clear hM hx hxl ht htl
  unfold vFewI vSec at HMD
  unfold vFew vSec at *
  go_enter Tryz.func9, Tryz.ntmps9
  go_wp2_with fail
  refine HMD.out.mono ?_
  rintro e w1 ⟨rfl, hB⟩
  clear HMD
  have g1 : Grow w w1 := (((Below.refl _ w).alloc (Nat.le_refl _) _).alloc (by simp) _).trans (hB.mono (by simp; omega))
  have q0 : w1.cell? ⟨w.heap.size, 0, none⟩ = some (.int .i64 (f.N : Int)) := (hB.cell (by simp; omega)).trans (by go_simp)
  have q1 : w1.cell? ⟨w.heap.size, 1, none⟩ = some (.int .i64 (f.L : Int)) := (hB.cell (by simp; omega)).trans (by go_simp)
  have q2 : w1.cell? ⟨w.heap.size, 2, none⟩ = some (.int .i64 (f.H : Int)) := (hB.cell (by simp; omega)).trans (by go_simp)
  have q3 : w1.cell? ⟨w.heap.size, 3, none⟩ = some (.int .i64 (f.K : Int)) := (hB.cell (by simp; omega)).trans (by go_simp)
  have q4 : w1.cell? ⟨w.heap.size, 4, none⟩ = some (.int .i64 (f.A : Int)) := (hB.cell (by simp; omega)).trans (by go_simp)
  have q5 : w1.cell? ⟨w.heap.size + 1, 0, none⟩ = some (.slice A1 n1 c1) := (hB.cell (by simp)).trans (by go_simp)
  have q6 : w1.cell? ⟨w.heap.size + 1, 1, none⟩ = some (.slice A2 n2 c2) := (hB.cell (by simp)).trans (by go_simp)
  have q7 : w1.cell? ⟨w.heap.size + 1, 2, none⟩ = some (.slice A3 n3 c3) := (hB.cell (by simp)).trans (by go_simp)
  have hs1 : w.heap.size + 1 < w1.heap.size := by have := hB.size; simp at this; omega
  have HG1 : Hid (Below w.heap.size w w1) := Lib.hid g1
  clear hB g1
  go_wp2_with fail
  have k0 : w1.drew.cell? ⟨w.heap.size, 0, none⟩ = some (.int .i64 (f.N : Int)) := q0
  have k1 : w1.drew.cell? ⟨w.heap.size, 1, none⟩ = some (.int .i64 (f.L : Int)) := q1
  have k2 : w1.drew.cell? ⟨w.heap.size, 2, none⟩ = some (.int .i64 (f.H : Int)) := q2
  have k3 : w1.drew.cell? ⟨w.heap.size, 3, none⟩ = some (.int .i64 (f.K : Int)) := q3
  have k4 : w1.drew.cell? ⟨w.heap.size, 4, none⟩ = some (.int .i64 (f.A : Int)) := q4
  have k5 : w1.drew.cell? ⟨w.heap.size + 1, 0, none⟩ = some (.slice A1 n1 c1) := q5
  have k6 : w1.drew.cell? ⟨w.heap.size + 1, 1, none⟩ = some (.slice A2 n2 c2) := q6
  have k7 : w1.drew.cell? ⟨w.heap.size + 1, 2, none⟩ = some (.slice A3 n3 c3) := q7
  refine wp_region_rg Grow 161 9 9 [[], [], [], [], [], [4], [], [], [5]]
    [.still [] (.pointer (some ⟨w.heap.size + 1, 1, none⟩)), .still [] (.slice A2 n2 c2), .still [] (.slice Ax f.N cx), .still [] (.slice At nt ct), .grow [] (PartsV [m.salt, extra, text]), .grow [4] (OwnV eB 0 (m.salt ++ extra ++ text)), .still [] (.pointer (some ⟨w.heap.size, 0, none⟩)), .still [] (.int .i64 (f.N : Int)), .grow [5] (OwnV eB w1.heap.size (saltL f m extra text))] (by kernel_rfl) (by kernel_rfl) rfl rfl rfl Grow.trans (Grow.refl _) ?_
  iterate 4
    refine Obl.still (fun W hg _ => ?_) ?_
    · have c0 := cell_old hg k0; have c1 := cell_old hg k1; have c2 := cell_old hg k2; have c3 := cell_old hg k3; have c4 := cell_old hg k4; have c5 := cell_old hg k5; have c6 := cell_old hg k6; have c7 := cell_old hg k7; clear hg k0 k1 k2 k3 k4 k5 k6 k7
      go_wp2
      exact ⟨rfl, rfl, rfl, Grow.refl _⟩
    simp only [Act.put, List.setIfInBounds_toArray, List.set_cons_zero, List.set_cons_succ]
  refine Obl.grow (PartsV.keep _) (fun W hg _ => ?_) (fun v4 => ?_)
  · have hbW : Below w.heap.size w W := HG1.out.trans (((Below.refl _ _).drew.trans hg).mono HG1.out.size)
    have h1 := HM.out.r2.below hbW
    have h2 := HX.out.below hbW
    have h3 := HT.out.below hbW
    clear hbW
    clear hg k0 k1 k2 k3 k4 k5 k6 k7
    go_wp2
    exact ⟨rfl, rfl, ⟨_, _, rfl, parts3 (cell_new ..) (cell_new ..) (cell_new ..) (h1.alloc _) (h2.alloc _) (h3.alloc _)⟩, (Below.refl _ _).alloc (Nat.le_refl _) _⟩
  simp only [Act.put, List.setIfInBounds_toArray, List.set_cons_zero, List.set_cons_succ]
  refine Obl.grow (OwnV.keep _ _ _) (fun W hg ⟨h4, _⟩ => ?_) (fun v5 => ?_)
  · obtain ⟨bh4, nh4, rfl, h4⟩ := h4
    have HC := Lib.hid (rcat_any (some ⟨bh4, 0, none⟩) nh4 nh4 _ W h4 (by rw [HFL.out]; have := HZ.out; omega))
    rw [HFL.out] at HC
    clear h4
    clear hg k0 k1 k2 k3 k4 k5 k6 k7
    go_wp2_with fail
    refine (HC.out).mono ?_
    rintro e w' ⟨A1, n1, c1, rfl, h1, h2⟩
    go_wp2
    exact ⟨rfl, rfl, ⟨_, _, _, rfl, h1.mono (Nat.zero_le _)⟩, h2⟩
  simp only [Act.put, List.setIfInBounds_toArray, List.set_cons_zero, List.set_cons_succ]
  iterate 2
    refine Obl.still (fun W hg _ => ?_) ?_
    · have c0 := cell_old hg k0; have c1 := cell_old hg k1; have c2 := cell_old hg k2; have c3 := cell_old hg k3; have c4 := cell_old hg k4; have c5 := cell_old hg k5; have c6 := cell_old hg k6; have c7 := cell_old hg k7; clear hg k0 k1 k2 k3 k4 k5 k6 k7
      go_wp2
      exact ⟨rfl, rfl, rfl, Grow.refl _⟩
    simp only [Act.put, List.setIfInBounds_toArray, List.set_cons_zero, List.set_cons_succ]
  refine Obl.grow (OwnV.keep _ _ _) (fun W hg ⟨h5, _⟩ => ?_) (fun v8 => ?_)
  · obtain ⟨Ah5, nh5, ch5, rfl, h5⟩ := h5
    have hsW : w1.heap.size ≤ W.heap.size := hg.size
    have HS := Lib.hid hsW
    have HC := Lib.hid (rshake_any Ah5 nh5 ch5 _ f.N W h5.rd (by have := HZ.out; omega) (by omega) (by omega))
    clear hsW h5
    clear hg k0 k1 k2 k3 k4 k5 k6 k7
    go_wp2_with fail
    refine (HC.out).mono ?_
    rintro e w' ⟨A1, n1, c1, rfl, h1, h2⟩
    go_wp2
    exact ⟨rfl, rfl, ⟨_, _, _, rfl, h1.mono HS.out⟩, h2⟩
  simp only [Act.put, List.setIfInBounds_toArray, List.set_cons_zero, List.set_cons_succ]
  refine Obl.done (fun ws hg hall => ?_)
  obtain ⟨hx, _⟩ := hall
  obtain ⟨As, ns, cs, rfl, hx⟩ := hx
  obtain rfl : f.N = ns := by rw [← hx.len]; exact (shakeL_length _ _ (by omega)).symm
  have HS := Lib.hid hx
  have g2 : Grow w1 ws := (Below.refl _ _).drew.trans hg
  have p0 := cell_old g2 q0
  have p1 := cell_old g2 q1
  have p2 := cell_old g2 q2
  have p3 := cell_old g2 q3
  have p4 := cell_old g2 q4
  have p5 := cell_old g2 q5
  have p6 := cell_old g2 q6
  have p7 := cell_old g2 q7
  have HG2 := Lib.hid (HG1.out.trans (g2.mono HG1.out.size))
  have HSZ2 := Lib.hid g2.size
  clear hg k0 k1 k2 k3 k4 k5 k6 k7 hx g2 q0 q1 q2 q3 q4 q5 q6 q7
  go_wp2_with fail

  have k0 : ws.drew.cell? ⟨w.heap.size, 0, none⟩ = some (.int .i64 (f.N : Int)) := p0
  have k1 : ws.drew.cell? ⟨w.heap.size, 1, none⟩ = some (.int .i64 (f.L : Int)) := p1
  have k2 : ws.drew.cell? ⟨w.heap.size, 2, none⟩ = some (.int .i64 (f.H : Int)) := p2
  have k3 : ws.drew.cell? ⟨w.heap.size, 3, none⟩ = some (.int .i64 (f.K : Int)) := p3
  have k4 : ws.drew.cell? ⟨w.heap.size, 4, none⟩ = some (.int .i64 (f.A : Int)) := p4
  have k5 : ws.drew.cell? ⟨w.heap.size + 1, 0, none⟩ = some (.slice A1 n1 c1) := p5
  have k6 : ws.drew.cell? ⟨w.heap.size + 1, 1, none⟩ = some (.slice A2 n2 c2) := p6
  have k7 : ws.drew.cell? ⟨w.heap.size + 1, 2, none⟩ = some (.slice A3 n3 c3) := p7
  refine wp_region_rg Grow 161 7 7 [[], [], [], [], [], [], [4]]
    [.still [] (.agg #[.int .i64 (f.N : Int), .int .i64 (f.L : Int), .int .i64 (f.H : Int), .int .i64 (f.K : Int), .int .i64 (f.A : Int)]), .still [] (.slice As f.N cs), .still [] (.agg #[.int .i64 (f.N : Int), .int .i64 (f.L : Int), .int .i64 (f.H : Int), .int .i64 (f.K : Int), .int .i64 (f.A : Int)]), .still [] (.agg #[.slice A1 n1 c1, .slice A2 n2 c2, .slice A3 n3 c3]), .grow [] (OwnV eB 0 (publicL f m)), .still [] (.slice At nt ct), .grow [4] (OwnV eB ws.heap.size (digestL f (saltL f m extra text) (publicL f m) text))] (by kernel_rfl) (by kernel_rfl) rfl rfl rfl Grow.trans (Grow.refl _) ?_
  iterate 4
    refine Obl.still (fun W hg _ => ?_) ?_
    · have c0 := cell_old hg k0; have c1 := cell_old hg k1; have c2 := cell_old hg k2; have c3 := cell_old hg k3; have c4 := cell_old hg k4; have c5 := cell_old hg k5; have c6 := cell_old hg k6; have c7 := cell_old hg k7; clear hg k0 k1 k2 k3 k4 k5 k6 k7
      go_wp2
      exact ⟨rfl, rfl, rfl, Grow.refl _⟩
    simp only [Act.put, List.setIfInBounds_toArray, List.set_cons_zero, List.set_cons_succ]
  refine Obl.grow (OwnV.keep _ _ _) (fun W hg _ => ?_) (fun v4 => ?_)
  · have hbW : Below w.heap.size w W := HG2.out.trans (((Below.refl _ _).drew.trans hg).mono HG2.out.size)
    have HC := Lib.hid (rpublic_any f m A1 A2 A3 n1 n2 n3 c1 c2 c3 W (HM.out.below hbW))
    unfold vFew vSec at HC
    clear hbW
    clear hg k0 k1 k2 k3 k4 k5 k6 k7
    go_wp2_with fail
    refine (HC.out).mono ?_
    rintro e w' ⟨A1, n1, c1, rfl, h1, h2⟩
    go_wp2
    exact ⟨rfl, rfl, ⟨_, _, _, rfl, h1.mono (Nat.zero_le _)⟩, h2⟩
  simp only [Act.put, List.setIfInBounds_toArray, List.set_cons_zero, List.set_cons_succ]
  refine Obl.still (fun W hg _ => ?_) ?_
  · have c0 := cell_old hg k0; have c1 := cell_old hg k1; have c2 := cell_old hg k2; have c3 := cell_old hg k3; have c4 := cell_old hg k4; have c5 := cell_old hg k5; have c6 := cell_old hg k6; have c7 := cell_old hg k7; clear hg k0 k1 k2 k3 k4 k5 k6 k7
    go_wp2
    exact ⟨rfl, rfl, rfl, Grow.refl _⟩
  simp only [Act.put, List.setIfInBounds_toArray, List.set_cons_zero, List.set_cons_succ]
  refine Obl.grow (OwnV.keep _ _ _) (fun W hg ⟨h4, _⟩ => ?_) (fun v6 => ?_)
  · obtain ⟨Ah4, nh4, ch4, rfl, h4⟩ := h4
    have hbW : Below w.heap.size w W := HG2.out.trans (((Below.refl _ _).drew.trans hg).mono HG2.out.size)
    have hsW : ws.heap.size ≤ W.heap.size := hg.size
    have HSZ := Lib.hid hsW
    have hsr : Rd eB W As f.N (saltL f m extra text) := HS.out.rd.below (w := ws) ((Below.refl _ _).drew.trans hg)
    have hnh : nh4 ≤ 64 := by rw [← h4.len, publicL_length f m HM.out.ok]; omega
    have HC := Lib.hid (rdigest_any f HM.out.ok.ok As Ah4 At f.N nh4 nt cs ch4 ct _ _ text W hsr h4.rd (HT.out.below hbW) (by simp only [List.length_append]; rw [hsr.len, h4.len, HT.out.len]; omega))
    unfold vFew at HC
    clear hsW hbW h4 hsr
    clear hg k0 k1 k2 k3 k4 k5 k6 k7
    go_wp2_with fail
    refine (HC.out).mono ?_
    rintro e w' ⟨A1, n1, c1, rfl, h1, h2⟩
    go_wp2
    exact ⟨rfl, rfl, ⟨_, _, _, rfl, h1.mono HSZ.out⟩, h2⟩
  simp only [Act.put, List.setIfInBounds_toArray, List.set_cons_zero, List.set_cons_succ]
  refine Obl.done (fun W hg hall => ?_)
  obtain ⟨hx, _⟩ := hall
  obtain ⟨Ad, nd, cd, rfl, hx⟩ := hx
  have HD := Lib.hid hx
  have g3 : Grow ws W := (Below.refl _ _).drew.trans hg
  have q0 := cell_old g3 p0
  have q1 := cell_old g3 p1
  have q2 := cell_old g3 p2
  have q3 := cell_old g3 p3
  have q4 := cell_old g3 p4
  have q5 := cell_old g3 p5
  have q6 := cell_old g3 p6
  have q7 := cell_old g3 p7
  have HG3 : Hid (Below w.heap.size w W) := Lib.hid (HG2.out.trans (g3.mono HG2.out.size))
  have HS3 := Lib.hid (HS.out.below g3)
  have HSZ3 := Lib.hid (Nat.le_trans HSZ2.out g3.size)
  clear hg k0 k1 k2 k3 k4 k5 k6 k7 hx g3 p0 p1 p2 p3 p4 p5 p6 p7

  obtain ⟨d, hd⟩ : ∃ x, digestL f (saltL f m extra text) (publicL f m) text = x := ⟨_, rfl⟩
  rw [hd] at HD
  have HDD := Lib.hid hd
  have hpa := pA_le HM.out.ok.ok
  have hpb := pB_le HM.out.ok.ok
  have hpc := pC_le HM.out.ok.ok
  have hdl : d.length = pA f + pB f + pC f := by rw [← hd]; exact shakeL_length _ _ (by omega)
  have hnd : nd = pA f + pB f + pC f := by rw [← HD.out.len, hdl]
  have hWV : whereV f nd d = .tuple #[.int .u64 (treeOf f d : Int), .int .u32 (leafOf f d : Int), .bool true] := if_pos hnd
  have HWH := Lib.hid (rwhere_any f HM.out.ok.ok Ad nd cd d W HD.out.rd HD.out.nc)
  rw [hWV] at HWH
  unfold vFew at HWH
  have hT1 : treeOf f d < 2 ^ ((f.L - 1) * f.H) := Nat.mod_lt _ (Nat.two_pow_pos _)
  have hT2 : 2 ^ ((f.L - 1) * f.H) ≤ 2 ^ 63 := Nat.pow_le_pow_right (by omega) HM.out.ok.ok.LH
  have hQ1 : leafOf f d < 2 ^ f.H := Nat.mod_lt _ (Nat.two_pow_pos _)
  have hQ2 : leafOf f d < 4294967296 := by have := pow512_le HM.out.ok.ok.H2; omega
  have HT1 : Hid (W64 (treeOf f d) ∧ leafOf f d < 4294967296 ∧ leafOf f d < 2 ^ f.H ∧ treeOf f d < 2 ^ ((f.L - 1) * f.H)) := Lib.hid ⟨by unfold W64; omega, hQ2, hQ1, hT1⟩
  have HPT := Lib.hid (fun w => rparts_any f HM.out.ok.ok w)
  unfold vFew at HPT
  have HDL : Hid ((d.take (pA f)).length = pA f ∧ f.K * f.A ≤ pA f * 8) := Lib.hid ⟨by rw [List.length_take, hdl]; omega, by unfold pA wholeB; omega⟩
  have hcd : pA f ≤ cd := by have := HD.out.nc; omega
  have hpa1 := pA_pos HM.out.ok.ok
  have HRD := Lib.hid (HD.out.rd.take (pA f) (by omega))
  clear hd hdl hnd hWV hT1 hT2 hQ1 hQ2 hpb hpc
  go_wp2_with fail
  refine HWH.out.mono ?_
  rintro e w5 ⟨rfl, g5⟩
  have HG5 : Hid (Below w.heap.size w w5) := Lib.hid (HG3.out.trans (g5.mono HG3.out.size))
  have HS5 := Lib.hid (HS3.out.below g5)
  have hsz5 : w1.heap.size ≤ w5.heap.size := Nat.le_trans HSZ3.out g5.size
  have HRD5 := Lib.hid (HRD.out.below g5)
  have p0 := cell_old g5 q0
  have p1 := cell_old g5 q1
  have p2 := cell_old g5 q2
  have p3 := cell_old g5 q3
  have p4 := cell_old g5 q4
  have p5 := cell_old g5 q5
  have p6 := cell_old g5 q6
  have p7 := cell_old g5 q7
  clear HWH HRD HS3 g5 q0 q1 q2 q3 q4 q5 q6 q7
  go_wp2_with fail
  refine (HPT.out w5).mono ?_
  rintro e w6 ⟨rfl, g6⟩
  have HG6 : Hid (Below w.heap.size w w6) := Lib.hid (HG5.out.trans (g6.mono HG5.out.size))
  have HS6 := Lib.hid (HS5.out.below g6)
  have hsz6 : w1.heap.size ≤ w6.heap.size := Nat.le_trans hsz5 g6.size
  have HRD6 := Lib.hid (HRD5.out.below g6)
  have hix := run_index3 (pA f : Int) (pB f : Int) (pC f : Int) w6
  have q0 := cell_old g6 p0
  have q1 := cell_old g6 p1
  have q2 := cell_old g6 p2
  have q3 := cell_old g6 p3
  have q4 := cell_old g6 p4
  have q5 := cell_old g6 p5
  have q6 := cell_old g6 p6
  have q7 := cell_old g6 p7
  clear HRD5 HS5 g6 p0 p1 p2 p3 p4 p5 p6 p7
  go_wp2_with fail
  have HTL := Lib.hid (rtell_any f m A1 A2 A3 Ad n1 n2 n3 c1 c2 c3 (pA f) cd (treeOf f d) (leafOf f d) (d.take (pA f)) w6 (HM.out.below HG6.out) HT1.out.1 HT1.out.2.1 HRD6.out (by omega) (by rw [HDL.out.1]; exact HDL.out.2))
  unfold vFew vSec at HTL
  refine HTL.out.mono ?_
  rintro e w7 ⟨A7, n7, c7, rfl, h7, g7⟩
  obtain ⟨tl, htl⟩ : ∃ x, f.K * ((f.A + 1) * f.N) = x := ⟨_, rfl⟩
  have htl2 : tl ≤ 40 * (15 * 32) := by rw [← htl]; exact Nat.mul_le_mul HM.out.ok.ok.K2 (Nat.mul_le_mul (by have := HM.out.ok.ok.A2; omega) hN2)
  obtain rfl : tl = n7 := by rw [← h7.len, ← htl]; exact (fTell_part f m.seed m.secret _ _ _ (by omega) f.K).symm
  have HTLN := Lib.hid htl
  have H7 := Lib.hid h7.rd
  have HG7 : Hid (Below w.heap.size w w7) := Lib.hid (HG6.out.trans (g7.mono HG6.out.size))
  have HS7 := Lib.hid (HS6.out.below g7)
  have hs7 : w1.heap.size ≤ w7.heap.size := Nat.le_trans hsz6 g7.size
  have p0 := cell_old g7 q0
  have p1 := cell_old g7 q1
  have p2 := cell_old g7 q2
  have p3 := cell_old g7 q3
  have p4 := cell_old g7 q4
  have p5 := cell_old g7 q5
  have p6 := cell_old g7 q6
  have p7 := cell_old g7 q7
  clear HTL h7 HS6 g7 HRD6 hix htl q0 q1 q2 q3 q4 q5 q6 q7
  go_wp2_with (at_builtin; refine wpList_append_sl rfl _ _ 24 5 (.int .u8 0) 1 rfl Tryz.underlying24 infoB rfl (fun _ => rfl) rfl rfl HS7.out H7.out (by omega) (by omega) hs7 ?_; intro A8 c8 w8 h1 h2 h3; have H8 := Lib.hid h1; have HG8 : Hid (Below w.heap.size w w8) := Lib.hid (Below.trans HG7.out (h3.mono HG1.out.size)); have hs8 : w1.heap.size ≤ w8.heap.size := Nat.le_trans hs7 h3.size; have z0 := (h3.cell (show w.heap.size < w1.heap.size by omega)).trans p0; have z1 := (h3.cell (show w.heap.size < w1.heap.size by omega)).trans p1; have z2 := (h3.cell (show w.heap.size < w1.heap.size by omega)).trans p2; have z3 := (h3.cell (show w.heap.size < w1.heap.size by omega)).trans p3; have z4 := (h3.cell (show w.heap.size < w1.heap.size by omega)).trans p4; have z5 := (h3.cell (show w.heap.size + 1 < w1.heap.size by omega)).trans p5; have z6 := (h3.cell (show w.heap.size + 1 < w1.heap.size by omega)).trans p6; have z7 := (h3.cell (show w.heap.size + 1 < w1.heap.size by omega)).trans p7; clear h1 h2 h3)
  have HWO := Lib.hid (rwhole_any f m A1 A2 A3 n1 n2 n3 c1 c2 c3 (treeOf f d) (leafOf f d) w8 (HM.out.below HG8.out) HT1.out.1 HT1.out.2.1)
  unfold vFew vSec at HWO
  refine HWO.out.mono ?_
  rintro e w9 ⟨A9, n9, c9, rfl, h9, g9⟩
  have hn9 : n9 = f.N := by rw [← h9.len]; exact tweakL_length _ _ _ _ (by omega)
  subst hn9
  have H9 : Hid (Rd eB w9 A9 f.N (fWhole f m.seed m.secret (treeOf f d) (leafOf f d))) := Lib.hid h9.rd
  have HG9 : Hid (Below w.heap.size w w9) := Lib.hid (HG8.out.trans (g9.mono HG8.out.size))
  have HS9 := Lib.hid (H8.out.below g9)
  have hs9 : w1.heap.size ≤ w9.heap.size := Nat.le_trans hs8 g9.size
  have q0 := cell_old g9 z0
  have q1 := cell_old g9 z1
  have q2 := cell_old g9 z2
  have q3 := cell_old g9 z3
  have q4 := cell_old g9 z4
  have q5 := cell_old g9 z5
  have q6 := cell_old g9 z6
  have q7 := cell_old g9 z7
  clear HWO h9 g9 H8 H7 HS7 z0 z1 z2 z3 z4 z5 z6 z7
  go_wp2_with fail
  obtain ⟨tr, htr⟩ : ∃ x, treeOf f d = x := ⟨_, rfl⟩
  obtain ⟨qq, hqq⟩ : ∃ x, leafOf f d = x := ⟨_, rfl⟩
  rw [htr, hqq]
  rw [htr, hqq] at HT1 HS9 H9
  obtain ⟨hdt, hhdt⟩ : ∃ x, saltL f m extra text ++ fTell f m.seed m.secret tr qq (d.take (pA f)) = x := ⟨_, rfl⟩
  rw [hhdt] at HS9
  obtain ⟨hd, hhd⟩ : ∃ x, f.N + tl = x := ⟨_, rfl⟩
  have hhd1 : hd ≤ 32 + 40 * (15 * 32) := by omega
  rw [hhd]
  rw [hhd] at HS9
  have HRES : Hid (signL f m extra text = hdt ++ layersL f m tr qq f.L) := Lib.hid (by unfold signL; dsimp only; rw [HDD.out, htr, hqq, hhdt])
  obtain ⟨ea, hea⟩ : ∃ x, sEach f = x := ⟨_, rfl⟩
  have hch : chainsL f.N ≤ 67 := by unfold chainsL; omega
  have hH := HM.out.ok.H
  have hH1 := HM.out.ok.ok.H1
  have hLL := HM.out.ok.ok.L2
  have eL : (f.L : Int) % 4294967296 = (f.L : Int) := by omega
  have hea2 : ea ≤ 32 * (67 + 6) := by rw [← hea]; exact Nat.mul_le_mul hN2 (by omega)
  have HEA : Hid (chainsL f.N * f.N + f.H * f.N = ea) := Lib.hid (by rw [← hea]; unfold sEach; rw [← Nat.add_mul, Nat.mul_comm])
  have HQT : Hid (∀ l, leafAt f.H tr qq l < 2 ^ f.H) := Lib.hid (fun l => leafAt_lt f tr qq HT1.out.2.2.1 l)
  have HTT : Hid (∀ l, W64 (treeAt f.H tr l)) := Lib.hid (fun l => by have h1 := treeAt_le f.H tr l; have h2 := HT1.out.1; unfold W64 at *; omega)
  have HLY : Hid (∀ l, layersL f m tr qq (l + 1) = layersL f m tr qq l ++ ((List.range (chainsL f.N)).flatMap (fun i => upL f.N m.seed l (treeAt f.H tr l) (leafAt f.H tr qq l) i 0 (sSecret f.N m.seed m.secret l (treeAt f.H tr l) (leafAt f.H tr qq l) i) ((digAll (ofAt f m tr qq l)).getD i 0)) ++ (List.range f.H).flatMap fun g => sNode f.N m.seed m.secret l (treeAt f.H tr l) g (other (leafAt f.H tr qq l / 2 ^ g)))) := Lib.hid (fun l => by unfold layersL; rw [range_flat]; rfl)
  have HOA : Hid (∀ l, ofAt f m tr qq (l + 1) = sNode f.N m.seed m.secret l (treeAt f.H tr l) f.H 0) := Lib.hid (fun l => rfl)
  have HTS : Hid (∀ l, treeAt f.H tr (l + 1) = treeAt f.H tr l / 2 ^ f.H ∧ leafAt f.H tr qq (l + 1) = treeAt f.H tr l % 2 ^ f.H) := Lib.hid (fun l => ⟨treeAt_succ f.H tr l, rfl⟩)
  have HDL1 : Hid (∀ l, (digAll (ofAt f m tr qq l)).length = chainsL f.N) := Lib.hid (fun l => by rw [digAll_length, ofAt_len f (by omega) m tr qq l]; unfold chainsL; omega)
  have HPOW := Lib.hid (fun W => rpow_any f.H W (by omega))
  have hpw1 : 1 ≤ 2 ^ f.H := Nat.one_le_two_pow
  have hpw2 : 2 ^ f.H ≤ 64 := Nat.le_trans (Nat.pow_le_pow_right (by omega) hH) (by decide)
  obtain ⟨pH, hpH⟩ : ∃ x, 2 ^ f.H = x := ⟨_, rfl⟩
  rw [hpH] at HPOW hpw1 hpw2 HQT HTS
  have HCH := Lib.hid (fun W => rchains_any f HM.out.ok.ok W)
  unfold vFew at HCH
  obtain ⟨ch, hch0⟩ : ∃ x, chainsL f.N = x := ⟨_, rfl⟩
  rw [hch0] at HCH HEA HLY HDL1 hch
  have hcn : ch * f.N ≤ 67 * 32 := Nat.mul_le_mul hch hN2
  have hpw : ∀ i g, g ≤ 6 → i ≤ 5000 → (i + 1) * 2 ^ g ≤ 1048576 := fun i g hg hi => by
    have h1 : 2 ^ g ≤ 64 := Nat.le_trans (Nat.pow_le_pow_right (by omega) hg) (by decide)
    exact Nat.le_trans (Nat.mul_le_mul (show i + 1 ≤ 5001 by omega) h1) (by omega)
  have HSUM0 := Lib.hid (fun l T g i W (hl : l < 4294967296) (hT : W64 T) (hg : g ≤ 6) (hi : i ≤ 5000) (hW : Below w.heap.size w W) => rsum_any f m A1 A2 A3 n1 n2 n3 c1 c2 c3 l T g i W ((HM.out.below hW).rgr hl hT) (hpw i g hg hi) (by omega))
  unfold vFew vSec at HSUM0
  have HB9 : Hid (w1.heap.size ≤ w9.heap.size) := Lib.hid hs9
  clear hpw hpH hch0 hea hhd hhdt htr hqq HDD HT1 HTLN HD HPT HDL hpa hcd hpa1 htl2
  go_loopw [10, 12, 13, 16, 17] (fun o t q v ly wo => ∃ (l : Nat) (A Ao : Option Addr) (c co : Nat), l ≤ f.L ∧ ly = .int .u32 (l : Int) ∧ t = .int .u64 ((treeAt f.H tr l : Nat) : Int) ∧ q = .int .u32 ((leafAt f.H tr qq l : Nat) : Int) ∧ o = .slice A (hd + l * ea) c ∧ v = .slice Ao f.N co ∧ Own eB w1.heap.size wo A (hd + l * ea) c (hdt ++ layersL f m tr qq l) ∧ Rd eB wo Ao f.N (ofAt f m tr qq l) ∧ Below w1.heap.size w9 wo) (fun _ _ _ _ ly _ => f.L - (intOf ly).toNat)
  case atStart => exact ⟨0, A8, A9, c8, c9, Nat.zero_le _, rfl, by simp [treeAt], by simp [leafAt], by simp, rfl, by simpa [layersL] using HS9.out, H9.out, Below.refl _ _⟩
  case round =>
    obtain ⟨wo, rfl⟩ : ∃ x, x = wr := ⟨_, rfl⟩
    obtain ⟨l, A, Ao, c, co, hl, rfl, rfl, rfl, rfl, rfl, ho, hof, hgr⟩ := hrel
    obtain ⟨T, hT⟩ : ∃ x, treeAt f.H tr l = x := ⟨_, rfl⟩
    obtain ⟨Q, hQ⟩ : ∃ x, leafAt f.H tr qq l = x := ⟨_, rfl⟩
    have hQ1 : Q < pH := by rw [← hQ]; exact HQT.out l
    have hTW : W64 T := by rw [← hT]; exact HTT.out l
    have HTW := Lib.hid hTW
    have hlea : l * ea ≤ 22 * (32 * (67 + 6)) := Nat.mul_le_mul (by omega) hea2
    obtain ⟨n0, hn0⟩ : ∃ x, hd + l * ea = x := ⟨_, rfl⟩
    have hn0l : n0 ≤ 100000 := by omega
    rw [hT, hQ, hn0]
    rw [hn0] at ho
    have HN0 := Lib.hid hn0
    have HO' := Lib.hid ho
    have HOF := Lib.hid hof
    have HGR' := Lib.hid hgr
    have HSR : Hid (w1.heap.size ≤ wo.heap.size) := Lib.hid (Nat.le_trans HB9.out hgr.size)
    have HTQ := Lib.hid (And.intro hT hQ)
    have p0 : wo.cell? ⟨w.heap.size, 0, none⟩ = some (.int .i64 (f.N : Int)) := (hgr.cell (show w.heap.size < w1.heap.size by omega)).trans q0
    have p1 : wo.cell? ⟨w.heap.size, 1, none⟩ = some (.int .i64 (f.L : Int)) := (hgr.cell (show w.heap.size < w1.heap.size by omega)).trans q1
    have p2 : wo.cell? ⟨w.heap.size, 2, none⟩ = some (.int .i64 (f.H : Int)) := (hgr.cell (show w.heap.size < w1.heap.size by omega)).trans q2
    have p3 : wo.cell? ⟨w.heap.size, 3, none⟩ = some (.int .i64 (f.K : Int)) := (hgr.cell (show w.heap.size < w1.heap.size by omega)).trans q3
    have p4 : wo.cell? ⟨w.heap.size, 4, none⟩ = some (.int .i64 (f.A : Int)) := (hgr.cell (show w.heap.size < w1.heap.size by omega)).trans q4
    have p5 : wo.cell? ⟨w.heap.size + 1, 0, none⟩ = some (.slice A1 n1 c1) := (hgr.cell (show w.heap.size + 1 < w1.heap.size by omega)).trans q5
    have p6 : wo.cell? ⟨w.heap.size + 1, 1, none⟩ = some (.slice A2 n2 c2) := (hgr.cell (show w.heap.size + 1 < w1.heap.size by omega)).trans q6
    have p7 : wo.cell? ⟨w.heap.size + 1, 2, none⟩ = some (.slice A3 n3 c3) := (hgr.cell (show w.heap.size + 1 < w1.heap.size by omega)).trans q7
    clear ho hof hgr hT hQ hTW hn0 hlea
    by_cases hlt : l < f.L
    · have hs1r : w.heap.size + 1 < wo.heap.size := by have := HSR.out; omega
      have hs2 : (wo.heap.size == w.heap.size + 1) = false := by simp; omega
      have hs3 : (wo.heap.size == w.heap.size) = false := by simp; omega
      go_wp2_with fail
      generalize hW2 : World.alloc wo _ = wa
      have g2 : Grow wo wa := by rw [← hW2]; exact (Below.refl _ _).alloc (Nat.le_refl _) _
      have r0 : wa.cell? ⟨w.heap.size, 0, none⟩ = some (.int .i64 (f.N : Int)) := cell_old g2 p0
      have r1 : wa.cell? ⟨w.heap.size, 1, none⟩ = some (.int .i64 (f.L : Int)) := cell_old g2 p1
      have r2 : wa.cell? ⟨w.heap.size, 2, none⟩ = some (.int .i64 (f.H : Int)) := cell_old g2 p2
      have r3 : wa.cell? ⟨w.heap.size, 3, none⟩ = some (.int .i64 (f.K : Int)) := cell_old g2 p3
      have r4 : wa.cell? ⟨w.heap.size, 4, none⟩ = some (.int .i64 (f.A : Int)) := cell_old g2 p4
      have r5 : wa.cell? ⟨w.heap.size + 1, 0, none⟩ = some (.slice A1 n1 c1) := cell_old g2 p5
      have r6 : wa.cell? ⟨w.heap.size + 1, 1, none⟩ = some (.slice A2 n2 c2) := cell_old g2 p6
      have r7 : wa.cell? ⟨w.heap.size + 1, 2, none⟩ = some (.slice A3 n3 c3) := cell_old g2 p7
      have r8 : wa.cell? ⟨wo.heap.size, 0, none⟩ = some (.int .u32 (l : Int)) := by subst hW2; go_simp
      have r9 : wa.cell? ⟨wo.heap.size, 1, none⟩ = some (.int .u64 (T : Int)) := by subst hW2; go_simp
      have r10 : wa.cell? ⟨wo.heap.size, 2, none⟩ = some (.int .u32 0) := by subst hW2; go_simp
      have r11 : wa.cell? ⟨wo.heap.size, 3, none⟩ = some (.int .u32 (Q : Int)) := by subst hW2; go_simp
      have r12 : wa.cell? ⟨wo.heap.size, 4, none⟩ = some (.int .u32 0) := by subst hW2; go_simp
      have r13 : wa.cell? ⟨wo.heap.size, 5, none⟩ = some (.int .u32 0) := by subst hW2; go_simp
      have HOA2 := Lib.hid (HO'.out.below g2)
      have HAL := Lib.hid (rall_any Ao f.N co _ wa (HOF.out.below g2) HM.out.ok.ok.N)
      have hsa : wo.heap.size < wa.heap.size := by rw [← hW2]; simp
      have HGA : Hid (Below w1.heap.size w9 wa) := Lib.hid (HGR'.out.trans (g2.mono HSR.out))
      clear hW2 g2 p0 p1 p2 p3 p4 p5 p6 p7 hs2 hs3
      refine HAL.out.mono ?_
      rintro e wd ⟨Al, nl, cl, rfl, h3, g3⟩
      obtain rfl : ch = nl := by rw [← h3.len]; exact (HDL1.out l).symm
      have HDG := Lib.hid h3.rd
      have HAR := Lib.hid (own_row h3)
      have HO9 := Lib.hid (HOA2.out.below g3)
      have HGD : Hid (Below w1.heap.size w9 wd) := Lib.hid (HGA.out.trans (g3.mono (Nat.le_trans HSR.out (Nat.le_of_lt hsa))))
      have HSD : Hid (w1.heap.size ≤ wd.heap.size) := Lib.hid (Nat.le_trans HSR.out (Nat.le_trans (Nat.le_of_lt hsa) g3.size))
      have s0 := cell_old g3 r0
      have s1 := cell_old g3 r1
      have s2 := cell_old g3 r2
      have s3 := cell_old g3 r3
      have s4 := cell_old g3 r4
      have s5 := cell_old g3 r5
      have s6 := cell_old g3 r6
      have s7 := cell_old g3 r7
      have s8 := cell_old g3 r8
      have s9 := cell_old g3 r9
      have s10 := cell_old g3 r10
      have s11 := cell_old g3 r11
      have s12 := cell_old g3 r12
      have s13 := cell_old g3 r13
      obtain ⟨g0, hg0⟩ : ∃ x, A.map (·.block) = x := ⟨_, rfl⟩
      have HG0 : Hid (∀ k, g0 = some k → w1.heap.size ≤ k ∧ k < wo.heap.size) := Lib.hid (by rw [← hg0]; exact own_row HO'.out)
      have HAT0 : Hid (AtOr wd g0 A) := Lib.hid (by rw [← hg0]; exact AtOr.refl wd A)
      have HNE : Hid (∀ b, b < w1.heap.size ∨ wo.heap.size ≤ b → some b ≠ g0) := Lib.hid (fun b hb e => by have := HG0.out b e.symm; omega)
      have HNEL : Hid (∀ ad, Al = some ad → some ad.block ≠ g0) := Lib.hid (fun ad e => HNE.out _ (.inr (by have := HAR.out ad.block (by rw [e]; rfl); omega)))
      have HAD : Hid (Go.Proofs.Sl.Ad.Ok ⟨l, T, 0, Q, 0, 0⟩) := Lib.hid ⟨by show l < _; omega, HTW.out, by show (0 : Nat) < _; omega, by show Q < _; omega, by show (0 : Nat) < _; omega, by show (0 : Nat) < _; omega⟩
      obtain ⟨pre, hpre⟩ : ∃ x, hdt ++ layersL f m tr qq l = x := ⟨_, rfl⟩
      rw [hpre] at HO9
      have HPRE := Lib.hid hpre
      obtain ⟨dg, hdg⟩ : ∃ x, digAll (ofAt f m tr qq l) = x := ⟨_, rfl⟩
      have hdlt : ∀ i, dg.getD i 0 < 16 := fun i => by rw [← hdg]; exact digAll_getD_lt _ i
      have HDGE := Lib.hid hdg
      have HDLT := Lib.hid hdlt
      rw [hdg] at HDG
      have hsd0 : wo.heap.size < wd.heap.size := by have := g3.size; omega
      have HWR : Hid (wo.heap.size < wd.heap.size) := Lib.hid hsd0
      clear h3 g3 HAL HOA2 HOF HGA HGR' HO' HAR hg0 hpre hdg hdlt hsa hsd0 r0 r1 r2 r3 r4 r5 r6 r7 r8 r9 r10 r11 r12 r13
      go_wp2_with fail
      go_loopw [10, 20] (fun o t wr => ∃ (k : Nat) (A : Option Addr) (c : Nat), k ≤ ch ∧ t = .int .i64 (k : Int) ∧ o = .slice A (n0 + k * f.N) c ∧ Own eB w1.heap.size wr A (n0 + k * f.N) c (pre ++ (List.range k).flatMap fun i => upL f.N m.seed l T Q i 0 (sSecret f.N m.seed m.secret l T Q i) (dg.getD i 0)) ∧ wd.grownBy wr g0 ∧ AtOr wd g0 A) (fun _ t _ => ch - (intOf t).toNat)
      case atStart => exact ⟨0, A, c, Nat.zero_le _, rfl, by simp, by simpa using HO9.out, gb_refl _ _, HAT0.out⟩
      case round =>
        clear HO9 HAT0
        obtain ⟨k, A, c, hk, rfl, rfl, ho, hgb, hat⟩ := hrel
        have hkN : k * f.N ≤ 67 * 32 := Nat.mul_le_mul (by omega) hN2
        obtain ⟨kn, hkn⟩ : ∃ x, k * f.N = x := ⟨_, rfl⟩
        rw [hkn] at ho hkN ⊢
        have HKN := Lib.hid hkn
        have HGB' := Lib.hid hgb
        have HAT := Lib.hid hat
        have HO' := Lib.hid ho
        have x0 := hgb.cell s0 (HNE.out _ (.inl (by show w.heap.size < w1.heap.size; omega)))
        have x1 := hgb.cell s1 (HNE.out _ (.inl (by show w.heap.size < w1.heap.size; omega)))
        have x2 := hgb.cell s2 (HNE.out _ (.inl (by show w.heap.size < w1.heap.size; omega)))
        have x3 := hgb.cell s3 (HNE.out _ (.inl (by show w.heap.size < w1.heap.size; omega)))
        have x4 := hgb.cell s4 (HNE.out _ (.inl (by show w.heap.size < w1.heap.size; omega)))
        have x5 := hgb.cell s5 (HNE.out _ (.inl (by show w.heap.size + 1 < w1.heap.size; omega)))
        have x6 := hgb.cell s6 (HNE.out _ (.inl (by show w.heap.size + 1 < w1.heap.size; omega)))
        have x7 := hgb.cell s7 (HNE.out _ (.inl (by show w.heap.size + 1 < w1.heap.size; omega)))
        have x8 := hgb.cell s8 (HNE.out _ (.inr (Nat.le_refl _)))
        have x9 := hgb.cell s9 (HNE.out _ (.inr (Nat.le_refl _)))
        have x10 := hgb.cell s10 (HNE.out _ (.inr (Nat.le_refl _)))
        have x11 := hgb.cell s11 (HNE.out _ (.inr (Nat.le_refl _)))
        have x12 := hgb.cell s12 (HNE.out _ (.inr (Nat.le_refl _)))
        have x13 := hgb.cell s13 (HNE.out _ (.inr (Nat.le_refl _)))
        clear ho hgb hat hkn
        go_wp2_with fail
        refine (HCH.out wr).mono ?_
        rintro e wr1 ⟨rfl, g1⟩
        have HGB : Hid (wd.grownBy wr1 g0) := Lib.hid (gb_below HGB'.out g1)
        have HO := Lib.hid (HO'.out.below g1)
        have y0 := cell_old g1 x0
        have y1 := cell_old g1 x1
        have y2 := cell_old g1 x2
        have y3 := cell_old g1 x3
        have y4 := cell_old g1 x4
        have y5 := cell_old g1 x5
        have y6 := cell_old g1 x6
        have y7 := cell_old g1 x7
        have y8 := cell_old g1 x8
        have y9 := cell_old g1 x9
        have y10 := cell_old g1 x10
        have y11 := cell_old g1 x11
        have y12 := cell_old g1 x12
        have y13 := cell_old g1 x13
        clear HGB' HO' g1 x0 x1 x2 x3 x4 x5 x6 x7 x8 x9 x10 x11 x12 x13
        by_cases hkt : k < ch
        · have hkd : k < dg.length := by rw [HDG.out.len]; exact hkt
          obtain ⟨al, rfl, hcl⟩ := HDG.out.at k hkt
          have hdk : dg[k] = dg.getD k 0 := by rw [List.getD_eq_getElem?_getD, List.getElem?_eq_getElem hkd, Option.getD_some]
          rw [hdk] at hcl
          have hdk16 := HDLT.out k
          obtain ⟨dk, hdk2⟩ : ∃ x, dg.getD k 0 = x := ⟨_, rfl⟩
          rw [hdk2] at hcl hdk16
          have HDK := Lib.hid hdk2
          have y14 := HGB.out.cell hcl (by rw [add_block]; exact HNEL.out al rfl)
          have HGW : Hid (Below w.heap.size w wr1.drew) := Lib.hid ((HG9.out.trans ((HGD.out.mono (by omega)).trans (gb_toBelow HGB.out (by have := HSD.out; omega) (fun k hk => by have := HG0.out k hk; omega)))).drew)
          clear hdk hdk2 hcl hkd
          go_wp2_with fail
          have k0 : wr1.drew.cell? ⟨w.heap.size, 0, none⟩ = some (.int .i64 (f.N : Int)) := y0
          have k1 : wr1.drew.cell? ⟨w.heap.size, 1, none⟩ = some (.int .i64 (f.L : Int)) := y1
          have k2 : wr1.drew.cell? ⟨w.heap.size, 2, none⟩ = some (.int .i64 (f.H : Int)) := y2
          have k3 : wr1.drew.cell? ⟨w.heap.size, 3, none⟩ = some (.int .i64 (f.K : Int)) := y3
          have k4 : wr1.drew.cell? ⟨w.heap.size, 4, none⟩ = some (.int .i64 (f.A : Int)) := y4
          have k5 : wr1.drew.cell? ⟨w.heap.size + 1, 0, none⟩ = some (.slice A1 n1 c1) := y5
          have k6 : wr1.drew.cell? ⟨w.heap.size + 1, 1, none⟩ = some (.slice A2 n2 c2) := y6
          have k7 : wr1.drew.cell? ⟨w.heap.size + 1, 2, none⟩ = some (.slice A3 n3 c3) := y7
          have k8 : wr1.drew.cell? ⟨wo.heap.size, 0, none⟩ = some (.int .u32 (l : Int)) := y8
          have k9 : wr1.drew.cell? ⟨wo.heap.size, 1, none⟩ = some (.int .u64 (T : Int)) := y9
          have k10 : wr1.drew.cell? ⟨wo.heap.size, 2, none⟩ = some (.int .u32 0) := y10
          have k11 : wr1.drew.cell? ⟨wo.heap.size, 3, none⟩ = some (.int .u32 (Q : Int)) := y11
          have k12 : wr1.drew.cell? ⟨wo.heap.size, 4, none⟩ = some (.int .u32 0) := y12
          have k13 : wr1.drew.cell? ⟨wo.heap.size, 5, none⟩ = some (.int .u32 0) := y13
          have k14 : wr1.drew.cell? (al.add k) = some (.int .i64 (dk : Int)) := y14
          clear y0 y1 y2 y3 y4 y5 y6 y7 y8 y9 y10 y11 y12 y13 y14
          refine wp_region_rg Grow 161 16 16 [[], [], [], [], [], [], [], [], [], [], [], [], [], [], [], [14]]
            [.still [] (.slice A (n0 + kn) c), .still [] (.agg #[.int .i64 (f.N : Int), .int .i64 (f.L : Int), .int .i64 (f.H : Int), .int .i64 (f.K : Int), .int .i64 (f.A : Int)]), .still [] (.pointer (some ⟨w.heap.size + 1, 2, none⟩)), .still [] (.slice A3 n3 c3), .still [] (.agg #[.int .u32 (l : Int), .int .u64 (T : Int), .int .u32 0, .int .u32 (Q : Int), .int .u32 0, .int .u32 0]), .still [] (.int .i64 (k : Int)), .still [] (.slice (some al) ch cl), .still [] (.int .i64 (k : Int)), .still [] (.pointer (some (al.add k))), .still [] (.int .i64 (dk : Int)), .still [] (.agg #[.int .i64 (f.N : Int), .int .i64 (f.L : Int), .int .i64 (f.H : Int), .int .i64 (f.K : Int), .int .i64 (f.A : Int)]), .still [] (.agg #[.slice A1 n1 c1, .slice A2 n2 c2, .slice A3 n3 c3]), .still [] (.agg #[.int .u32 (l : Int), .int .u64 (T : Int), .int .u32 0, .int .u32 (Q : Int), .int .u32 0, .int .u32 0]), .still [] (.int .i64 (k : Int)), .grow [] (OwnV eB 0 (sSecret f.N m.seed m.secret l T Q k)), .grow [14] (RdV eB (upL f.N m.seed l T Q k 0 (sSecret f.N m.seed m.secret l T Q k) dk))] (by kernel_rfl) (by kernel_rfl) rfl rfl rfl Grow.trans (Grow.refl _) ?_
          iterate 14
            refine Obl.still (fun W hg _ => ?_) ?_
            · have c0 := cell_old hg k0; have c1 := cell_old hg k1; have c2 := cell_old hg k2; have c3 := cell_old hg k3; have c4 := cell_old hg k4; have c5 := cell_old hg k5; have c6 := cell_old hg k6; have c7 := cell_old hg k7; have c8 := cell_old hg k8; have c9 := cell_old hg k9; have c10 := cell_old hg k10; have c11 := cell_old hg k11; have c12 := cell_old hg k12; have c13 := cell_old hg k13; have c14 := cell_old hg k14; clear hg k0 k1 k2 k3 k4 k5 k6 k7 k8 k9 k10 k11 k12 k13 k14
              go_wp2
              exact ⟨rfl, rfl, rfl, Grow.refl _⟩
            simp only [Act.put, List.setIfInBounds_toArray, List.set_cons_zero, List.set_cons_succ]
          refine Obl.grow (OwnV.keep _ _ _) (fun W hg _ => ?_) (fun v14 => ?_)
          · have hbW := HGW.out.trans (Below.mono hg HGW.out.size)
            have HC := Lib.hid (rsecret_any f HM.out.ok.ok A1 A2 A3 n1 n2 n3 c1 c2 c3 m.seed m.secret ⟨l, T, 0, Q, 0, 0⟩ k W (HM.out.r3.below hbW) HM.out.ok.seed HAD.out (by omega) (HM.out.r1.below hbW) HM.out.ok.secret)
            unfold vFew vSec vAd at HC
            clear hbW
            clear hg k0 k1 k2 k3 k4 k5 k6 k7 k8 k9 k10 k11 k12 k13 k14
            go_wp2_with fail
            refine (HC.out).mono ?_
            rintro e w' ⟨A1, n1, c1, rfl, h1, h2⟩
            go_wp2
            exact ⟨rfl, rfl, ⟨_, _, _, rfl, h1.mono (Nat.zero_le _)⟩, h2⟩
          simp only [Act.put, List.setIfInBounds_toArray, List.set_cons_zero, List.set_cons_succ]
          refine Obl.grow (RdV.keep _ _) (fun W hg ⟨h14, _⟩ => ?_) (fun v15 => ?_)
          · obtain ⟨Ah14, nh14, ch14, rfl, h14⟩ := h14
            have hbW := HGW.out.trans (Below.mono hg HGW.out.size)
            have HC := Lib.hid (rup_any f HM.out.ok.ok A3 Ah14 n3 c3 nh14 ch14 m.seed (sSecret f.N m.seed m.secret l T Q k) ⟨l, T, 0, Q, 0, 0⟩ k 0 dk W (HM.out.r3.below hbW) HM.out.ok.seed HAD.out (by omega) (by omega) (by omega) h14.rd (sSecret_length _ _ _ _ _ _ _ (by omega)))
            unfold vFew vAd at HC
            dsimp only at HC
            clear hbW h14
            clear hg k0 k1 k2 k3 k4 k5 k6 k7 k8 k9 k10 k11 k12 k13 k14
            go_wp2_with fail
            refine HC.out.mono ?_
            rintro e w' ⟨A1, n1, c1, rfl, h1, h2⟩
            have H1 := Lib.hid h1
            have H2 := Lib.hid h2
            clear h1 h2 HC
            go_wp2
            exact ⟨rfl, rfl, ⟨_, _, _, rfl, H1.out⟩, H2.out⟩
          simp only [Act.put, List.setIfInBounds_toArray, List.set_cons_zero, List.set_cons_succ]
          refine Obl.done (fun W hg hall => ?_)
          obtain ⟨hx, _⟩ := hall
          obtain ⟨Au, nu, cu, rfl, hx⟩ := hx
          obtain rfl : f.N = nu := by rw [← hx.len]; exact (upL_length _ _ _ _ _ _ _ _ (sSecret_length _ _ _ _ _ _ _ (by omega)) (by omega) _).symm
          have HGB2 : Hid (wd.grownBy W g0) := Lib.hid (gb_below HGB.out ((Below.refl _ _).drew.trans hg))
          have HO2 := Lib.hid (HO.out.drew.below hg)
          have HX := Lib.hid hx
          have hs2 : w1.heap.size ≤ W.heap.size := Nat.le_trans HSD.out HGB2.out.size
          clear hg k0 k1 k2 k3 k4 k5 k6 k7 k8 k9 k10 k11 k12 k13 k14 hx
          go_wp2_with (at_builtin; refine wpList_append_sl2 rfl _ _ 24 5 (.int .u8 0) 1 rfl Tryz.underlying24 infoB rfl (fun _ => rfl) rfl rfl HO2.out HX.out (by omega) (by omega) hs2 ?_; intro A4 c4 w4 h1 h2 h3 h4; have H4 := Lib.hid h1; have H5 : Hid (wd.grownBy w4 g0) := Lib.hid (gb_app HGB2.out HAT.out h2); have H6 : Hid (AtOr wd g0 A4) := Lib.hid (HAT.out.app HGB2.out.size h4); clear h1 h2 h3 h4)
          go_roundw
          case rel => exact ⟨k + 1, A4, c4, by omega, by go_num, by rw [Nat.succ_mul, HKN.out, ← Nat.add_assoc], by rw [Nat.succ_mul, HKN.out, ← Nat.add_assoc, range_flat, ← List.append_assoc, HDK.out]; exact H4.out, H5.out, H6.out⟩
          case measure => simp [intOf]; omega

        · obtain rfl : k = ch := by omega
          have HSX : Hid (w1.heap.size ≤ wr1.heap.size) := Lib.hid (Nat.le_trans HSD.out HGB.out.size)
          have HGX : Hid (Below w1.heap.size w9 wr1) := Lib.hid (HGD.out.trans (gb_toBelow HGB.out HSD.out (fun k hk => (HG0.out k hk).1)))
          have HLX : Hid (layersL f m tr qq (l + 1) = layersL f m tr qq l ++ (((List.range k).flatMap fun i => upL f.N m.seed l T Q i 0 (sSecret f.N m.seed m.secret l T Q i) (dg.getD i 0)) ++ (List.range f.H).flatMap fun g => sNode f.N m.seed m.secret l T g (other (Q / 2 ^ g)))) := Lib.hid (by rw [HLY.out l, HTQ.out.1, HTQ.out.2, HDGE.out])
          obtain ⟨pre2, hpre2⟩ : ∃ x, pre ++ ((List.range k).flatMap fun i => upL f.N m.seed l T Q i 0 (sSecret f.N m.seed m.secret l T Q i) (dg.getD i 0)) = x := ⟨_, rfl⟩
          rw [hpre2] at HO
          have HPRE2 := Lib.hid hpre2
          obtain ⟨m0, hm0⟩ : ∃ x, n0 + kn = x := ⟨_, rfl⟩
          rw [hm0] at HO ⊢
          have HM0 := Lib.hid hm0
          have hm0l : m0 ≤ 110000 := by omega
          clear hm0 hpre2 HGB HAT HNE HNEL HG0 HDG HDLT HGD HWR y8 y9 y10 y11 y12 y13 s0 s1 s2 s3 s4 s5 s6 s7 s8 s9 s10 s11 s12 s13
          generalize wr1 = we at *
          have HSUM := Lib.hid (fun g i W (hg : g ≤ 6) (hi : i ≤ 5000) (hW : Below w.heap.size w W) => HSUM0.out l T g i W (by omega) HTW.out hg hi hW)
          go_wp2_with fail
          go_loopw [10, 21, 22] (fun o x t wr => ∃ (g : Nat) (A : Option Addr) (c : Nat), g ≤ f.H ∧ t = .int .i64 (g : Int) ∧ x = .int .u32 ((Q / 2 ^ g : Nat) : Int) ∧ o = .slice A (m0 + g * f.N) c ∧ Own eB w1.heap.size wr A (m0 + g * f.N) c (pre2 ++ (List.range g).flatMap fun g => sNode f.N m.seed m.secret l T g (other (Q / 2 ^ g))) ∧ Below w1.heap.size we wr) (fun _ _ t _ => f.H - (intOf t).toNat)
          case atStart => exact ⟨0, A, c, Nat.zero_le _, rfl, by simp, by simp, by simpa using HO.out, Below.refl _ _⟩
          case round =>
            obtain ⟨g, A, c, hg, rfl, rfl, rfl, ho, hgr⟩ := hrel
            have hgN : g * f.N ≤ 6 * 32 := Nat.mul_le_mul (by omega) hN2
            obtain ⟨gn, hgn⟩ : ∃ x, g * f.N = x := ⟨_, rfl⟩
            obtain ⟨y, hy⟩ : ∃ x, Q / 2 ^ g = x := ⟨_, rfl⟩
            have hyl : y < 64 := by rw [← hy]; exact Nat.lt_of_le_of_lt (Nat.div_le_self _ _) (by omega)
            rw [hgn] at ho hgN ⊢
            have HGN := Lib.hid hgn
            have hlg : ((List.range g).flatMap fun g => sNode f.N m.seed m.secret l T g (other (Q / 2 ^ g))) ++ sNode f.N m.seed m.secret l T g (other y) = (List.range (g + 1)).flatMap fun g => sNode f.N m.seed m.secret l T g (other (Q / 2 ^ g)) := by rw [range_flat, hy]
            have hy2 : y / 2 = Q / 2 ^ (g + 1) := by rw [← hy, two_div]
            rw [hy]
            have HY2 := Lib.hid hy2
            have HLG := Lib.hid hlg
            clear HO
            have HO := Lib.hid ho
            have HGR := Lib.hid hgr
            have HSR3 : Hid (w1.heap.size ≤ wr.heap.size) := Lib.hid (Nat.le_trans HSX.out hgr.size)
            have HGW : Hid (Below w.heap.size w wr) := Lib.hid (HG9.out.trans ((HGX.out.trans hgr).mono (by omega)))
            have r0 : wr.cell? ⟨w.heap.size, 0, none⟩ = some (.int .i64 (f.N : Int)) := (hgr.cell (show w.heap.size < w1.heap.size by omega)).trans y0
            have r1 : wr.cell? ⟨w.heap.size, 1, none⟩ = some (.int .i64 (f.L : Int)) := (hgr.cell (show w.heap.size < w1.heap.size by omega)).trans y1
            have r2 : wr.cell? ⟨w.heap.size, 2, none⟩ = some (.int .i64 (f.H : Int)) := (hgr.cell (show w.heap.size < w1.heap.size by omega)).trans y2
            have r3 : wr.cell? ⟨w.heap.size, 3, none⟩ = some (.int .i64 (f.K : Int)) := (hgr.cell (show w.heap.size < w1.heap.size by omega)).trans y3
            have r4 : wr.cell? ⟨w.heap.size, 4, none⟩ = some (.int .i64 (f.A : Int)) := (hgr.cell (show w.heap.size < w1.heap.size by omega)).trans y4
            have r5 : wr.cell? ⟨w.heap.size + 1, 0, none⟩ = some (.slice A1 n1 c1) := (hgr.cell (show w.heap.size + 1 < w1.heap.size by omega)).trans y5
            have r6 : wr.cell? ⟨w.heap.size + 1, 1, none⟩ = some (.slice A2 n2 c2) := (hgr.cell (show w.heap.size + 1 < w1.heap.size by omega)).trans y6
            have r7 : wr.cell? ⟨w.heap.size + 1, 2, none⟩ = some (.slice A3 n3 c3) := (hgr.cell (show w.heap.size + 1 < w1.heap.size by omega)).trans y7
            clear ho hgr hgn hy hlg hy2
            by_cases hlt2 : g < f.H
            · by_cases hod : y % 2 = 1
              · have hot : other y = y - 1 := by unfold other; rw [if_pos hod]
                have HC := Lib.hid (HSUM.out g (y - 1) wr (by omega) (by omega) HGW.out)
                rw [← hot] at HC
                rw [show ((other y : Nat) : Int) = (y : Int) - 1 by rw [hot]; omega] at HC
                clear hot
                go_wp2_with fail
                refine HC.out.mono ?_
                rintro e w5 ⟨A5, n5, c5, rfl, h5, g5⟩
                obtain rfl : f.N = n5 := by rw [← h5.len]; exact (sNode_length f.N m.seed m.secret l T g (other y) (by omega)).symm
                have H5 := Lib.hid h5.rd
                have HO2 := Lib.hid (HO.out.below g5)
                have HG5 : Hid (Below w1.heap.size we w5) := Lib.hid (HGR.out.trans (g5.mono HSR3.out))
                have hs2 : w1.heap.size ≤ w5.heap.size := Nat.le_trans HSR3.out g5.size
                clear h5 g5 HC r0 r1 r2 r3 r4 r5 r6 r7
                go_wp2_with (at_builtin; refine wpList_append_sl rfl _ _ 24 5 (.int .u8 0) 1 rfl Tryz.underlying24 infoB rfl (fun _ => rfl) rfl rfl HO2.out H5.out (by omega) (by omega) hs2 ?_; intro A4 c4 w4 h1 h2 h3; have H4 := Lib.hid h1; have H6 : Hid (Below w1.heap.size we w4) := Lib.hid (Below.trans HG5.out h3); clear h1 h2 h3)
                go_roundw
                case rel => exact ⟨g + 1, A4, c4, by omega, by go_num, by rw [← HY2.out]; go_num, by rw [Nat.succ_mul, HGN.out, ← Nat.add_assoc], by rw [Nat.succ_mul, HGN.out, ← HLG.out, ← Nat.add_assoc, ← List.append_assoc]; exact H4.out, H6.out⟩
                case measure => simp [intOf]; omega
              · have hot : other y = y + 1 := by unfold other; rw [if_neg hod]
                have HC := Lib.hid (HSUM.out g (y + 1) wr (by omega) (by omega) HGW.out)
                rw [← hot] at HC
                rw [show ((other y : Nat) : Int) = (y : Int) + 1 by rw [hot]; omega] at HC
                clear hot
                go_wp2_with fail
                refine HC.out.mono ?_
                rintro e w5 ⟨A5, n5, c5, rfl, h5, g5⟩
                obtain rfl : f.N = n5 := by rw [← h5.len]; exact (sNode_length f.N m.seed m.secret l T g (other y) (by omega)).symm
                have H5 := Lib.hid h5.rd
                have HO2 := Lib.hid (HO.out.below g5)
                have HG5 : Hid (Below w1.heap.size we w5) := Lib.hid (HGR.out.trans (g5.mono HSR3.out))
                have hs2 : w1.heap.size ≤ w5.heap.size := Nat.le_trans HSR3.out g5.size
                clear h5 g5 HC r0 r1 r2 r3 r4 r5 r6 r7
                go_wp2_with (at_builtin; refine wpList_append_sl rfl _ _ 24 5 (.int .u8 0) 1 rfl Tryz.underlying24 infoB rfl (fun _ => rfl) rfl rfl HO2.out H5.out (by omega) (by omega) hs2 ?_; intro A4 c4 w4 h1 h2 h3; have H4 := Lib.hid h1; have H6 : Hid (Below w1.heap.size we w4) := Lib.hid (Below.trans HG5.out h3); clear h1 h2 h3)
                go_roundw
                case rel => exact ⟨g + 1, A4, c4, by omega, by go_num, by rw [← HY2.out]; go_num, by rw [Nat.succ_mul, HGN.out, ← Nat.add_assoc], by rw [Nat.succ_mul, HGN.out, ← HLG.out, ← Nat.add_assoc, ← List.append_assoc]; exact H4.out, H6.out⟩
                case measure => simp [intOf]; omega
            · obtain rfl : g = f.H := by omega
              have HC := Lib.hid (HSUM.out f.H 0 wr (by omega) (by omega) HGW.out)
              rw [show ((0 : Nat) : Int) = 0 by rfl] at HC
              go_wp2_with fail
              refine HC.out.mono ?_
              rintro e w5 ⟨A5, n5, c5, rfl, h5, g5⟩
              obtain rfl : f.N = n5 := by rw [← h5.len]; exact (sNode_length f.N m.seed m.secret l T f.H 0 (by omega)).symm
              have H5 := Lib.hid h5.rd
              have HO5 := Lib.hid (HO.out.below g5)
              have HG5 : Hid (Below w1.heap.size we w5) := Lib.hid (HGR.out.trans (g5.mono HSR3.out))
              have t0 := cell_old g5 r0
              have t1 := cell_old g5 r1
              have t2 := cell_old g5 r2
              have t3 := cell_old g5 r3
              have t4 := cell_old g5 r4
              have t5 := cell_old g5 r5
              have t6 := cell_old g5 r6
              have t7 := cell_old g5 r7
              obtain ⟨T2, hT2⟩ : ∃ x, T / pH = x := ⟨_, rfl⟩
              obtain ⟨Q2, hQ2⟩ : ∃ x, T % pH = x := ⟨_, rfl⟩
              have hQ2l : Q2 < 64 := by rw [← hQ2]; exact Nat.lt_of_lt_of_le (Nat.mod_lt _ hpw1) hpw2
              have hz1 : (T : Int) % (pH : Int) = (Q2 : Int) := by rw [← hQ2, Int.natCast_emod]
              have hz2 : (T : Int) / (pH : Int) = (T2 : Int) := by rw [← hT2, Int.natCast_ediv]
              have HT2 := Lib.hid (And.intro hT2 hQ2)
              have HWR : Hid (IntKind.u64.wrap (T2 : Int) = (T2 : Int)) := Lib.hid (wraps_u64 _ (by omega) (by
                have h1 : T2 ≤ T := by rw [← hT2]; exact Nat.div_le_self _ _
                have h2 := HTW.out
                unfold W64 at h2
                omega))
              have hlen : m0 + gn = hd + (l + 1) * ea := by
                have h1 := HN0.out
                have h2 := HM0.out
                have h3 := HKN.out
                have h4 := HGN.out
                have h5 := HEA.out
                rw [Nat.succ_mul]
                omega
              have HLEN := Lib.hid hlen
              have htx : pre2 ++ ((List.range f.H).flatMap fun g => sNode f.N m.seed m.secret l T g (other (Q / 2 ^ g))) = hdt ++ layersL f m tr qq (l + 1) := by rw [HLX.out, ← HPRE2.out, ← HPRE.out]; simp only [List.append_assoc]
              have HTX := Lib.hid htx
              clear h5 g5 HC hT2 hQ2 hlen htx r0 r1 r2 r3 r4 r5 r6 r7
              go_wp2_with fail
              refine (HPOW.out w5).mono ?_
              rintro e w6 ⟨rfl, rfl⟩
              go_wp2_with fail
              refine (HPOW.out w5).mono ?_
              rintro e w6 ⟨rfl, rfl⟩
              go_wp2_with fail
              go_roundw
              case rel => exact ⟨l + 1, A, A5, c, c5, by omega, by go_num, by rw [(HTS.out l).1, HTQ.out.1, HT2.out.1, HWR.out], by rw [(HTS.out l).2, HTQ.out.1, HT2.out.2], by rw [HLEN.out], rfl, by rw [← HTX.out, ← HLEN.out]; exact HO5.out, by rw [HOA.out, HTQ.out.1]; exact H5.out, HGX.out.trans HG5.out⟩
              case measure => simp [intOf]; omega
    · obtain rfl : l = f.L := by omega
      go_wp2
      go_ret2
      exact ⟨_, _, _, rfl, by rw [HRES.out]; exact HO'.out.mono (by omega), HG9.out.trans (HGR'.out.mono (by omega))⟩
end Go.Proofs.Sl
