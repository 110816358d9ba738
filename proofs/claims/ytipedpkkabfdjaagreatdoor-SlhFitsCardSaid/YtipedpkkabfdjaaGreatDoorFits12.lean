/- slh: how many chains; how large a signature is; a digest's parts; a sum at a leaf's place; what is gone up. The document's FORS: whether a set may be, or can be made; whether it is not too dear. The document's FORS: whether a set can be made, of secrets; whether it is not too dear. -/
import Derived.Test.YtipedpkkabfdjaaGreatDoorFits10
import Derived.Test.YtipedpkkabfdjaaGreatDoorFits11
/- slh: how many chains; how large a signature is; a digest's parts; a sum at a leaf's place; what is gone up. -/
namespace Go.Proofs.Sl
open Go.RowKit Go.Proofs

theorem mayI_ok' {f : Few} (h : FewOk f) : mayI f.N f.L f.H f.K f.A = true := by
  have hN := h.N; have hL1 := h.L1; have hL2 := h.L2; have h1 := h.H1; have h2 := h.H2; have h3 := h.K1; have h4 := h.K2; have h5 := h.A1; have h6 := h.A2; have h7 := h.LH
  unfold NOk at hN
  have e : ((f.L : Int) - 1) * (f.H : Int) = (((f.L - 1) * f.H : Nat) : Int) := by
    rw [Int.natCast_mul]; congr 1; omega
  simp only [mayI, sizeI, lowI, e]
  simp
  omega

theorem whole_b (x : Nat) (w : World) (hx : x ≤ 1000000) : Calls Tryz.prog 86 #[.int .i64 (x : Int)] w (RetV w (.int .i64 ((wholeB x : Nat) : Int))) := by
  go_enter Tryz.func86, Tryz.ntmps86
  go_wp2
  go_ret
  refine ⟨?_, Below.refl _ _⟩
  show Ending.returned (.int .i64 (((x : Int) + 8 - 1) / 8)) = Ending.returned (.int .i64 ((wholeB x : Nat) : Int))
  rw [show ((x : Int) + 8 - 1) / 8 = ((wholeB x : Nat) : Int) by unfold wholeB; omega]

set_option maxHeartbeats 1000000 in
theorem chains_any (f : Few) (hf : FewOk f) (w : World) : Calls Tryz.prog 17 #[vFew f] w (RetV w (.int .i64 ((chainsL f.N : Nat) : Int))) := by
  have HM := Lib.hid (fun w => mayI_ok' hf ▸ may_any f.N f.L f.H f.K f.A w)
  have HN := Lib.hid hf.N
  have h2 := hf.N.le'
  unfold vFewI at HM
  unfold vFew
  go_enter Tryz.func17, Tryz.ntmps17
  go_wp2_with fail
  refine (HM.out _).mono ?_
  rintro e w1 ⟨rfl, hB⟩
  have k0 : w1.cell? ⟨w.heap.size, 0, none⟩ = some (.int .i64 (f.N : Int)) := (hB.cell (by simp)).trans (by go_simp)
  have g1 : Grow w w1 := ((Below.refl _ w).alloc (Nat.le_refl _) _).trans (hB.mono (by simp))
  clear hB
  go_wp2_with fail
  refine (shape_any f.N HN.out w1).mono ?_
  rintro e w2 ⟨rfl, g2⟩
  have gg := g1.trans _ _ _ g2
  clear g1 g2 k0
  go_wp2
  go_ret
  exact ⟨by unfold chainsL; congr 1, gg⟩

theorem chains_no (N L H K A : Int) (w : World) (h : mayI N L H K A = false) : Calls Tryz.prog 17 #[vFewI N L H K A] w (RetV w (.int .i64 0)) := by
  have HM := Lib.hid (fun w => h ▸ may_any N L H K A w)
  unfold vFewI at *
  go_enter Tryz.func17, Tryz.ntmps17
  go_wp2_with fail
  refine (HM.out _).mono ?_
  rintro e w1 ⟨rfl, hB⟩
  have g1 : Grow w w1 := ((Below.refl _ w).alloc (Nat.le_refl _) _).trans (hB.mono (by simp))
  clear hB
  go_wp2
  go_ret
  exact ⟨rfl, g1⟩
theorem size_no (N L H K A : Int) (w : World) (h : mayI N L H K A = false) : Calls Tryz.prog 15 #[vFewI N L H K A] w (RetV w (.int .i64 0)) := by
  have HM := Lib.hid (fun w => h ▸ may_any N L H K A w)
  unfold vFewI at *
  go_enter Tryz.func15, Tryz.ntmps15
  go_wp2_with fail
  refine (HM.out _).mono ?_
  rintro e w1 ⟨rfl, hB⟩
  have g1 : Grow w w1 := ((Below.refl _ w).alloc (Nat.le_refl _) _).trans (hB.mono (by simp))
  clear hB
  go_wp2
  go_ret
  exact ⟨rfl, g1⟩

set_option maxHeartbeats 2000000 in
theorem size_any (f : Few) (hf : FewOk f) (w : World) : Calls Tryz.prog 15 #[vFew f] w (RetV w (.int .i64 ((sizeL f : Nat) : Int))) := by
  have HM := Lib.hid (fun w => mayI_ok' hf ▸ may_any f.N f.L f.H f.K f.A w)
  have HF := Lib.hid hf
  have hN := hf.N.le'
  have hL := hf.L2
  have hH := hf.H2
  have hK := hf.K2
  have hA := hf.A2
  have hch : chainsL f.N ≤ 67 := by unfold chainsL; omega
  obtain ⟨ka, hka⟩ : ∃ ka, f.K * (f.A + 1) = ka := ⟨_, rfl⟩
  obtain ⟨lc, hlc⟩ : ∃ lc, f.L * (chainsL f.N + f.H) = lc := ⟨_, rfl⟩
  obtain ⟨tt, htt⟩ : ∃ tt, f.N * (1 + ka + lc) = tt := ⟨_, rfl⟩
  have HT : Hid (sizeL f = tt) := Lib.hid (by unfold sizeL; rw [hka, hlc, htt])
  have hka1 : (f.K : Int) * ((f.A : Int) + 1) = (ka : Int) := by rw [← hka]; simp
  have hlc1 : (f.L : Int) * (((chainsL f.N : Nat) : Int) + (f.H : Int)) = (lc : Int) := by rw [← hlc]; simp
  have htt1 : (f.N : Int) * (1 + (ka : Int) + (lc : Int)) = (tt : Int) := by rw [← htt]; simp
  have hka2 : ka ≤ 600 := by rw [← hka]; exact Nat.le_trans (Nat.mul_le_mul hK (show f.A + 1 ≤ 15 by omega)) (by omega)
  have hlc2 : lc ≤ 1672 := by rw [← hlc]; exact Nat.le_trans (Nat.mul_le_mul hL (show chainsL f.N + f.H ≤ 76 by omega)) (by omega)
  have htt2 : tt ≤ 73000 := by rw [← htt]; exact Nat.le_trans (Nat.mul_le_mul hN (show 1 + ka + lc ≤ 2273 by omega)) (by omega)
  clear hka hlc htt hf
  unfold vFewI at HM
  unfold vFew
  go_enter Tryz.func15, Tryz.ntmps15
  go_wp2_with fail
  refine (HM.out _).mono ?_
  rintro e W0 ⟨rfl, hB⟩
  have k0 : W0.cell? ⟨w.heap.size, 0, none⟩ = some (.int .i64 (f.N : Int)) := (hB.cell (by simp)).trans (by go_simp)
  have k1 : W0.cell? ⟨w.heap.size, 1, none⟩ = some (.int .i64 (f.L : Int)) := (hB.cell (by simp)).trans (by go_simp)
  have k2 : W0.cell? ⟨w.heap.size, 2, none⟩ = some (.int .i64 (f.H : Int)) := (hB.cell (by simp)).trans (by go_simp)
  have k3 : W0.cell? ⟨w.heap.size, 3, none⟩ = some (.int .i64 (f.K : Int)) := (hB.cell (by simp)).trans (by go_simp)
  have k4 : W0.cell? ⟨w.heap.size, 4, none⟩ = some (.int .i64 (f.A : Int)) := (hB.cell (by simp)).trans (by go_simp)
  have hb0 : Below w.heap.size w W0.drew := (((Below.refl _ w).alloc (Nat.le_refl _) _).trans (hB.mono (by simp))).drew
  clear hB
  go_wp2
  refine wp_region_rg Grow 25 19 10 [[], [], [], [], [], [], [], [], [], [], [], [], [], [], [], [], [], [], []]
    [.still [] (.pointer (some ⟨w.heap.size, 0, none⟩)), .still [] (.int .i64 (f.N : Int)), .still [] (.pointer (some ⟨w.heap.size, 3, none⟩)), .still [] (.int .i64 (f.K : Int)), .still [] (.pointer (some ⟨w.heap.size, 4, none⟩)), .still [] (.int .i64 (f.A : Int)), .still [] (.int .i64 ((f.A : Int) + 1)), .still [] (.int .i64 (ka : Int)), .still [] (.int .i64 (1 + (ka : Int))), .still [] (.pointer (some ⟨w.heap.size, 1, none⟩)), .still [] (.int .i64 (f.L : Int)), .still [] (.agg #[.int .i64 (f.N : Int), .int .i64 (f.L : Int), .int .i64 (f.H : Int), .int .i64 (f.K : Int), .int .i64 (f.A : Int)]), .still [] (.int .i64 ((chainsL f.N : Nat) : Int)), .still [] (.pointer (some ⟨w.heap.size, 2, none⟩)), .still [] (.int .i64 (f.H : Int)), .still [] (.int .i64 (((chainsL f.N : Nat) : Int) + (f.H : Int))), .still [] (.int .i64 (lc : Int)), .still [] (.int .i64 (1 + (ka : Int) + (lc : Int))), .still [] (.int .i64 (tt : Int))] (by kernel_rfl) (by kernel_rfl) rfl rfl rfl Grow.trans (Grow.refl _) ?_
  refine Obl.still (fun W hg _ => ?_) ?_
  · have c0 := cell_old hg k0; have c1 := cell_old hg k1; have c2 := cell_old hg k2; have c3 := cell_old hg k3; have c4 := cell_old hg k4; clear hg k0 k1 k2 k3 k4
    go_wp2
    exact ⟨rfl, rfl, rfl, Grow.refl _⟩
  simp only [Act.put, List.setIfInBounds_toArray, List.set_cons_zero, List.set_cons_succ]
  refine Obl.still (fun W hg _ => ?_) ?_
  · have c0 := cell_old hg k0; have c1 := cell_old hg k1; have c2 := cell_old hg k2; have c3 := cell_old hg k3; have c4 := cell_old hg k4; clear hg k0 k1 k2 k3 k4
    go_wp2
    exact ⟨rfl, rfl, rfl, Grow.refl _⟩
  simp only [Act.put, List.setIfInBounds_toArray, List.set_cons_zero, List.set_cons_succ]
  refine Obl.still (fun W hg _ => ?_) ?_
  · have c0 := cell_old hg k0; have c1 := cell_old hg k1; have c2 := cell_old hg k2; have c3 := cell_old hg k3; have c4 := cell_old hg k4; clear hg k0 k1 k2 k3 k4
    go_wp2
    exact ⟨rfl, rfl, rfl, Grow.refl _⟩
  simp only [Act.put, List.setIfInBounds_toArray, List.set_cons_zero, List.set_cons_succ]
  refine Obl.still (fun W hg _ => ?_) ?_
  · have c0 := cell_old hg k0; have c1 := cell_old hg k1; have c2 := cell_old hg k2; have c3 := cell_old hg k3; have c4 := cell_old hg k4; clear hg k0 k1 k2 k3 k4
    go_wp2
    exact ⟨rfl, rfl, rfl, Grow.refl _⟩
  simp only [Act.put, List.setIfInBounds_toArray, List.set_cons_zero, List.set_cons_succ]
  refine Obl.still (fun W hg _ => ?_) ?_
  · have c0 := cell_old hg k0; have c1 := cell_old hg k1; have c2 := cell_old hg k2; have c3 := cell_old hg k3; have c4 := cell_old hg k4; clear hg k0 k1 k2 k3 k4
    go_wp2
    exact ⟨rfl, rfl, rfl, Grow.refl _⟩
  simp only [Act.put, List.setIfInBounds_toArray, List.set_cons_zero, List.set_cons_succ]
  refine Obl.still (fun W hg _ => ?_) ?_
  · have c0 := cell_old hg k0; have c1 := cell_old hg k1; have c2 := cell_old hg k2; have c3 := cell_old hg k3; have c4 := cell_old hg k4; clear hg k0 k1 k2 k3 k4
    go_wp2
    exact ⟨rfl, rfl, rfl, Grow.refl _⟩
  simp only [Act.put, List.setIfInBounds_toArray, List.set_cons_zero, List.set_cons_succ]
  refine Obl.still (fun W hg _ => ?_) ?_
  · have c0 := cell_old hg k0; have c1 := cell_old hg k1; have c2 := cell_old hg k2; have c3 := cell_old hg k3; have c4 := cell_old hg k4; clear hg k0 k1 k2 k3 k4
    go_wp2
    exact ⟨rfl, rfl, rfl, Grow.refl _⟩
  simp only [Act.put, List.setIfInBounds_toArray, List.set_cons_zero, List.set_cons_succ]
  refine Obl.still (fun W hg _ => ?_) ?_
  · have c0 := cell_old hg k0; have c1 := cell_old hg k1; have c2 := cell_old hg k2; have c3 := cell_old hg k3; have c4 := cell_old hg k4; clear hg k0 k1 k2 k3 k4
    go_wp2
    exact ⟨rfl, rfl, rfl, Grow.refl _⟩
  simp only [Act.put, List.setIfInBounds_toArray, List.set_cons_zero, List.set_cons_succ]
  refine Obl.still (fun W hg _ => ?_) ?_
  · have c0 := cell_old hg k0; have c1 := cell_old hg k1; have c2 := cell_old hg k2; have c3 := cell_old hg k3; have c4 := cell_old hg k4; clear hg k0 k1 k2 k3 k4
    go_wp2
    exact ⟨rfl, rfl, rfl, Grow.refl _⟩
  simp only [Act.put, List.setIfInBounds_toArray, List.set_cons_zero, List.set_cons_succ]
  refine Obl.still (fun W hg _ => ?_) ?_
  · have c0 := cell_old hg k0; have c1 := cell_old hg k1; have c2 := cell_old hg k2; have c3 := cell_old hg k3; have c4 := cell_old hg k4; clear hg k0 k1 k2 k3 k4
    go_wp2
    exact ⟨rfl, rfl, rfl, Grow.refl _⟩
  simp only [Act.put, List.setIfInBounds_toArray, List.set_cons_zero, List.set_cons_succ]
  refine Obl.still (fun W hg _ => ?_) ?_
  · have c0 := cell_old hg k0; have c1 := cell_old hg k1; have c2 := cell_old hg k2; have c3 := cell_old hg k3; have c4 := cell_old hg k4; clear hg k0 k1 k2 k3 k4
    go_wp2
    exact ⟨rfl, rfl, rfl, Grow.refl _⟩
  simp only [Act.put, List.setIfInBounds_toArray, List.set_cons_zero, List.set_cons_succ]
  refine Obl.still (fun W hg _ => ?_) ?_
  · have c0 := cell_old hg k0; have c1 := cell_old hg k1; have c2 := cell_old hg k2; have c3 := cell_old hg k3; have c4 := cell_old hg k4; clear hg k0 k1 k2 k3 k4
    go_wp2
    exact ⟨rfl, rfl, rfl, Grow.refl _⟩
  simp only [Act.put, List.setIfInBounds_toArray, List.set_cons_zero, List.set_cons_succ]
  refine Obl.still (fun W hg _ => ?_) ?_
  · have HC := Lib.hid (chains_any f HF.out W)
    unfold vFew at HC
    clear hg k0 k1 k2 k3 k4
    go_wp2_with fail
    refine (HC.out).mono ?_
    rintro e w' ⟨rfl, hB⟩
    have hG : Grow W w' := hB
    clear hB
    go_wp2
    exact ⟨rfl, rfl, rfl, hG⟩
  simp only [Act.put, List.setIfInBounds_toArray, List.set_cons_zero, List.set_cons_succ]
  refine Obl.still (fun W hg _ => ?_) ?_
  · have c0 := cell_old hg k0; have c1 := cell_old hg k1; have c2 := cell_old hg k2; have c3 := cell_old hg k3; have c4 := cell_old hg k4; clear hg k0 k1 k2 k3 k4
    go_wp2
    exact ⟨rfl, rfl, rfl, Grow.refl _⟩
  simp only [Act.put, List.setIfInBounds_toArray, List.set_cons_zero, List.set_cons_succ]
  refine Obl.still (fun W hg _ => ?_) ?_
  · have c0 := cell_old hg k0; have c1 := cell_old hg k1; have c2 := cell_old hg k2; have c3 := cell_old hg k3; have c4 := cell_old hg k4; clear hg k0 k1 k2 k3 k4
    go_wp2
    exact ⟨rfl, rfl, rfl, Grow.refl _⟩
  simp only [Act.put, List.setIfInBounds_toArray, List.set_cons_zero, List.set_cons_succ]
  refine Obl.still (fun W hg _ => ?_) ?_
  · have c0 := cell_old hg k0; have c1 := cell_old hg k1; have c2 := cell_old hg k2; have c3 := cell_old hg k3; have c4 := cell_old hg k4; clear hg k0 k1 k2 k3 k4
    go_wp2
    exact ⟨rfl, rfl, rfl, Grow.refl _⟩
  simp only [Act.put, List.setIfInBounds_toArray, List.set_cons_zero, List.set_cons_succ]
  refine Obl.still (fun W hg _ => ?_) ?_
  · have c0 := cell_old hg k0; have c1 := cell_old hg k1; have c2 := cell_old hg k2; have c3 := cell_old hg k3; have c4 := cell_old hg k4; clear hg k0 k1 k2 k3 k4
    go_wp2
    exact ⟨rfl, rfl, rfl, Grow.refl _⟩
  simp only [Act.put, List.setIfInBounds_toArray, List.set_cons_zero, List.set_cons_succ]
  refine Obl.still (fun W hg _ => ?_) ?_
  · have c0 := cell_old hg k0; have c1 := cell_old hg k1; have c2 := cell_old hg k2; have c3 := cell_old hg k3; have c4 := cell_old hg k4; clear hg k0 k1 k2 k3 k4
    go_wp2
    exact ⟨rfl, rfl, rfl, Grow.refl _⟩
  simp only [Act.put, List.setIfInBounds_toArray, List.set_cons_zero, List.set_cons_succ]
  refine Obl.still (fun W hg _ => ?_) ?_
  · have c0 := cell_old hg k0; have c1 := cell_old hg k1; have c2 := cell_old hg k2; have c3 := cell_old hg k3; have c4 := cell_old hg k4; clear hg k0 k1 k2 k3 k4
    go_wp2
    exact ⟨rfl, rfl, rfl, Grow.refl _⟩
  simp only [Act.put, List.setIfInBounds_toArray, List.set_cons_zero, List.set_cons_succ]
  refine Obl.done (fun W hg hall => ?_)
  have hB := hb0.trans (hg.mono hb0.size)
  clear hg k0 k1 k2 k3 k4 hb0 hall
  go_wp2
  go_ret
  exact ⟨by rw [HT.out]; rfl, hB⟩

set_option maxHeartbeats 1000000 in
theorem above_any (f : Few) (hf : FewOk f) (w : World) : Calls Tryz.prog 51 #[vFew f] w (RetV w (.int .i64 (((f.L - 1) * f.H : Nat) : Int))) := by
  have h1 := hf.L1
  have h2 := hf.LH
  have e : ((f.L : Int) - 1) * (f.H : Int) = (((f.L - 1) * f.H : Nat) : Int) := by
    rw [Int.natCast_mul]; congr 1; omega
  have h3 := hf.L2
  generalize hab : (f.L - 1) * f.H = ab at *
  clear hf hab
  unfold vFew
  go_enter Tryz.func51, Tryz.ntmps51
  go_wp2
  go_ret
  exact ⟨rfl, (Below.refl _ _).alloc (Nat.le_refl _) _⟩

set_option maxHeartbeats 2000000 in
theorem parts_any (f : Few) (hf : FewOk f) (w : World) : Calls Tryz.prog 48 #[vFew f] w (RetV w (.tuple #[.int .i64 ((pA f : Nat) : Int), .int .i64 ((pB f : Nat) : Int), .int .i64 ((pC f : Nat) : Int)])) := by
  have HF := Lib.hid hf
  have hH := hf.H2
  obtain ⟨ka, hka⟩ : ∃ ka, f.K * f.A = ka := ⟨_, rfl⟩
  obtain ⟨ab, hab⟩ : ∃ ab, (f.L - 1) * f.H = ab := ⟨_, rfl⟩
  have hka1 : (f.K : Int) * (f.A : Int) = (ka : Int) := by rw [← hka]; simp
  have hka2 : ka ≤ 560 := by rw [← hka]; exact Nat.le_trans (Nat.mul_le_mul hf.K2 hf.A2) (by omega)
  have hab2 : ab ≤ 63 := by rw [← hab]; exact hf.LH
  have HKA := Lib.hid hka
  have HAB := Lib.hid hab
  clear hka hab hf
  unfold vFew
  go_enter Tryz.func48, Tryz.ntmps48
  go_wp2
  generalize hW0 : World.alloc w _ = W0
  have hb0 : Below w.heap.size w W0.drew := by rw [← hW0]; exact ((Below.refl _ _).alloc (Nat.le_refl _) _).drew
  have k0 : W0.drew.cell? ⟨w.heap.size, 0, none⟩ = some (.int .i64 (f.N : Int)) := by subst hW0; go_simp
  have k1 : W0.drew.cell? ⟨w.heap.size, 1, none⟩ = some (.int .i64 (f.L : Int)) := by subst hW0; go_simp
  have k2 : W0.drew.cell? ⟨w.heap.size, 2, none⟩ = some (.int .i64 (f.H : Int)) := by subst hW0; go_simp
  have k3 : W0.drew.cell? ⟨w.heap.size, 3, none⟩ = some (.int .i64 (f.K : Int)) := by subst hW0; go_simp
  have k4 : W0.drew.cell? ⟨w.heap.size, 4, none⟩ = some (.int .i64 (f.A : Int)) := by subst hW0; go_simp
  clear hW0
  refine wp_region_rg Grow 17 12 10 [[], [], [], [], [], [], [], [], [], [], [], []]
    [.still [] (.pointer (some ⟨w.heap.size, 3, none⟩)), .still [] (.int .i64 (f.K : Int)), .still [] (.pointer (some ⟨w.heap.size, 4, none⟩)), .still [] (.int .i64 (f.A : Int)), .still [] (.int .i64 (ka : Int)), .still [] (.int .i64 ((wholeB ka : Nat) : Int)), .still [] (.agg #[.int .i64 (f.N : Int), .int .i64 (f.L : Int), .int .i64 (f.H : Int), .int .i64 (f.K : Int), .int .i64 (f.A : Int)]), .still [] (.int .i64 (ab : Int)), .still [] (.int .i64 ((wholeB ab : Nat) : Int)), .still [] (.pointer (some ⟨w.heap.size, 2, none⟩)), .still [] (.int .i64 (f.H : Int)), .still [] (.int .i64 ((wholeB f.H : Nat) : Int))] (by kernel_rfl) (by kernel_rfl) rfl rfl rfl Grow.trans (Grow.refl _) ?_
  refine Obl.still (fun W hg _ => ?_) ?_
  · have c0 := cell_old hg k0; have c1 := cell_old hg k1; have c2 := cell_old hg k2; have c3 := cell_old hg k3; have c4 := cell_old hg k4; clear hg k0 k1 k2 k3 k4
    go_wp2
    exact ⟨rfl, rfl, rfl, Grow.refl _⟩
  simp only [Act.put, List.setIfInBounds_toArray, List.set_cons_zero, List.set_cons_succ]
  refine Obl.still (fun W hg _ => ?_) ?_
  · have c0 := cell_old hg k0; have c1 := cell_old hg k1; have c2 := cell_old hg k2; have c3 := cell_old hg k3; have c4 := cell_old hg k4; clear hg k0 k1 k2 k3 k4
    go_wp2
    exact ⟨rfl, rfl, rfl, Grow.refl _⟩
  simp only [Act.put, List.setIfInBounds_toArray, List.set_cons_zero, List.set_cons_succ]
  refine Obl.still (fun W hg _ => ?_) ?_
  · have c0 := cell_old hg k0; have c1 := cell_old hg k1; have c2 := cell_old hg k2; have c3 := cell_old hg k3; have c4 := cell_old hg k4; clear hg k0 k1 k2 k3 k4
    go_wp2
    exact ⟨rfl, rfl, rfl, Grow.refl _⟩
  simp only [Act.put, List.setIfInBounds_toArray, List.set_cons_zero, List.set_cons_succ]
  refine Obl.still (fun W hg _ => ?_) ?_
  · have c0 := cell_old hg k0; have c1 := cell_old hg k1; have c2 := cell_old hg k2; have c3 := cell_old hg k3; have c4 := cell_old hg k4; clear hg k0 k1 k2 k3 k4
    go_wp2
    exact ⟨rfl, rfl, rfl, Grow.refl _⟩
  simp only [Act.put, List.setIfInBounds_toArray, List.set_cons_zero, List.set_cons_succ]
  refine Obl.still (fun W hg _ => ?_) ?_
  · have c0 := cell_old hg k0; have c1 := cell_old hg k1; have c2 := cell_old hg k2; have c3 := cell_old hg k3; have c4 := cell_old hg k4; clear hg k0 k1 k2 k3 k4
    go_wp2
    exact ⟨rfl, rfl, rfl, Grow.refl _⟩
  simp only [Act.put, List.setIfInBounds_toArray, List.set_cons_zero, List.set_cons_succ]
  refine Obl.still (fun W hg _ => ?_) ?_
  · have HC := Lib.hid (whole_b ka W (by omega))
    clear hg k0 k1 k2 k3 k4
    go_wp2_with fail
    refine (HC.out).mono ?_
    rintro e w' ⟨rfl, hB⟩
    have hG : Grow W w' := hB
    clear hB
    go_wp2
    exact ⟨rfl, rfl, rfl, hG⟩
  simp only [Act.put, List.setIfInBounds_toArray, List.set_cons_zero, List.set_cons_succ]
  refine Obl.still (fun W hg _ => ?_) ?_
  · have c0 := cell_old hg k0; have c1 := cell_old hg k1; have c2 := cell_old hg k2; have c3 := cell_old hg k3; have c4 := cell_old hg k4; clear hg k0 k1 k2 k3 k4
    go_wp2
    exact ⟨rfl, rfl, rfl, Grow.refl _⟩
  simp only [Act.put, List.setIfInBounds_toArray, List.set_cons_zero, List.set_cons_succ]
  refine Obl.still (fun W hg _ => ?_) ?_
  · have HC := Lib.hid (above_any f HF.out W)
    unfold vFew at HC
    rw [HAB.out] at HC
    clear hg k0 k1 k2 k3 k4
    go_wp2_with fail
    refine (HC.out).mono ?_
    rintro e w' ⟨rfl, hB⟩
    have hG : Grow W w' := hB
    clear hB
    go_wp2
    exact ⟨rfl, rfl, rfl, hG⟩
  simp only [Act.put, List.setIfInBounds_toArray, List.set_cons_zero, List.set_cons_succ]
  refine Obl.still (fun W hg _ => ?_) ?_
  · have HC := Lib.hid (whole_b ab W (by omega))
    clear hg k0 k1 k2 k3 k4
    go_wp2_with fail
    refine (HC.out).mono ?_
    rintro e w' ⟨rfl, hB⟩
    have hG : Grow W w' := hB
    clear hB
    go_wp2
    exact ⟨rfl, rfl, rfl, hG⟩
  simp only [Act.put, List.setIfInBounds_toArray, List.set_cons_zero, List.set_cons_succ]
  refine Obl.still (fun W hg _ => ?_) ?_
  · have c0 := cell_old hg k0; have c1 := cell_old hg k1; have c2 := cell_old hg k2; have c3 := cell_old hg k3; have c4 := cell_old hg k4; clear hg k0 k1 k2 k3 k4
    go_wp2
    exact ⟨rfl, rfl, rfl, Grow.refl _⟩
  simp only [Act.put, List.setIfInBounds_toArray, List.set_cons_zero, List.set_cons_succ]
  refine Obl.still (fun W hg _ => ?_) ?_
  · have c0 := cell_old hg k0; have c1 := cell_old hg k1; have c2 := cell_old hg k2; have c3 := cell_old hg k3; have c4 := cell_old hg k4; clear hg k0 k1 k2 k3 k4
    go_wp2
    exact ⟨rfl, rfl, rfl, Grow.refl _⟩
  simp only [Act.put, List.setIfInBounds_toArray, List.set_cons_zero, List.set_cons_succ]
  refine Obl.still (fun W hg _ => ?_) ?_
  · have HC := Lib.hid (whole_b f.H W (by omega))
    clear hg k0 k1 k2 k3 k4
    go_wp2_with fail
    refine (HC.out).mono ?_
    rintro e w' ⟨rfl, hB⟩
    have hG : Grow W w' := hB
    clear hB
    go_wp2
    exact ⟨rfl, rfl, rfl, hG⟩
  simp only [Act.put, List.setIfInBounds_toArray, List.set_cons_zero, List.set_cons_succ]
  refine Obl.done (fun W hg hall => ?_)
  have hB := hb0.trans (hg.mono hb0.size)
  clear hg k0 k1 k2 k3 k4 hb0 hall
  go_wp2
  refine bodyPost_ret (v := .tuple #[_, _, _]) (by simp [results, Tryz.f48, go_sem]; exact ⟨rfl, rfl, rfl⟩) rfl ⟨?_, hB⟩
  unfold pA pB pC
  rw [HKA.out, HAB.out]
end Go.Proofs.Sl

/- The document's FORS: whether a set may be, or can be made; whether it is not too dear. -/
namespace Go.Proofs.Sl
open Go.RowKit Go.Proofs

theorem mayI_parts (N L H K A : Int) : mayI N L H K A = (sizeI N && (decide (L > 0) && decide (L < 23) && decide (H > 0) && decide (H < 10) && decide ((L - 1) * H < 64) && decide (K > 0) && decide (K < 41) && decide (A > 0) && decide (A < 15))) := by
  unfold mayI lowI
  cases sizeI N
  · simp
  · rw [Bool.eq_iff_iff]
    generalize (L - 1) * H = x
    simp
    omega

set_option maxHeartbeats 4000000 in
theorem rmay_any (N L H K A : Int) (w : World) : Calls Tryz.prog 24 #[vFewI N L H K A] w (RetV w (.bool (mayI N L H K A))) := by
  rw [mayI_parts]
  unfold vFewI
  by_cases hs : sizeI N = true
  · rw [hs]
    have hN : N = 16 ∨ N = 24 ∨ N = 32 := by simpa [sizeI] using hs
    have hLH : L > 0 → L < 23 → H > 0 → H < 10 → 0 ≤ (L - 1) * H ∧ (L - 1) * H ≤ 198 := by
      intro h1 h2 h3 h4
      refine ⟨Int.mul_nonneg (by omega) (by omega), ?_⟩
      calc (L - 1) * H ≤ 22 * H := Int.mul_le_mul_of_nonneg_right (by omega) (by omega)
        _ ≤ 198 := by omega
    clear hs
    obtain ⟨d1, hd1⟩ : ∃ x, decide (L > 0) = x := ⟨_, rfl⟩
    obtain ⟨d2, hd2⟩ : ∃ x, decide (L < 23) = x := ⟨_, rfl⟩
    obtain ⟨d3, hd3⟩ : ∃ x, decide (H > 0) = x := ⟨_, rfl⟩
    obtain ⟨d4, hd4⟩ : ∃ x, decide (H < 10) = x := ⟨_, rfl⟩
    obtain ⟨d5, hd5⟩ : ∃ x, decide ((L - 1) * H < 64) = x := ⟨_, rfl⟩
    obtain ⟨d6, hd6⟩ : ∃ x, decide (K > 0) = x := ⟨_, rfl⟩
    obtain ⟨d7, hd7⟩ : ∃ x, decide (K < 41) = x := ⟨_, rfl⟩
    obtain ⟨d8, hd8⟩ : ∃ x, decide (A > 0) = x := ⟨_, rfl⟩
    obtain ⟨d9, hd9⟩ : ∃ x, decide (A < 15) = x := ⟨_, rfl⟩
    rw [hd1, hd2, hd3, hd4, hd5, hd6, hd7, hd8, hd9]
    cases d1; rotate_left; cases d2; rotate_left; cases d3; rotate_left; cases d4; rotate_left; cases d5; rotate_left; cases d6; rotate_left; cases d7; rotate_left; cases d8; rotate_left; cases d9
    all_goals
      try simp only [decide_eq_true_eq, decide_eq_false_iff_not] at hd1 hd2 hd3 hd4 hd5 hd6 hd7 hd8 hd9
      first | have p2 := hLH hd1 hd2 hd3 hd4 | skip
      clear hLH
      rcases hN with rfl | rfl | rfl
    all_goals
      go_enter Tryz.func24, Tryz.ntmps24
      go_wp2
      go_ret
      exact ⟨rfl, (Below.refl _ _).alloc (Nat.le_refl _) _⟩
  · have hs' : sizeI N = false := by simpa using hs
    rw [hs']
    have h1 : (N != 16) = true := by simp [sizeI] at hs ⊢; omega
    have h2 : (N != 24) = true := by simp [sizeI] at hs ⊢; omega
    have h3 : (N != 32) = true := by simp [sizeI] at hs ⊢; omega
    clear hs hs'
    go_enter Tryz.func24, Tryz.ntmps24
    go_wp2
    go_ret
    exact ⟨rfl, (Below.refl _ _).alloc (Nat.le_refl _) _⟩
end Go.Proofs.Sl

/- The document's FORS: whether a set can be made, of secrets; whether it is not too dear. -/
namespace Go.Proofs.Sl
open Go.RowKit Go.Proofs

theorem madeI_parts (N L H K A : Int) (n1 n2 n3 : Nat) : madeI N L H K A n1 n2 n3 = (mayI N L H K A && decide (H < 7) && decide (A < 7) && ((n1 : Int) == N) && ((n2 : Int) == N) && ((n3 : Int) == N)) := by
  unfold madeI rightI
  rw [show decide (H ≤ 6) = decide (H < 7) from decide_eq_decide.2 (by omega), show decide (A ≤ 6) = decide (A < 7) from decide_eq_decide.2 (by omega)]
  simp only [Bool.and_assoc]

set_option maxHeartbeats 2000000 in
theorem rmade_any (N L H K A : Int) (A1 A2 A3 : Option Addr) (n1 n2 n3 c1 c2 c3 : Nat) (w : World) : Calls Tryz.prog 23 #[vFewI N L H K A, vSec A1 A2 A3 n1 n2 n3 c1 c2 c3] w (RetV w (.bool (madeI N L H K A n1 n2 n3))) := by
  rw [madeI_parts]
  have i1 := Lib.hid (fun w => rmay_any N L H K A w)
  unfold vFewI vSec at *
  obtain ⟨b0, hb0⟩ : ∃ x, mayI N L H K A = x := ⟨_, rfl⟩
  rw [hb0] at i1 ⊢
  clear hb0
  obtain ⟨b1, hb1⟩ : ∃ x, ((n1 : Int) == N) = x := ⟨_, rfl⟩
  obtain ⟨b2, hb2⟩ : ∃ x, ((n2 : Int) == N) = x := ⟨_, rfl⟩
  obtain ⟨b3, hb3⟩ : ∃ x, ((n3 : Int) == N) = x := ⟨_, rfl⟩
  obtain ⟨x1, hx1⟩ : ∃ x, decide (H < 7) = x := ⟨_, rfl⟩
  obtain ⟨x2, hx2⟩ : ∃ x, decide (A < 7) = x := ⟨_, rfl⟩
  rw [hb1, hb2, hb3, hx1, hx2]
  cases b0; rotate_left; cases x1; rotate_left; cases x2; rotate_left; cases b1; rotate_left; cases b2; rotate_left; cases b3
  all_goals try simp only [decide_eq_true_eq, decide_eq_false_iff_not] at hx1
  all_goals try simp only [decide_eq_true_eq, decide_eq_false_iff_not] at hx2
  all_goals
    go_enter Tryz.func23, Tryz.ntmps23
    go_wp2_with fail
    refine (i1.out _).mono ?_
    rintro e w1 ⟨rfl, hB⟩
    have k0 : w1.cell? ⟨w.heap.size, 0, none⟩ = some (.int .i64 N) := (hB.cell (by simp; omega)).trans (by go_simp)
    have k1 : w1.cell? ⟨w.heap.size, 2, none⟩ = some (.int .i64 H) := (hB.cell (by simp; omega)).trans (by go_simp)
    have k2 : w1.cell? ⟨w.heap.size, 4, none⟩ = some (.int .i64 A) := (hB.cell (by simp; omega)).trans (by go_simp)
    have k3 : w1.cell? ⟨w.heap.size + 1, 0, none⟩ = some (.slice A1 n1 c1) := (hB.cell (by simp)).trans (by go_simp)
    have k4 : w1.cell? ⟨w.heap.size + 1, 1, none⟩ = some (.slice A2 n2 c2) := (hB.cell (by simp)).trans (by go_simp)
    have k5 : w1.cell? ⟨w.heap.size + 1, 2, none⟩ = some (.slice A3 n3 c3) := (hB.cell (by simp)).trans (by go_simp)
    have hG := (((Below.refl _ w).alloc (Nat.le_refl _) _).alloc (by simp) _).trans (hB.mono (by simp; omega))
    clear hB
    go_wp2
    go_ret
    exact ⟨rfl, hG⟩

def lightI (N L H K A : Int) : Bool := !mayI N L H K A || decide (6 < A) || decide (6 < H) || (decide (A ≤ 3) && decide (K ≤ 6) && decide (H ≤ 2) && decide (L ≤ 3))
set_option maxHeartbeats 2000000 in
theorem rlight_any (N L H K A : Int) (w : World) : Calls Tryz.prog 7 #[vFewI N L H K A] w (RetV w (.bool (lightI N L H K A))) := by
  unfold lightI
  have i1 := Lib.hid (fun w => rmay_any N L H K A w)
  unfold vFewI at *
  obtain ⟨b0, hb0⟩ : ∃ x, mayI N L H K A = x := ⟨_, rfl⟩
  rw [hb0] at i1 ⊢
  clear hb0
  obtain ⟨x1, hx1⟩ : ∃ x, decide (6 < A) = x := ⟨_, rfl⟩
  obtain ⟨x2, hx2⟩ : ∃ x, decide (6 < H) = x := ⟨_, rfl⟩
  obtain ⟨x3, hx3⟩ : ∃ x, decide (A ≤ 3) = x := ⟨_, rfl⟩
  obtain ⟨x4, hx4⟩ : ∃ x, decide (K ≤ 6) = x := ⟨_, rfl⟩
  obtain ⟨x5, hx5⟩ : ∃ x, decide (H ≤ 2) = x := ⟨_, rfl⟩
  obtain ⟨x6, hx6⟩ : ∃ x, decide (L ≤ 3) = x := ⟨_, rfl⟩
  rw [hx1, hx2, hx3, hx4, hx5, hx6]
  cases b0; rotate_left; cases x1; cases x2; cases x3; rotate_left; cases x4; rotate_left; cases x5; rotate_left; cases x6
  all_goals try simp only [decide_eq_true_eq, decide_eq_false_iff_not] at hx1
  all_goals try simp only [decide_eq_true_eq, decide_eq_false_iff_not] at hx2
  all_goals try simp only [decide_eq_true_eq, decide_eq_false_iff_not] at hx3 hx4 hx5 hx6
  all_goals
    go_enter Tryz.func7, Tryz.ntmps7
    go_wp2_with fail
    refine (i1.out _).mono ?_
    rintro e w1 ⟨rfl, hB⟩
    have k0 : w1.cell? ⟨w.heap.size, 1, none⟩ = some (.int .i64 L) := (hB.cell (by simp)).trans (by go_simp)
    have k1 : w1.cell? ⟨w.heap.size, 2, none⟩ = some (.int .i64 H) := (hB.cell (by simp)).trans (by go_simp)
    have k2 : w1.cell? ⟨w.heap.size, 3, none⟩ = some (.int .i64 K) := (hB.cell (by simp)).trans (by go_simp)
    have k3 : w1.cell? ⟨w.heap.size, 4, none⟩ = some (.int .i64 A) := (hB.cell (by simp)).trans (by go_simp)
    have hG := ((Below.refl _ w).alloc (Nat.le_refl _) _).trans (hB.mono (by simp))
    clear hB
    go_wp2
    go_ret
    refine ⟨?_, hG⟩
    first | rfl | (simp; omega) | (simp only [Array.getD]; simp; omega)

theorem rwid_any (w : World) : Calls Tryz.prog 85 #[.int .i64 4] w (fun e w' => e = .returned (.bool true) ∧ w = w') := by
  go_enter Tryz.func85, Tryz.ntmps85
  go_wp2
  go_ret
  exact ⟨rfl, rfl⟩
set_option maxHeartbeats 2000000 in
theorem rshape_any (N : Nat) (hN : NOk N) (w : World) : Calls Tryz.prog 47 #[.int .i64 (N : Int), .int .i64 4] w (RetV w (.tuple #[.int .i64 ((2 * N : Nat) : Int), .int .i64 3, .int .i64 4])) := by
  rcases hN with rfl | rfl | rfl
  all_goals
    go_enter Tryz.func47, Tryz.ntmps47
    go_wp2_with (go_at_call 85; refine (rwid_any _).mono ?_; rintro e w1 ⟨rfl, rfl⟩)
    refine wp_loop_rounds 5 ?_
    iterate 5
      rw [rounds_succ]
      go_wp2_with fail
    refine wp_loop_rounds 4 ?_
    iterate 4
      rw [rounds_succ]
      go_wp2_with fail
    refine bodyPost_ret (v := .tuple #[_, _, _]) (by simp [results, Tryz.f47, go_sem]) rfl ⟨rfl, Below.refl _ _⟩
end Go.Proofs.Sl
