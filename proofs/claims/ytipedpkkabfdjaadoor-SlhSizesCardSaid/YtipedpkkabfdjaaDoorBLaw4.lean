/- Where a digest leads, and how large things are: the statement's walk. -/
import Derived.Test.YtipedpkkabfdjaaDoorB25
namespace Go.Proofs.Sl
open Go.RowKit Go.Proofs

set_option maxHeartbeats 2000000 in
theorem sizes_big (N L H K A : Int) (Ab : Option Addr) (nb cb : Nat) (w : World) (hL : Laid w) (h : 100 < nb) :
    Calls Tryd.prog 3 #[vFewI N L H K A, .slice Ab nb cb] w (RetV w (.bool true)) := by
  have HAW := Lib.hid awake_any
  have HL := Lib.hid hL
  clear hL
  unfold vFewI
  go_enter Tryd.func3, Tryd.ntmps3
  go_wp2_with fail
  refine (HAW.out _ (HL.out.below ((Below.refl _ w).alloc (Nat.le_refl _) _))).mono ?_
  rintro e w1 ⟨rfl, hB⟩
  have G1 : Hid (Below w.heap.size w w1) := Lib.hid (((Below.refl _ w).alloc (Nat.le_refl _) _).trans (hB.mono (by simp)))
  clear hB
  go_wp2
  go_ret
  exact ⟨rfl, G1.out⟩

set_option maxHeartbeats 2000000 in
theorem sizes_not (N L H K A : Int) (Ab : Option Addr) (nb cb : Nat) (w : World) (hL : Laid w) (h : nb ≤ 100) (hm : mayI N L H K A = false) :
    Calls Tryd.prog 3 #[vFewI N L H K A, .slice Ab nb cb] w (RetV w (.bool true)) := by
  have HAW := Lib.hid awake_any
  have HL := Lib.hid hL
  have HWH := Lib.hid (fun w => where_not N L H K A (.slice Ab nb cb) w hm)
  have HMA := Lib.hid (fun w => hm ▸ rmay_any N L H K A w)
  have HSZ := Lib.hid (fun w => size_no N L H K A w hm)
  have HCH := Lib.hid (fun w => chains_no N L H K A w hm)
  clear hL hm
  unfold vFewI at *
  go_enter Tryd.func3, Tryd.ntmps3
  go_wp2_with fail
  refine (HAW.out _ (HL.out.below ((Below.refl _ w).alloc (Nat.le_refl _) _))).mono ?_
  rintro e w1 ⟨rfl, hB⟩
  have q0 : w1.cell? ⟨w.heap.size, 0, none⟩ = some (.int .i64 N) := (hB.cell (by simp)).trans (by go_simp)
  have q1 : w1.cell? ⟨w.heap.size, 1, none⟩ = some (.int .i64 L) := (hB.cell (by simp)).trans (by go_simp)
  have q2 : w1.cell? ⟨w.heap.size, 2, none⟩ = some (.int .i64 H) := (hB.cell (by simp)).trans (by go_simp)
  have q3 : w1.cell? ⟨w.heap.size, 3, none⟩ = some (.int .i64 K) := (hB.cell (by simp)).trans (by go_simp)
  have q4 : w1.cell? ⟨w.heap.size, 4, none⟩ = some (.int .i64 A) := (hB.cell (by simp)).trans (by go_simp)
  have G1 : Hid (Below w.heap.size w w1) := Lib.hid (((Below.refl _ w).alloc (Nat.le_refl _) _).trans (hB.mono (by simp)))
  clear hB
  go_wp2_with fail
  refine (HWH.out w1).mono ?_
  rintro e w2 ⟨rfl, g2⟩
  have G2 : Hid (Below w.heap.size w w2) := Lib.hid (G1.out.trans (g2.mono G1.out.size))
  have r0 := cell_old g2 q0; have r1 := cell_old g2 q1; have r2 := cell_old g2 q2; have r3 := cell_old g2 q3; have r4 := cell_old g2 q4
  clear g2 q0 q1 q2 q3 q4
  go_wp2_with fail
  refine (HMA.out w2).mono ?_
  rintro e w3 ⟨rfl, g3⟩
  have G3 : Hid (Below w.heap.size w w3) := Lib.hid (G2.out.trans (g3.mono G2.out.size))
  have q0 := cell_old g3 r0; have q1 := cell_old g3 r1; have q2 := cell_old g3 r2; have q3 := cell_old g3 r3; have q4 := cell_old g3 r4
  clear g3 r0 r1 r2 r3 r4
  go_wp2_with fail
  refine (HSZ.out w3).mono ?_
  rintro e w4 ⟨rfl, g4⟩
  have G4 : Hid (Below w.heap.size w w4) := Lib.hid (G3.out.trans (g4.mono G3.out.size))
  have r0 := cell_old g4 q0; have r1 := cell_old g4 q1; have r2 := cell_old g4 q2; have r3 := cell_old g4 q3; have r4 := cell_old g4 q4
  clear g4 q0 q1 q2 q3 q4
  go_wp2_with fail
  refine (HCH.out w4).mono ?_
  rintro e w5 ⟨rfl, g5⟩
  have G5 : Hid (Below w.heap.size w w5) := Lib.hid (G4.out.trans (g5.mono G4.out.size))
  clear g5 r0 r1 r2 r3 r4
  go_wp2
  go_ret
  exact ⟨rfl, G5.out⟩

theorem below_pow_zero (x k : Nat) (h : x < 2 ^ k) : (x : Int) / 2 ^ k = 0 := by rw [pow_cast, Nat.div_eq_of_lt h]; rfl

set_option maxHeartbeats 4000000 in
theorem sizes_in (f : Few) (hf : FewOk f) (Ab : Option Addr) (nb cb : Nat) (b : List UInt8) (w : World) (hL : Laid w) (h : nb ≤ 100) (hb : InB w Ab nb cb b) :
    Calls Tryd.prog 3 #[vFew f, .slice Ab nb cb] w (RetV w (.bool true)) := by
  have HAW := Lib.hid awake_any
  have HL := Lib.hid hL
  have HWH := Lib.hid (fun W (hW : Below w.heap.size w W) => where_any f hf Ab nb cb b W ((hb.all (by omega)).below hW) hb.nc hb.cm)
  have HMA := Lib.hid (fun w => mayI_ok' hf ▸ rmay_any f.N f.L f.H f.K f.A w)
  have HPT := Lib.hid (fun w => rparts_any f hf w)
  have HSZ := Lib.hid (fun w => size_any f hf w)
  have hpA := pA_le hf
  have hpB := pB_le hf
  have hpC := pC_le hf
  have hab2 := hf.LH
  have hL1 := hf.L1
  have hL2 := hf.L2
  have hH2 := hf.H2
  have hab1 : ((f.L : Int) - 1) * (f.H : Int) = (((f.L - 1) * f.H : Nat) : Int) := by rw [Int.natCast_mul]; congr 1; omega
  have ht1 : (treeOf f b : Int) / 2 ^ ((f.L - 1) * f.H) = 0 := below_pow_zero _ _ (Nat.mod_lt _ (Nat.two_pow_pos _))
  have ht2 : (leafOf f b : Int) / 2 ^ f.H = 0 := below_pow_zero _ _ (Nat.mod_lt _ (Nat.two_pow_pos _))
  have hsz : 0 < sizeL f := by unfold sizeL; exact Nat.mul_pos (by have := hf.N.pos'; omega) (by omega)
  unfold whereV at HWH
  generalize (f.L - 1) * f.H = ab at *
  generalize treeOf f b = tree at *
  generalize leafOf f b = leaf at *
  generalize sizeL f = sz at *
  generalize pA f = a1 at *
  generalize pB f = a2 at *
  generalize pC f = a3 at *
  clear hL hf hb
  unfold vFewI at HMA
  unfold vFew at *
  have e1 : (ab : Int) % 18446744073709551616 = (ab : Int) := by omega
  have e2 : (f.H : Int) % 18446744073709551616 = (f.H : Int) := by omega
  by_cases hn : nb = a1 + a2 + a3
  · simp only [if_pos hn] at HWH
    have hq : (((nb : Int) == (a1 : Int) + (a2 : Int) + (a3 : Int))) = true := by simp; omega
    have HNN := Lib.hid hn
    clear hn
    go_enter Tryd.func3, Tryd.ntmps3
    go_wp2_with fail
    refine (HAW.out _ (HL.out.below ((Below.refl _ w).alloc (Nat.le_refl _) _))).mono ?_
    rintro e w1 ⟨rfl, hB⟩
    have q0 : w1.cell? ⟨w.heap.size, 0, none⟩ = some (.int .i64 (f.N : Int)) := (hB.cell (by simp)).trans (by go_simp)
    have q1 : w1.cell? ⟨w.heap.size, 1, none⟩ = some (.int .i64 (f.L : Int)) := (hB.cell (by simp)).trans (by go_simp)
    have q2 : w1.cell? ⟨w.heap.size, 2, none⟩ = some (.int .i64 (f.H : Int)) := (hB.cell (by simp)).trans (by go_simp)
    have q3 : w1.cell? ⟨w.heap.size, 3, none⟩ = some (.int .i64 (f.K : Int)) := (hB.cell (by simp)).trans (by go_simp)
    have q4 : w1.cell? ⟨w.heap.size, 4, none⟩ = some (.int .i64 (f.A : Int)) := (hB.cell (by simp)).trans (by go_simp)
    have G1 : Hid (Below w.heap.size w w1) := Lib.hid (((Below.refl _ w).alloc (Nat.le_refl _) _).trans (hB.mono (by simp)))
    clear hB
    go_wp2_with fail
    refine (HWH.out w1 G1.out).mono ?_
    rintro e w2 ⟨rfl, g2⟩
    have G2 : Hid (Below w.heap.size w w2) := Lib.hid (G1.out.trans (g2.mono G1.out.size))
    have r0 := cell_old g2 q0; have r1 := cell_old g2 q1; have r2 := cell_old g2 q2; have r3 := cell_old g2 q3; have r4 := cell_old g2 q4
    clear g2 q0 q1 q2 q3 q4
    go_wp2_with fail
    refine (HMA.out w2).mono ?_
    rintro e w3 ⟨rfl, g3⟩
    have G3 : Hid (Below w.heap.size w w3) := Lib.hid (G2.out.trans (g3.mono G2.out.size))
    have q0 := cell_old g3 r0; have q1 := cell_old g3 r1; have q2 := cell_old g3 r2; have q3 := cell_old g3 r3; have q4 := cell_old g3 r4
    clear g3 r0 r1 r2 r3 r4
    go_wp2_with fail
    refine (HPT.out w3).mono ?_
    rintro e w4 ⟨rfl, g4⟩
    have G4 : Hid (Below w.heap.size w w4) := Lib.hid (G3.out.trans (g4.mono G3.out.size))
    have r0 := cell_old g4 q0; have r1 := cell_old g4 q1; have r2 := cell_old g4 q2; have r3 := cell_old g4 q3; have r4 := cell_old g4 q4
    have hlt4 := World.block_lt_of_cell? w4 _ r0
    clear g4 q0 q1 q2 q3 q4
    go_wp2_with fail
    refine (HSZ.out _).mono ?_
    rintro e w5 ⟨rfl, g5⟩
    have G5 : Hid (Below w.heap.size w w5) := Lib.hid ((G4.out.alloc G4.out.size _).trans (g5.mono (by have := G4.out.size; simp; omega)))
    clear g5 r0 r1 r2 r3 r4
    go_wp2
    go_ret
    exact ⟨rfl, G5.out⟩
  · simp only [if_neg hn] at HWH
    have hq : (((nb : Int) == (a1 : Int) + (a2 : Int) + (a3 : Int))) = false := by simp; omega
    have HNN := Lib.hid hn
    clear hn ht1 ht2
    go_enter Tryd.func3, Tryd.ntmps3
    go_wp2_with fail
    refine (HAW.out _ (HL.out.below ((Below.refl _ w).alloc (Nat.le_refl _) _))).mono ?_
    rintro e w1 ⟨rfl, hB⟩
    have q0 : w1.cell? ⟨w.heap.size, 0, none⟩ = some (.int .i64 (f.N : Int)) := (hB.cell (by simp)).trans (by go_simp)
    have q1 : w1.cell? ⟨w.heap.size, 1, none⟩ = some (.int .i64 (f.L : Int)) := (hB.cell (by simp)).trans (by go_simp)
    have q2 : w1.cell? ⟨w.heap.size, 2, none⟩ = some (.int .i64 (f.H : Int)) := (hB.cell (by simp)).trans (by go_simp)
    have q3 : w1.cell? ⟨w.heap.size, 3, none⟩ = some (.int .i64 (f.K : Int)) := (hB.cell (by simp)).trans (by go_simp)
    have q4 : w1.cell? ⟨w.heap.size, 4, none⟩ = some (.int .i64 (f.A : Int)) := (hB.cell (by simp)).trans (by go_simp)
    have G1 : Hid (Below w.heap.size w w1) := Lib.hid (((Below.refl _ w).alloc (Nat.le_refl _) _).trans (hB.mono (by simp)))
    clear hB
    go_wp2_with fail
    refine (HWH.out w1 G1.out).mono ?_
    rintro e w2 ⟨rfl, g2⟩
    have G2 : Hid (Below w.heap.size w w2) := Lib.hid (G1.out.trans (g2.mono G1.out.size))
    have r0 := cell_old g2 q0; have r1 := cell_old g2 q1; have r2 := cell_old g2 q2; have r3 := cell_old g2 q3; have r4 := cell_old g2 q4
    clear g2 q0 q1 q2 q3 q4
    go_wp2_with fail
    refine (HMA.out w2).mono ?_
    rintro e w3 ⟨rfl, g3⟩
    have G3 : Hid (Below w.heap.size w w3) := Lib.hid (G2.out.trans (g3.mono G2.out.size))
    have q0 := cell_old g3 r0; have q1 := cell_old g3 r1; have q2 := cell_old g3 r2; have q3 := cell_old g3 r3; have q4 := cell_old g3 r4
    clear g3 r0 r1 r2 r3 r4
    go_wp2_with fail
    refine (HPT.out w3).mono ?_
    rintro e w4 ⟨rfl, g4⟩
    have G4 : Hid (Below w.heap.size w w4) := Lib.hid (G3.out.trans (g4.mono G3.out.size))
    have r0 := cell_old g4 q0; have r1 := cell_old g4 q1; have r2 := cell_old g4 q2; have r3 := cell_old g4 q3; have r4 := cell_old g4 q4
    have hlt4 := World.block_lt_of_cell? w4 _ r0
    clear g4 q0 q1 q2 q3 q4
    go_wp2_with fail
    go_ret
    exact ⟨rfl, G4.out.alloc G4.out.size _⟩
end Go.Proofs.Sl
