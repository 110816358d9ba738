/- The document's SLH: how large a signature is. The document's SLH: where a digest leads nowhere, where nothing is signed, where nothing fits. -/
import Derived.Test.YtipedpkkabfdjaaGreatDoorFits19
/- The document's SLH: how large a signature is. -/
namespace Go.Proofs.Sl
open Go.RowKit Go.Proofs

theorem rsize_no (N L H K A : Int) (w : World) (h : mayI N L H K A = false) : Calls Tryz.prog 16 #[vFewI N L H K A] w (RetV w (.int .i64 0)) := by
  have HM := Lib.hid (fun w => h ▸ rmay_any N L H K A w)
  unfold vFewI at *
  go_enter Tryz.func16, Tryz.ntmps16
  go_wp2_with fail
  refine (HM.out _).mono ?_
  rintro e w1 ⟨rfl, hB⟩
  have g1 : Grow w w1 := ((Below.refl _ w).alloc (Nat.le_refl _) _).trans (hB.mono (by simp))
  clear hB
  go_wp2
  go_ret
  exact ⟨rfl, g1⟩

set_option maxHeartbeats 2000000 in
theorem rsize_any (f : Few) (hf : FewOk f) (w : World) : Calls Tryz.prog 16 #[vFew f] w (RetV w (.int .i64 ((sizeL f : Nat) : Int))) := by
  have HM := Lib.hid (fun w => mayI_ok' hf ▸ rmay_any f.N f.L f.H f.K f.A w)
  have HCH := Lib.hid (fun w => rchains_any f hf w)
  have hN := hf.N.le'
  have hL := hf.L2
  have hH := hf.H2
  have hK := hf.K2
  have hA := hf.A2
  have hch : chainsL f.N ≤ 67 := by unfold chainsL; omega
  obtain ⟨nk, hnk⟩ : ∃ x, f.N * f.K = x := ⟨_, rfl⟩
  obtain ⟨nka, hnka⟩ : ∃ x, nk * (f.A + 1) = x := ⟨_, rfl⟩
  obtain ⟨nl, hnl⟩ : ∃ x, f.N * f.L = x := ⟨_, rfl⟩
  obtain ⟨lc, hlc⟩ : ∃ x, nl * (chainsL f.N + f.H) = x := ⟨_, rfl⟩
  have HT : Hid (sizeL f = f.N + nka + lc) := Lib.hid (by unfold sizeL; rw [Nat.mul_add, Nat.mul_add, Nat.mul_one, ← Nat.mul_assoc, ← Nat.mul_assoc, hnk, hnl, hnka, hlc])
  have hnk1 : (f.N : Int) * (f.K : Int) = (nk : Int) := by rw [← hnk]; simp
  have hnka1 : (nk : Int) * ((f.A : Int) + 1) = (nka : Int) := by rw [← hnka]; simp
  have hnl1 : (f.N : Int) * (f.L : Int) = (nl : Int) := by rw [← hnl]; simp
  have hlc1 : (nl : Int) * (((chainsL f.N : Nat) : Int) + (f.H : Int)) = (lc : Int) := by rw [← hlc]; simp
  have hnk2 : nk ≤ 1280 := by rw [← hnk]; exact Nat.le_trans (Nat.mul_le_mul hN hK) (by omega)
  have hnka2 : nka ≤ 19200 := by rw [← hnka]; exact Nat.le_trans (Nat.mul_le_mul hnk2 (show f.A + 1 ≤ 15 by omega)) (by omega)
  have hnl2 : nl ≤ 704 := by rw [← hnl]; exact Nat.le_trans (Nat.mul_le_mul hN hL) (by omega)
  have hlc2 : lc ≤ 53504 := by rw [← hlc]; exact Nat.le_trans (Nat.mul_le_mul hnl2 (show chainsL f.N + f.H ≤ 76 by omega)) (by omega)
  clear hnk hnka hnl hlc hf
  unfold vFewI at HM
  unfold vFew at *
  go_enter Tryz.func16, Tryz.ntmps16
  go_wp2_with fail
  refine (HM.out _).mono ?_
  rintro e W0 ⟨rfl, hB⟩
  have k0 : W0.cell? ⟨w.heap.size, 0, none⟩ = some (.int .i64 (f.N : Int)) := (hB.cell (by simp)).trans (by go_simp)
  have k1 : W0.cell? ⟨w.heap.size, 1, none⟩ = some (.int .i64 (f.L : Int)) := (hB.cell (by simp)).trans (by go_simp)
  have k2 : W0.cell? ⟨w.heap.size, 2, none⟩ = some (.int .i64 (f.H : Int)) := (hB.cell (by simp)).trans (by go_simp)
  have k3 : W0.cell? ⟨w.heap.size, 3, none⟩ = some (.int .i64 (f.K : Int)) := (hB.cell (by simp)).trans (by go_simp)
  have k4 : W0.cell? ⟨w.heap.size, 4, none⟩ = some (.int .i64 (f.A : Int)) := (hB.cell (by simp)).trans (by go_simp)
  have hb0 : Below w.heap.size w W0.drew := (((Below.refl _ w).alloc (Nat.le_refl _) _).trans (hB.mono (by simp))).drew
  clear hB
  go_wp2_with fail
  refine wp_region_rg Grow 30 24 12 [[], [], [], [], [], [], [], [], [], [], [], [], [], [], [], [], [], [], [], [], [], [], [], []]
    [.still [] (.pointer (some ⟨w.heap.size, 0, none⟩)), .still [] (.int .i64 (f.N : Int)), .still [] (.pointer (some ⟨w.heap.size, 0, none⟩)), .still [] (.int .i64 (f.N : Int)), .still [] (.pointer (some ⟨w.heap.size, 3, none⟩)), .still [] (.int .i64 (f.K : Int)), .still [] (.int .i64 (nk : Int)), .still [] (.pointer (some ⟨w.heap.size, 4, none⟩)), .still [] (.int .i64 (f.A : Int)), .still [] (.int .i64 ((f.A : Int) + 1)), .still [] (.int .i64 (nka : Int)), .still [] (.int .i64 ((f.N : Int) + (nka : Int))), .still [] (.pointer (some ⟨w.heap.size, 0, none⟩)), .still [] (.int .i64 (f.N : Int)), .still [] (.pointer (some ⟨w.heap.size, 1, none⟩)), .still [] (.int .i64 (f.L : Int)), .still [] (.int .i64 (nl : Int)), .still [] (.agg #[.int .i64 (f.N : Int), .int .i64 (f.L : Int), .int .i64 (f.H : Int), .int .i64 (f.K : Int), .int .i64 (f.A : Int)]), .still [] (.int .i64 ((chainsL f.N : Nat) : Int)), .still [] (.pointer (some ⟨w.heap.size, 2, none⟩)), .still [] (.int .i64 (f.H : Int)), .still [] (.int .i64 (((chainsL f.N : Nat) : Int) + (f.H : Int))), .still [] (.int .i64 (lc : Int)), .still [] (.int .i64 ((f.N : Int) + (nka : Int) + (lc : Int)))] (by kernel_rfl) (by kernel_rfl) rfl rfl rfl Grow.trans (Grow.refl _) ?_
  iterate 18
    refine Obl.still (fun W hg _ => ?_) ?_
    · have c0 := cell_old hg k0; have c1 := cell_old hg k1; have c2 := cell_old hg k2; have c3 := cell_old hg k3; have c4 := cell_old hg k4; clear hg k0 k1 k2 k3 k4
      go_wp2
      exact ⟨rfl, rfl, rfl, Grow.refl _⟩
    simp only [Act.put, List.setIfInBounds_toArray, List.set_cons_zero, List.set_cons_succ]
  refine Obl.still (fun W hg _ => ?_) ?_
  · clear hg k0 k1 k2 k3 k4
    go_wp2_with fail
    refine (HCH.out W).mono ?_
    rintro e w' ⟨rfl, hB⟩
    have hG : Grow W w' := hB
    clear hB
    go_wp2
    exact ⟨rfl, rfl, rfl, hG⟩
  simp only [Act.put, List.setIfInBounds_toArray, List.set_cons_zero, List.set_cons_succ]
  iterate 5
    refine Obl.still (fun W hg _ => ?_) ?_
    · have c0 := cell_old hg k0; have c1 := cell_old hg k1; have c2 := cell_old hg k2; have c3 := cell_old hg k3; have c4 := cell_old hg k4; clear hg k0 k1 k2 k3 k4
      go_wp2
      exact ⟨rfl, rfl, rfl, Grow.refl _⟩
    simp only [Act.put, List.setIfInBounds_toArray, List.set_cons_zero, List.set_cons_succ]
  refine Obl.done (fun W hg hall => ?_)
  have hB := hb0.trans (hg.mono hb0.size)
  clear hg k0 k1 k2 k3 k4 hb0 hall
  go_wp2
  go_ret
  exact ⟨by rw [HT.out]; push_cast; rfl, hB⟩
end Go.Proofs.Sl

/- The document's SLH: where a digest leads nowhere, where nothing is signed, where nothing fits. -/
namespace Go.Proofs.Sl
open Go.RowKit Go.Proofs

set_option maxRecDepth 8000 in
theorem rwhere_not (N L H K A : Int) (x : Value) (w : World) (h : mayI N L H K A = false) : Calls Tryz.prog 20 #[vFewI N L H K A, x] w (RetV w (.tuple #[.int .u64 0, .int .u32 0, .bool false])) := by
  have HM := Lib.hid (fun w => h ▸ rmay_any N L H K A w)
  unfold vFewI at *
  go_enter Tryz.func20, Tryz.ntmps20
  go_wp2_with fail
  refine (HM.out _).mono ?_
  rintro e w1 ⟨rfl, hB⟩
  have g1 : Grow w w1 := ((Below.refl _ w).alloc (Nat.le_refl _) _).trans (hB.mono (by simp))
  clear hB
  go_wp2
  go_ret3
  exact ⟨rfl, g1⟩

set_option maxRecDepth 8000 in
theorem rsign_not (N L H K A : Int) (A1 A2 A3 Ax At : Option Addr) (n1 n2 n3 c1 c2 c3 nx cx nt ct : Nat) (w : World) (h : madeI N L H K A n1 n2 n3 = false) :
    Calls Tryz.prog 9 #[vFewI N L H K A, vSec A1 A2 A3 n1 n2 n3 c1 c2 c3, .slice Ax nx cx, .slice At nt ct] w (RetV w (.tuple #[.slice none 0 0, .int .i64 1])) := by
  have HC := Lib.hid (fun w => h ▸ rmade_any N L H K A A1 A2 A3 n1 n2 n3 c1 c2 c3 w)
  unfold vFewI vSec at *
  go_enter Tryz.func9, Tryz.ntmps9
  go_wp2_with fail
  refine (HC.out _).mono ?_
  rintro e w1 ⟨rfl, hB⟩
  have g1 : Grow w w1 := (((Below.refl _ w).alloc (Nat.le_refl _) _).alloc (by simp) _).trans (hB.mono (by simp; omega))
  clear hB
  go_wp2
  go_ret2
  exact ⟨rfl, g1⟩
set_option maxRecDepth 8000 in
theorem rsign_extra (N L H K A : Int) (A1 A2 A3 Ax At : Option Addr) (n1 n2 n3 c1 c2 c3 nx cx nt ct : Nat) (w : World) (h : madeI N L H K A n1 n2 n3 = true) (hx : (nx : Int) ≠ N) :
    Calls Tryz.prog 9 #[vFewI N L H K A, vSec A1 A2 A3 n1 n2 n3 c1 c2 c3, .slice Ax nx cx, .slice At nt ct] w (RetV w (.tuple #[.slice none 0 0, .int .i64 1])) := by
  have HC := Lib.hid (fun w => h ▸ rmade_any N L H K A A1 A2 A3 n1 n2 n3 c1 c2 c3 w)
  have hne : ((nx : Int) != N) = true := by simpa using hx
  clear h hx
  unfold vFewI vSec at *
  go_enter Tryz.func9, Tryz.ntmps9
  go_wp2_with fail
  refine (HC.out _).mono ?_
  rintro e w1 ⟨rfl, hB⟩
  have k0 : w1.cell? ⟨w.heap.size, 0, none⟩ = some (.int .i64 N) := (hB.cell (by simp; omega)).trans (by go_simp)
  have g1 : Grow w w1 := (((Below.refl _ w).alloc (Nat.le_refl _) _).alloc (by simp) _).trans (hB.mono (by simp; omega))
  clear hB
  go_wp2
  go_ret2
  exact ⟨rfl, g1⟩

set_option maxRecDepth 8000 in
theorem rfits_not (N L H K A : Int) (Ap At As : Option Addr) (np cp nt ct ns cs : Nat) (w : World) (h : mayI N L H K A = false) :
    Calls Tryz.prog 22 #[vFewI N L H K A, .slice Ap np cp, .slice At nt ct, .slice As ns cs] w (RetV w (.bool false)) := by
  have HM := Lib.hid (fun w => h ▸ rmay_any N L H K A w)
  unfold vFewI at *
  go_enter Tryz.func22, Tryz.ntmps22
  go_wp2_with fail
  refine (HM.out _).mono ?_
  rintro e w1 ⟨rfl, hB⟩
  have g1 : Grow w w1 := ((Below.refl _ w).alloc (Nat.le_refl _) _).trans (hB.mono (by simp))
  clear hB
  go_wp2
  go_ret
  exact ⟨rfl, g1⟩
set_option maxRecDepth 8000 in
theorem rfits_public (f : Few) (hf : FewOk f) (Ap At As : Option Addr) (np cp nt ct ns cs : Nat) (w : World) (hp : np ≠ 2 * f.N) :
    Calls Tryz.prog 22 #[vFew f, .slice Ap np cp, .slice At nt ct, .slice As ns cs] w (RetV w (.bool false)) := by
  have HM := Lib.hid (fun w => mayI_ok' hf ▸ rmay_any f.N f.L f.H f.K f.A w)
  have hne : ((np : Int) != 2 * (f.N : Int)) = true := by simp only [bne_iff_ne]; omega
  have hN2 := hf.N.le'
  clear hf hp
  unfold vFewI at HM
  unfold vFew
  go_enter Tryz.func22, Tryz.ntmps22
  go_wp2_with fail
  refine (HM.out _).mono ?_
  rintro e w1 ⟨rfl, hB⟩
  have k0 : w1.cell? ⟨w.heap.size, 0, none⟩ = some (.int .i64 (f.N : Int)) := (hB.cell (by simp)).trans (by go_simp)
  have g1 : Grow w w1 := ((Below.refl _ w).alloc (Nat.le_refl _) _).trans (hB.mono (by simp))
  clear hB
  go_wp2
  go_ret
  exact ⟨rfl, g1⟩
set_option maxRecDepth 8000 in
theorem rfits_sig (f : Few) (hf : FewOk f) (Ap At As : Option Addr) (cp nt ct ns cs : Nat) (w : World) (hp : ns ≠ sizeL f) :
    Calls Tryz.prog 22 #[vFew f, .slice Ap (2 * f.N) cp, .slice At nt ct, .slice As ns cs] w (RetV w (.bool false)) := by
  have HM := Lib.hid (fun w => mayI_ok' hf ▸ rmay_any f.N f.L f.H f.K f.A w)
  have HZ := Lib.hid (fun w => rsize_any f hf w)
  have hN2 := hf.N.le'
  obtain ⟨sz, hsz⟩ : ∃ sz, sizeL f = sz := ⟨_, rfl⟩
  rw [hsz] at hp HZ
  obtain ⟨np, hnp⟩ : ∃ np, 2 * f.N = np := ⟨_, rfl⟩
  rw [hnp]
  have hne1 : ((np : Int) != 2 * (f.N : Int)) = false := by simp only [bne_eq_false_iff_eq]; omega
  have hne : ((ns : Int) != (sz : Int)) = true := by simp only [bne_iff_ne]; omega
  clear hf hsz hp hnp
  unfold vFewI at HM
  unfold vFew at *
  go_enter Tryz.func22, Tryz.ntmps22
  go_wp2_with fail
  refine (HM.out _).mono ?_
  rintro e w1 ⟨rfl, hB⟩
  have k0 : w1.cell? ⟨w.heap.size, 0, none⟩ = some (.int .i64 (f.N : Int)) := (hB.cell (by simp)).trans (by go_simp)
  have k1 : w1.cell? ⟨w.heap.size, 1, none⟩ = some (.int .i64 (f.L : Int)) := (hB.cell (by simp)).trans (by go_simp)
  have k2 : w1.cell? ⟨w.heap.size, 2, none⟩ = some (.int .i64 (f.H : Int)) := (hB.cell (by simp)).trans (by go_simp)
  have k3 : w1.cell? ⟨w.heap.size, 3, none⟩ = some (.int .i64 (f.K : Int)) := (hB.cell (by simp)).trans (by go_simp)
  have k4 : w1.cell? ⟨w.heap.size, 4, none⟩ = some (.int .i64 (f.A : Int)) := (hB.cell (by simp)).trans (by go_simp)
  have g1 : Grow w w1 := ((Below.refl _ w).alloc (Nat.le_refl _) _).trans (hB.mono (by simp))
  clear hB
  go_wp2_with fail
  refine (HZ.out w1).mono ?_
  rintro e w2 ⟨rfl, g2⟩
  have G2 : Below w.heap.size w w2 := Below.trans g1 (Below.mono g2 g1.size)
  clear k0 k1 k2 k3 k4 g1 g2
  go_wp2
  go_ret
  exact ⟨rfl, G2⟩
end Go.Proofs.Sl
