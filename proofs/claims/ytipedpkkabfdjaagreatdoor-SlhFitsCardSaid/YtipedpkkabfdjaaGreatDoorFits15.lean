/- slh: a tree's root; the public key. fors: the bits of bytes, one by one (an iterator). fors: the digits of bytes. -/
import Derived.Test.YtipedpkkabfdjaaGreatDoorFits14
import Derived.Test.YtipedpkkabfdjaaGreatDoorFits04
import Derived.Test.YtipedpkkabfdjaaGreatDoorFits01
import Derived.Shelf.RegionOpen
/- slh: a tree's root; the public key. -/
namespace Go.Proofs.Sl
open Go.RowKit Go.Proofs

theorem SClos.below {f : Few} {A : Option Addr} {n c layer tree : Nat} {A1 : Option Addr} {n1 c1 Bs Bt Ba : Nat} {w w' : World} (h : SClos f A n c layer tree A1 n1 c1 Bs Bt Ba w) (hb : Below w.heap.size w w') : SClos f A n c layer tree A1 n1 c1 Bs Bt Ba w' :=
  h.but (GrowBut.of_below h.lt h.q hb)
def ClosV (f : Few) (A : Option Addr) (n c layer tree : Nat) (A1 : Option Addr) (n1 c1 B : Nat) (v : Value) (w : World) : Prop :=
  ∃ Bs Bt Ba, v = .func (.func 79) #[] #[.pointer (some ⟨Bs, 0, none⟩), .pointer (some ⟨Bt, 0, none⟩), .pointer (some ⟨Ba, 0, none⟩)] ∧ SClos f A n c layer tree A1 n1 c1 Bs Bt Ba w ∧ B ≤ Bs
theorem ClosV.keep {f : Few} {A : Option Addr} {n c layer tree : Nat} {A1 : Option Addr} {n1 c1 B : Nat} (v : Value) (w w' : World) (h : ClosV f A n c layer tree A1 n1 c1 B v w) (hg : Grow w w') : ClosV f A n c layer tree A1 n1 c1 B v w' := by
  obtain ⟨Bs, Bt, Ba, e, hs, hB⟩ := h
  exact ⟨Bs, Bt, Ba, e, hs.below hg, hB⟩
theorem rootL_length (f : Few) (m : Sec) (layer tree : Nat) (h : f.N ≤ 136) : (rootL f m layer tree).length = f.N := sNode_length _ _ _ _ _ _ _ h
theorem publicL_length (f : Few) (m : Sec) (h : MadeOk f m) : (publicL f m).length = f.N + f.N := by
  unfold publicL
  rw [List.length_append, h.seed, rootL_length _ _ _ _ (by have := h.ok.N.le'; omega)]

set_option maxHeartbeats 4000000 in
theorem root_any (f : Few) (m : Sec) (A1 A2 A3 : Option Addr) (n1 n2 n3 c1 c2 c3 layer tree : Nat) (w : World) (hM : Ground f m A1 A2 A3 n1 n2 n3 w) (hl : layer < f.L) (ht : W64 tree) :
    Calls Tryz.prog 13 #[vFew f, vSec A1 A2 A3 n1 n2 n3 c1 c2 c3, .int .u32 (layer : Int), .int .u64 (tree : Int)] w (RetOwn eB w (rootL f m layer tree)) := by
  have HM := Lib.hid hM
  have hH : f.H ≤ 6 := hM.ok.H
  have hL := hM.ok.ok.L2
  have e1 : (f.H : Int) % 4294967296 = (f.H : Int) := by omega
  clear hM
  unfold vFew vSec
  go_enter Tryz.func13, Tryz.ntmps13
  go_wp2_with fail
  have HC := Lib.hid (made_any f.N f.L f.H f.K f.A A1 A2 A3 n1 n2 n3 c1 c2 c3 ((w.alloc (.cells #[.int .i64 (f.N : Int), .int .i64 (f.L : Int), .int .i64 (f.H : Int), .int .i64 (f.K : Int), .int .i64 (f.A : Int)] 23)).alloc (.cells #[.slice A1 n1 c1, .slice A2 n2 c2, .slice A3 n3 c3] 26)))
  rw [HM.out.made] at HC
  unfold vFewI vSec at HC
  refine HC.out.mono ?_
  rintro e W0 ⟨rfl, hB⟩
  have k0 : W0.cell? ⟨w.heap.size, 0, none⟩ = some (.int .i64 (f.N : Int)) := (hB.cell (by simp; try omega)).trans (by go_simp)
  have k1 : W0.cell? ⟨w.heap.size, 1, none⟩ = some (.int .i64 (f.L : Int)) := (hB.cell (by simp; try omega)).trans (by go_simp)
  have k2 : W0.cell? ⟨w.heap.size, 2, none⟩ = some (.int .i64 (f.H : Int)) := (hB.cell (by simp; try omega)).trans (by go_simp)
  have k3 : W0.cell? ⟨w.heap.size, 3, none⟩ = some (.int .i64 (f.K : Int)) := (hB.cell (by simp; try omega)).trans (by go_simp)
  have k4 : W0.cell? ⟨w.heap.size, 4, none⟩ = some (.int .i64 (f.A : Int)) := (hB.cell (by simp; try omega)).trans (by go_simp)
  have k5 : W0.cell? ⟨w.heap.size + 1, 0, none⟩ = some (.slice A1 n1 c1) := (hB.cell (by simp; try omega)).trans (by go_simp)
  have k6 : W0.cell? ⟨w.heap.size + 1, 1, none⟩ = some (.slice A2 n2 c2) := (hB.cell (by simp; try omega)).trans (by go_simp)
  have k7 : W0.cell? ⟨w.heap.size + 1, 2, none⟩ = some (.slice A3 n3 c3) := (hB.cell (by simp; try omega)).trans (by go_simp)
  have hb0 : Below w.heap.size w W0.drew := ((((Below.refl _ w).alloc (Nat.le_refl _) _).alloc (by simp) _).trans (hB.mono (by simp; omega))).drew
  clear hB HC
  go_wp2
  refine wp_region_rg Grow 33 12 8 [[], [], [], [], [], [], [], [], [], [], [], []]
    [.still [] (.agg #[.int .i64 (f.N : Int), .int .i64 (f.L : Int), .int .i64 (f.H : Int), .int .i64 (f.K : Int), .int .i64 (f.A : Int)]), .still [] (.pointer (some ⟨w.heap.size + 1, 2, none⟩)), .still [] (.slice A3 n3 c3), .still [] (.int .u32 (layer : Int)), .still [] (.int .u64 (tree : Int)), .still [] (.agg #[.int .i64 (f.N : Int), .int .i64 (f.L : Int), .int .i64 (f.H : Int), .int .i64 (f.K : Int), .int .i64 (f.A : Int), .slice A3 n3 c3, .int .u32 (layer : Int), .int .u64 (tree : Int), .int .u32 0]), .still [] (.pointer (some ⟨w.heap.size + 1, 0, none⟩)), .still [] (.slice A1 n1 c1), .grow [] (ClosV f A3 n3 c3 layer tree A1 n1 c1 w.heap.size), .still [] (.pointer (some ⟨w.heap.size, 2, none⟩)), .still [] (.int .i64 (f.H : Int)), .still [] (.int .u32 (f.H : Int))] (by kernel_rfl) (by kernel_rfl) rfl rfl rfl Grow.trans (Grow.refl _) ?_
  refine Obl.still (fun W hg _ => ?_) ?_
  · have c0 := cell_old hg k0; have c1 := cell_old hg k1; have c2 := cell_old hg k2; have c3 := cell_old hg k3; have c4 := cell_old hg k4; have c5 := cell_old hg k5; have c6 := cell_old hg k6; have c7 := cell_old hg k7; clear hg k0 k1 k2 k3 k4 k5 k6 k7
    go_wp2
    exact ⟨rfl, rfl, rfl, Grow.refl _⟩
  simp only [Act.put, List.setIfInBounds_toArray, List.set_cons_zero, List.set_cons_succ]
  refine Obl.still (fun W hg _ => ?_) ?_
  · have c0 := cell_old hg k0; have c1 := cell_old hg k1; have c2 := cell_old hg k2; have c3 := cell_old hg k3; have c4 := cell_old hg k4; have c5 := cell_old hg k5; have c6 := cell_old hg k6; have c7 := cell_old hg k7; clear hg k0 k1 k2 k3 k4 k5 k6 k7
    go_wp2
    exact ⟨rfl, rfl, rfl, Grow.refl _⟩
  simp only [Act.put, List.setIfInBounds_toArray, List.set_cons_zero, List.set_cons_succ]
  refine Obl.still (fun W hg _ => ?_) ?_
  · have c0 := cell_old hg k0; have c1 := cell_old hg k1; have c2 := cell_old hg k2; have c3 := cell_old hg k3; have c4 := cell_old hg k4; have c5 := cell_old hg k5; have c6 := cell_old hg k6; have c7 := cell_old hg k7; clear hg k0 k1 k2 k3 k4 k5 k6 k7
    go_wp2
    exact ⟨rfl, rfl, rfl, Grow.refl _⟩
  simp only [Act.put, List.setIfInBounds_toArray, List.set_cons_zero, List.set_cons_succ]
  refine Obl.still (fun W hg _ => ?_) ?_
  · have c0 := cell_old hg k0; have c1 := cell_old hg k1; have c2 := cell_old hg k2; have c3 := cell_old hg k3; have c4 := cell_old hg k4; have c5 := cell_old hg k5; have c6 := cell_old hg k6; have c7 := cell_old hg k7; clear hg k0 k1 k2 k3 k4 k5 k6 k7
    go_wp2
    exact ⟨rfl, rfl, rfl, Grow.refl _⟩
  simp only [Act.put, List.setIfInBounds_toArray, List.set_cons_zero, List.set_cons_succ]
  refine Obl.still (fun W hg _ => ?_) ?_
  · have c0 := cell_old hg k0; have c1 := cell_old hg k1; have c2 := cell_old hg k2; have c3 := cell_old hg k3; have c4 := cell_old hg k4; have c5 := cell_old hg k5; have c6 := cell_old hg k6; have c7 := cell_old hg k7; clear hg k0 k1 k2 k3 k4 k5 k6 k7
    go_wp2
    exact ⟨rfl, rfl, rfl, Grow.refl _⟩
  simp only [Act.put, List.setIfInBounds_toArray, List.set_cons_zero, List.set_cons_succ]
  refine Obl.still (fun W hg _ => ?_) ?_
  · have c0 := cell_old hg k0; have c1 := cell_old hg k1; have c2 := cell_old hg k2; have c3 := cell_old hg k3; have c4 := cell_old hg k4; have c5 := cell_old hg k5; have c6 := cell_old hg k6; have c7 := cell_old hg k7; clear hg k0 k1 k2 k3 k4 k5 k6 k7
    go_wp2
    exact ⟨rfl, rfl, rfl, Grow.refl _⟩
  simp only [Act.put, List.setIfInBounds_toArray, List.set_cons_zero, List.set_cons_succ]
  refine Obl.still (fun W hg _ => ?_) ?_
  · have c0 := cell_old hg k0; have c1 := cell_old hg k1; have c2 := cell_old hg k2; have c3 := cell_old hg k3; have c4 := cell_old hg k4; have c5 := cell_old hg k5; have c6 := cell_old hg k6; have c7 := cell_old hg k7; clear hg k0 k1 k2 k3 k4 k5 k6 k7
    go_wp2
    exact ⟨rfl, rfl, rfl, Grow.refl _⟩
  simp only [Act.put, List.setIfInBounds_toArray, List.set_cons_zero, List.set_cons_succ]
  refine Obl.still (fun W hg _ => ?_) ?_
  · have c0 := cell_old hg k0; have c1 := cell_old hg k1; have c2 := cell_old hg k2; have c3 := cell_old hg k3; have c4 := cell_old hg k4; have c5 := cell_old hg k5; have c6 := cell_old hg k6; have c7 := cell_old hg k7; clear hg k0 k1 k2 k3 k4 k5 k6 k7
    go_wp2
    exact ⟨rfl, rfl, rfl, Grow.refl _⟩
  simp only [Act.put, List.setIfInBounds_toArray, List.set_cons_zero, List.set_cons_succ]
  refine Obl.grow (ClosV.keep) (fun W hg _ => ?_) (fun v8 => ?_)
  · have HC := Lib.hid (ssums_any f A3 A1 n3 c3 n1 c1 layer tree 0 W)
    unfold vSpot at HC
    have hsz : w.heap.size ≤ W.heap.size := Nat.le_trans hb0.size hg.size
    clear hg k0 k1 k2 k3 k4 k5 k6 k7
    go_wp2_with fail
    refine HC.out.mono ?_
    rintro e w' ⟨Bs, Bt, Ba, rfl, h1, h2, h3⟩
    go_wp2
    exact ⟨rfl, rfl, ⟨_, _, _, rfl, h1, Nat.le_trans hsz h2⟩, h3⟩
  simp only [Act.put, List.setIfInBounds_toArray, List.set_cons_zero, List.set_cons_succ]
  refine Obl.still (fun W hg _ => ?_) ?_
  · have c0 := cell_old hg k0; have c1 := cell_old hg k1; have c2 := cell_old hg k2; have c3 := cell_old hg k3; have c4 := cell_old hg k4; have c5 := cell_old hg k5; have c6 := cell_old hg k6; have c7 := cell_old hg k7; clear hg k0 k1 k2 k3 k4 k5 k6 k7
    go_wp2
    exact ⟨rfl, rfl, rfl, Grow.refl _⟩
  simp only [Act.put, List.setIfInBounds_toArray, List.set_cons_zero, List.set_cons_succ]
  refine Obl.still (fun W hg _ => ?_) ?_
  · have c0 := cell_old hg k0; have c1 := cell_old hg k1; have c2 := cell_old hg k2; have c3 := cell_old hg k3; have c4 := cell_old hg k4; have c5 := cell_old hg k5; have c6 := cell_old hg k6; have c7 := cell_old hg k7; clear hg k0 k1 k2 k3 k4 k5 k6 k7
    go_wp2
    exact ⟨rfl, rfl, rfl, Grow.refl _⟩
  simp only [Act.put, List.setIfInBounds_toArray, List.set_cons_zero, List.set_cons_succ]
  refine Obl.still (fun W hg _ => ?_) ?_
  · have c0 := cell_old hg k0; have c1 := cell_old hg k1; have c2 := cell_old hg k2; have c3 := cell_old hg k3; have c4 := cell_old hg k4; have c5 := cell_old hg k5; have c6 := cell_old hg k6; have c7 := cell_old hg k7; clear hg k0 k1 k2 k3 k4 k5 k6 k7
    go_wp2
    exact ⟨rfl, rfl, rfl, Grow.refl _⟩
  simp only [Act.put, List.setIfInBounds_toArray, List.set_cons_zero, List.set_cons_succ]
  refine Obl.done (fun W hg hall => ?_)
  obtain ⟨⟨Bs, Bt, Ba, rfl, hS, hBs⟩, _⟩ := hall
  have gW : Grow w W := hb0.trans (hg.mono hb0.size)
  have HM2 := HM.out.below gW
  have HC := Lib.hid (snode_any f A3 A1 n3 c3 n1 c1 Bs Bt Ba m.seed m.secret layer tree HM.out.ok.secret f.H 0 W ⟨HM2.laid, HM2.ok.ok, HM2.r3, HM2.ok.seed, by omega, ht⟩ HM2.r1 hS (by have : 2 ^ f.H ≤ 2 ^ 6 := Nat.pow_le_pow_right (by omega) hH; omega))
  have GW := Lib.hid gW
  clear hg k0 k1 k2 k3 k4 k5 k6 k7 hb0 hS HM2 gW
  go_wp2_with fail
  refine HC.out.mono ?_
  rintro e w5 ⟨A5, n5, c5, rfl, h5, h6⟩
  have h5' := Lib.hid (h5.mono GW.out.size)
  have hB := Lib.hid (Below.trans GW.out (h6.below hBs GW.out.size))
  clear h5 h6 HC
  go_wp2
  go_ret
  exact ⟨_, _, _, rfl, h5'.out, hB.out⟩

set_option maxHeartbeats 1000000 in
theorem root_beyond (f : Few) (m : Sec) (A1 A2 A3 : Option Addr) (n1 n2 n3 c1 c2 c3 layer tree : Nat) (w : World) (hM : Ground f m A1 A2 A3 n1 n2 n3 w) (hl : f.L ≤ layer) (hl2 : layer < 4294967296) :
    Calls Tryz.prog 13 #[vFew f, vSec A1 A2 A3 n1 n2 n3 c1 c2 c3, .int .u32 (layer : Int), .int .u64 (tree : Int)] w (RetV w (.slice none 0 0)) := by
  have HM := Lib.hid hM
  clear hM
  unfold vFew vSec
  go_enter Tryz.func13, Tryz.ntmps13
  go_wp2_with fail
  have HC := Lib.hid (made_any f.N f.L f.H f.K f.A A1 A2 A3 n1 n2 n3 c1 c2 c3 ((w.alloc (.cells #[.int .i64 (f.N : Int), .int .i64 (f.L : Int), .int .i64 (f.H : Int), .int .i64 (f.K : Int), .int .i64 (f.A : Int)] 23)).alloc (.cells #[.slice A1 n1 c1, .slice A2 n2 c2, .slice A3 n3 c3] 26)))
  rw [HM.out.made] at HC
  unfold vFewI vSec at HC
  refine HC.out.mono ?_
  rintro e W0 ⟨rfl, hB⟩
  have k0 : W0.cell? ⟨w.heap.size, 0, none⟩ = some (.int .i64 (f.N : Int)) := (hB.cell (by simp; try omega)).trans (by go_simp)
  have k1 : W0.cell? ⟨w.heap.size, 1, none⟩ = some (.int .i64 (f.L : Int)) := (hB.cell (by simp; try omega)).trans (by go_simp)
  have k2 : W0.cell? ⟨w.heap.size, 2, none⟩ = some (.int .i64 (f.H : Int)) := (hB.cell (by simp; try omega)).trans (by go_simp)
  have k3 : W0.cell? ⟨w.heap.size, 3, none⟩ = some (.int .i64 (f.K : Int)) := (hB.cell (by simp; try omega)).trans (by go_simp)
  have k4 : W0.cell? ⟨w.heap.size, 4, none⟩ = some (.int .i64 (f.A : Int)) := (hB.cell (by simp; try omega)).trans (by go_simp)
  have k5 : W0.cell? ⟨w.heap.size + 1, 0, none⟩ = some (.slice A1 n1 c1) := (hB.cell (by simp; try omega)).trans (by go_simp)
  have k6 : W0.cell? ⟨w.heap.size + 1, 1, none⟩ = some (.slice A2 n2 c2) := (hB.cell (by simp; try omega)).trans (by go_simp)
  have k7 : W0.cell? ⟨w.heap.size + 1, 2, none⟩ = some (.slice A3 n3 c3) := (hB.cell (by simp; try omega)).trans (by go_simp)
  have hb0 : Below w.heap.size w W0 := ((((Below.refl _ w).alloc (Nat.le_refl _) _).alloc (by simp) _).trans (hB.mono (by simp; omega)))
  clear hB HC
  go_wp2
  go_ret
  exact ⟨rfl, hb0⟩

set_option maxHeartbeats 1000000 in
theorem root_no (N L H K A : Int) (A1 A2 A3 : Option Addr) (n1 n2 n3 c1 c2 c3 : Nat) (layer tree : Nat) (w : World) (h : madeI N L H K A n1 n2 n3 = false) :
    Calls Tryz.prog 13 #[vFewI N L H K A, vSec A1 A2 A3 n1 n2 n3 c1 c2 c3, .int .u32 (layer : Int), .int .u64 (tree : Int)] w (RetV w (.slice none 0 0)) := by
  have HM := Lib.hid (fun w => h ▸ made_any N L H K A A1 A2 A3 n1 n2 n3 c1 c2 c3 w)
  unfold vFewI vSec at *
  go_enter Tryz.func13, Tryz.ntmps13
  go_wp2_with fail
  refine (HM.out _).mono ?_
  rintro e w1 ⟨rfl, hB⟩
  have g1 : Grow w w1 := (((Below.refl _ w).alloc (Nat.le_refl _) _).alloc (by simp) _).trans (hB.mono (by simp; omega))
  clear hB
  go_wp2
  go_ret
  exact ⟨rfl, g1⟩

set_option maxHeartbeats 4000000 in
theorem public_any (f : Few) (m : Sec) (A1 A2 A3 : Option Addr) (n1 n2 n3 c1 c2 c3 : Nat) (w : World) (hM : Ground f m A1 A2 A3 n1 n2 n3 w) :
    Calls Tryz.prog 11 #[vFew f, vSec A1 A2 A3 n1 n2 n3 c1 c2 c3] w (RetOwn eB w (publicL f m)) := by
  have HM := Lib.hid hM
  have hL := hM.ok.ok.L2
  have hL1 := hM.ok.ok.L1
  have hN1 := hM.ok.ok.N.pos'
  have hN := hM.ok.ok.N.le'
  have e1 : ((f.L : Int) - 1) % 4294967296 = (f.L : Int) - 1 := by omega
  clear hM
  unfold vFew vSec
  go_enter Tryz.func11, Tryz.ntmps11
  go_wp2_with fail
  have HC := Lib.hid (made_any f.N f.L f.H f.K f.A A1 A2 A3 n1 n2 n3 c1 c2 c3 ((w.alloc (.cells #[.int .i64 (f.N : Int), .int .i64 (f.L : Int), .int .i64 (f.H : Int), .int .i64 (f.K : Int), .int .i64 (f.A : Int)] 23)).alloc (.cells #[.slice A1 n1 c1, .slice A2 n2 c2, .slice A3 n3 c3] 26)))
  rw [HM.out.made] at HC
  unfold vFewI vSec at HC
  refine HC.out.mono ?_
  rintro e W0 ⟨rfl, hB⟩
  have k0 : W0.cell? ⟨w.heap.size, 0, none⟩ = some (.int .i64 (f.N : Int)) := (hB.cell (by simp; try omega)).trans (by go_simp)
  have k1 : W0.cell? ⟨w.heap.size, 1, none⟩ = some (.int .i64 (f.L : Int)) := (hB.cell (by simp; try omega)).trans (by go_simp)
  have k2 : W0.cell? ⟨w.heap.size, 2, none⟩ = some (.int .i64 (f.H : Int)) := (hB.cell (by simp; try omega)).trans (by go_simp)
  have k3 : W0.cell? ⟨w.heap.size, 3, none⟩ = some (.int .i64 (f.K : Int)) := (hB.cell (by simp; try omega)).trans (by go_simp)
  have k4 : W0.cell? ⟨w.heap.size, 4, none⟩ = some (.int .i64 (f.A : Int)) := (hB.cell (by simp; try omega)).trans (by go_simp)
  have k5 : W0.cell? ⟨w.heap.size + 1, 0, none⟩ = some (.slice A1 n1 c1) := (hB.cell (by simp; try omega)).trans (by go_simp)
  have k6 : W0.cell? ⟨w.heap.size + 1, 1, none⟩ = some (.slice A2 n2 c2) := (hB.cell (by simp; try omega)).trans (by go_simp)
  have k7 : W0.cell? ⟨w.heap.size + 1, 2, none⟩ = some (.slice A3 n3 c3) := (hB.cell (by simp; try omega)).trans (by go_simp)
  have hb0 : Below w.heap.size w W0.drew := ((((Below.refl _ w).alloc (Nat.le_refl _) _).alloc (by simp) _).trans (hB.mono (by simp; omega))).drew
  clear hB HC
  go_wp2
  refine wp_region_rg Grow 20 11 8 [[], [], [], [], [], [], [], [], [], [8], [9]]
    [.still [] (.pointer (some ⟨w.heap.size + 1, 2, none⟩)), .still [] (.slice A3 n3 c3), .still [] (.agg #[.int .i64 (f.N : Int), .int .i64 (f.L : Int), .int .i64 (f.H : Int), .int .i64 (f.K : Int), .int .i64 (f.A : Int)]), .still [] (.agg #[.slice A1 n1 c1, .slice A2 n2 c2, .slice A3 n3 c3]), .still [] (.pointer (some ⟨w.heap.size, 1, none⟩)), .still [] (.int .i64 (f.L : Int)), .still [] (.int .i64 ((f.L : Int) - 1)), .still [] (.int .u32 ((f.L : Int) - 1)), .grow [] (OwnV eB 0 (rootL f m (f.L - 1) 0)), .grow [8] (PartsV [m.seed, rootL f m (f.L - 1) 0]), .grow [9] (OwnV eB w.heap.size (publicL f m))] (by kernel_rfl) (by kernel_rfl) rfl rfl rfl Grow.trans (Grow.refl _) ?_
  refine Obl.still (fun W hg _ => ?_) ?_
  · have c0 := cell_old hg k0; have c1 := cell_old hg k1; have c2 := cell_old hg k2; have c3 := cell_old hg k3; have c4 := cell_old hg k4; have c5 := cell_old hg k5; have c6 := cell_old hg k6; have c7 := cell_old hg k7; clear hg k0 k1 k2 k3 k4 k5 k6 k7
    go_wp2
    exact ⟨rfl, rfl, rfl, Grow.refl _⟩
  simp only [Act.put, List.setIfInBounds_toArray, List.set_cons_zero, List.set_cons_succ]
  refine Obl.still (fun W hg _ => ?_) ?_
  · have c0 := cell_old hg k0; have c1 := cell_old hg k1; have c2 := cell_old hg k2; have c3 := cell_old hg k3; have c4 := cell_old hg k4; have c5 := cell_old hg k5; have c6 := cell_old hg k6; have c7 := cell_old hg k7; clear hg k0 k1 k2 k3 k4 k5 k6 k7
    go_wp2
    exact ⟨rfl, rfl, rfl, Grow.refl _⟩
  simp only [Act.put, List.setIfInBounds_toArray, List.set_cons_zero, List.set_cons_succ]
  refine Obl.still (fun W hg _ => ?_) ?_
  · have c0 := cell_old hg k0; have c1 := cell_old hg k1; have c2 := cell_old hg k2; have c3 := cell_old hg k3; have c4 := cell_old hg k4; have c5 := cell_old hg k5; have c6 := cell_old hg k6; have c7 := cell_old hg k7; clear hg k0 k1 k2 k3 k4 k5 k6 k7
    go_wp2
    exact ⟨rfl, rfl, rfl, Grow.refl _⟩
  simp only [Act.put, List.setIfInBounds_toArray, List.set_cons_zero, List.set_cons_succ]
  refine Obl.still (fun W hg _ => ?_) ?_
  · have c0 := cell_old hg k0; have c1 := cell_old hg k1; have c2 := cell_old hg k2; have c3 := cell_old hg k3; have c4 := cell_old hg k4; have c5 := cell_old hg k5; have c6 := cell_old hg k6; have c7 := cell_old hg k7; clear hg k0 k1 k2 k3 k4 k5 k6 k7
    go_wp2
    exact ⟨rfl, rfl, rfl, Grow.refl _⟩
  simp only [Act.put, List.setIfInBounds_toArray, List.set_cons_zero, List.set_cons_succ]
  refine Obl.still (fun W hg _ => ?_) ?_
  · have c0 := cell_old hg k0; have c1 := cell_old hg k1; have c2 := cell_old hg k2; have c3 := cell_old hg k3; have c4 := cell_old hg k4; have c5 := cell_old hg k5; have c6 := cell_old hg k6; have c7 := cell_old hg k7; clear hg k0 k1 k2 k3 k4 k5 k6 k7
    go_wp2
    exact ⟨rfl, rfl, rfl, Grow.refl _⟩
  simp only [Act.put, List.setIfInBounds_toArray, List.set_cons_zero, List.set_cons_succ]
  refine Obl.still (fun W hg _ => ?_) ?_
  · have c0 := cell_old hg k0; have c1 := cell_old hg k1; have c2 := cell_old hg k2; have c3 := cell_old hg k3; have c4 := cell_old hg k4; have c5 := cell_old hg k5; have c6 := cell_old hg k6; have c7 := cell_old hg k7; clear hg k0 k1 k2 k3 k4 k5 k6 k7
    go_wp2
    exact ⟨rfl, rfl, rfl, Grow.refl _⟩
  simp only [Act.put, List.setIfInBounds_toArray, List.set_cons_zero, List.set_cons_succ]
  refine Obl.still (fun W hg _ => ?_) ?_
  · have c0 := cell_old hg k0; have c1 := cell_old hg k1; have c2 := cell_old hg k2; have c3 := cell_old hg k3; have c4 := cell_old hg k4; have c5 := cell_old hg k5; have c6 := cell_old hg k6; have c7 := cell_old hg k7; clear hg k0 k1 k2 k3 k4 k5 k6 k7
    go_wp2
    exact ⟨rfl, rfl, rfl, Grow.refl _⟩
  simp only [Act.put, List.setIfInBounds_toArray, List.set_cons_zero, List.set_cons_succ]
  refine Obl.still (fun W hg _ => ?_) ?_
  · have c0 := cell_old hg k0; have c1 := cell_old hg k1; have c2 := cell_old hg k2; have c3 := cell_old hg k3; have c4 := cell_old hg k4; have c5 := cell_old hg k5; have c6 := cell_old hg k6; have c7 := cell_old hg k7; clear hg k0 k1 k2 k3 k4 k5 k6 k7
    go_wp2
    exact ⟨rfl, rfl, rfl, Grow.refl _⟩
  simp only [Act.put, List.setIfInBounds_toArray, List.set_cons_zero, List.set_cons_succ]
  refine Obl.grow (OwnV.keep _ _ _) (fun W hg _ => ?_) (fun v8 => ?_)
  · have HC := Lib.hid (root_any f m A1 A2 A3 n1 n2 n3 c1 c2 c3 (f.L - 1) 0 W (HM.out.below (hb0.trans (hg.mono hb0.size))) (by omega) (by unfold W64; omega))
    rw [show ((f.L - 1 : Nat) : Int) = (f.L : Int) - 1 by omega] at HC
    unfold vFew vSec at HC
    clear hg k0 k1 k2 k3 k4 k5 k6 k7
    go_wp2_with fail
    refine (HC.out).mono ?_
    rintro e w' ⟨A1, n1, c1, rfl, h1, h2⟩
    go_wp2
    exact ⟨rfl, rfl, ⟨_, _, _, rfl, h1.mono (Nat.zero_le _)⟩, h2⟩
  simp only [Act.put, List.setIfInBounds_toArray, List.set_cons_zero, List.set_cons_succ]
  refine Obl.grow (PartsV.keep _) (fun W hg ⟨h8, _⟩ => ?_) (fun v9 => ?_)
  · obtain ⟨Ah8, nh8, ch8, rfl, h8⟩ := h8
    have h3 := (HM.out.below (hb0.trans (hg.mono hb0.size))).r3
    clear hg k0 k1 k2 k3 k4 k5 k6 k7
    go_wp2
    exact ⟨rfl, rfl, ⟨_, _, rfl, parts2 (cell_new ..) (cell_new ..) (h3.alloc _) (h8.rd.alloc _)⟩, (Below.refl _ _).alloc (Nat.le_refl _) _⟩
  simp only [Act.put, List.setIfInBounds_toArray, List.set_cons_zero, List.set_cons_succ]
  refine Obl.grow (OwnV.keep _ _ _) (fun W hg ⟨h9, _⟩ => ?_) (fun v10 => ?_)
  · obtain ⟨bh9, nh9, rfl, h9⟩ := h9
    have hnn : nh9 = 2 := by rw [← h9.len]; rfl
    subst hnn
    have hfl : [m.seed, rootL f m (f.L - 1) 0].flatten = publicL f m := by simp [publicL]
    have hln := publicL_length f m HM.out.ok
    have HC := Lib.hid (cat_any bh9 0 2 2 _ W h9 (by omega) (Nat.le_refl _) (by rw [hfl, hln]; omega) (by rw [hfl, hln]; omega))
    rw [hfl] at HC
    have hsz : w.heap.size ≤ W.heap.size := Nat.le_trans hb0.size hg.size
    clear hfl hln
    clear hg k0 k1 k2 k3 k4 k5 k6 k7
    go_wp2_with fail
    refine (HC.out).mono ?_
    rintro e w' ⟨A1, n1, c1, rfl, h1, h2⟩
    go_wp2
    exact ⟨rfl, rfl, ⟨_, _, _, rfl, h1.mono hsz⟩, h2⟩
  simp only [Act.put, List.setIfInBounds_toArray, List.set_cons_zero, List.set_cons_succ]
  refine Obl.done (fun W hg hall => ?_)
  obtain ⟨h10, _⟩ := hall
  obtain ⟨A', n', c', rfl, h10⟩ := h10
  have hB := hb0.trans (hg.mono hb0.size)
  clear hg k0 k1 k2 k3 k4 k5 k6 k7 hb0
  go_wp2
  go_ret
  exact ⟨_, _, _, rfl, h10, hB⟩

set_option maxHeartbeats 1000000 in
theorem public_no (N L H K A : Int) (A1 A2 A3 : Option Addr) (n1 n2 n3 c1 c2 c3 : Nat) (w : World) (h : madeI N L H K A n1 n2 n3 = false) :
    Calls Tryz.prog 11 #[vFewI N L H K A, vSec A1 A2 A3 n1 n2 n3 c1 c2 c3] w (RetV w (.slice none 0 0)) := by
  have HM := Lib.hid (fun w => h ▸ made_any N L H K A A1 A2 A3 n1 n2 n3 c1 c2 c3 w)
  unfold vFewI vSec at *
  go_enter Tryz.func11, Tryz.ntmps11
  go_wp2_with fail
  refine (HM.out _).mono ?_
  rintro e w1 ⟨rfl, hB⟩
  have g1 : Grow w w1 := (((Below.refl _ w).alloc (Nat.le_refl _) _).alloc (by simp) _).trans (hB.mono (by simp; omega))
  clear hB
  go_wp2
  go_ret
  exact ⟨rfl, g1⟩
end Go.Proofs.Sl

/- fors: the bits of bytes, one by one (an iterator). -/
namespace Go.Proofs.Sl
open Go.RowKit Go.Proofs
attribute [local go_sem] Oper.semAt_some

def bitsL (b : List UInt8) : List (Nat × Nat) := (List.range (b.length * 8)).map fun i => (i, bitAt b i)
abbrev encBit (p : Nat × Nat) : Array Value := #[.int .i64 (p.1 : Int), .int .u32 (p.2 : Int)]
theorem bitsL_take (b : List UInt8) (k : Nat) (h : k < b.length * 8) : (bitsL b).take k ++ [(k, bitAt b k)] = (bitsL b).take (k + 1) := by
  have hl : k < (bitsL b).length := by simp [bitsL]; exact h
  rw [List.take_succ_eq_append_getElem hl]
  congr 1
  simp [bitsL]
theorem bitAt_lt (b : List UInt8) (i : Nat) : bitAt b i < 2 := Nat.mod_lt _ (by omega)

set_option maxHeartbeats 1000000 in
theorem bits_seq (n1 : Nat) (hn1 : 1 ≤ n1) (Bb : Nat) (A : Option Addr) (n c : Nat) (b : List UInt8) (w : World) (hb : w.cell? ⟨Bb, 0, none⟩ = some (.slice A n c)) (hr : Rd eB w A n b) (hn : n ≤ 1048576) :
    SeqSt Fence.wide n1 Tryz.prog 113 #[.pointer (some ⟨Bb, 0, none⟩)] encBit (KpBox eB Bb A n b) (fun _ _ => False) (bitsL b) w := by
  intro l J Jx W hW _ hY h0
  have h1 := cell_old hW hb
  have h2 := hr.below hW
  have hl := hr.len
  clear hb hr hW
  refine callsIn_of_wp Tryz.func113 rfl trivial ?_ rfl
  simp only [Tryz.ntmps113, List.size_toArray, List.length_cons, List.length_nil, Nat.reduceAdd, Nat.reduceSub, Array.replicate_succ, Array.replicate_zero, List.push_toArray, List.append_toArray, List.nil_append, List.cons_append]
  gi_wp2
  gi_loopw [7] (fun p wr => ∃ k : Nat, k ≤ n * 8 ∧ p = .int .i64 (k : Int) ∧ J ((bitsL b).take k) wr ∧ wr.cell? ⟨Bb, 0, none⟩ = some (.slice A n c) ∧ Rd eB wr A n b) (fun p _ => n * 8 - (intOf p).toNat)
  case atStart => exact ⟨0, Nat.zero_le _, rfl, by simpa using h0, h1, h2⟩
  case round =>
    obtain ⟨k, hk, rfl, hJ, hc, hR⟩ := hrel
    by_cases hlt : k < n * 8
    · have hk8 : k / 8 < n := by omega
      obtain ⟨ad, rfl, hx⟩ := hR.at (k / 8) hk8
      obtain ⟨fn, tmps, assign, body, hy, hRo⟩ := hY ((bitsL b).take k) (k, bitAt b k) wr hJ (by rw [bitsL_take b k (by rw [hl]; exact hlt)]; exact List.take_prefix _ _)
      dsimp only [encBit] at hy
      have hbit : bits .and .u8 ((b[k / 8].toNat : Int) / 2 ^ (7 - k % 8)) 1 % 4294967296 = (bitAt b k : Int) := by
        have hx1 := (b[k / 8]).toNat_lt
        have hx2 : (b[k / 8]).toNat / 2 ^ (7 - k % 8) < 256 := Nat.lt_of_le_of_lt (Nat.div_le_self _ _) hx1
        rw [pow_cast, and1_u8 _ hx2]
        unfold bitAt
        rw [show b.getD (k / 8) 0 = b[k / 8]'(by rw [hl]; exact hk8) by simp [List.getD, hl, hk8]]
        omega
      gi_wp2
      refine hRo.mono ?_
      rintro e W3 (⟨rfl, hJ3, hk3⟩ | ⟨rfl, hJx3⟩)
      · have hc3 := hk3.1 _ hc
        have hR3 := hk3.2 hR
        rw [bitsL_take b k (by rw [hl]; exact hlt)] at hJ3
        clear hk3 hbit hy hRo hx
        gi_wp2
        go_roundw
        case rel => exact ⟨k + 1, by omega, by go_num, hJ3, hc3, hR3⟩
        case measure => simp [intOf]; omega
      · gi_wp2
        refine bodyPost_ret (results_none rfl _ _ _) rfl ?_
        exact ⟨⟨_, rfl⟩, .inr ⟨_, by rw [bitsL_take b k (by rw [hl]; exact hlt)]; exact List.take_prefix _ _, hJx3⟩⟩
    · obtain rfl : k = n * 8 := by omega
      gi_wp2
      go_end0
      exact ⟨⟨_, rfl⟩, .inl (by rw [List.take_of_length_le (by simp [bitsL, hl])] at hJ; exact hJ)⟩
end Go.Proofs.Sl

/- fors: the digits of bytes. -/
namespace Go.Proofs.Sl
open Go.RowKit Go.Proofs
attribute [local go_sem] Oper.semAt_some

theorem made_replicate32 (n : Nat) : madeCells #[Value.int .u32 0] n = Array.replicate n (.int .u32 0) := by
  apply Array.ext
  · simp [size_madeCells]
  · intro i h1 h2
    simp [madeCells, Nat.mod_one]

theorem bits_any (A : Option Addr) (n c : Nat) (w : World) :
    Calls Tryz.prog 99 #[.slice A n c] w (fun e w' => ∃ Bb, e = .returned (.func (.func 113) #[] #[.pointer (some ⟨Bb, 0, none⟩)]) ∧ w.heap.size ≤ Bb ∧ w'.cell? ⟨Bb, 0, none⟩ = some (.slice A n c) ∧ Grow w w') := by
  go_enter Tryz.func99, Tryz.ntmps99
  go_wp2
  go_ret
  exact ⟨_, rfl, Nat.le_refl _, by go_simp, (Below.refl _ _).alloc (Nat.le_refl _) _⟩

/-- The digits when so many bits have come. -/
def digTo (f : Few) (b : List UInt8) (j : Nat) : List Nat := (List.range f.K).map fun k => digitTo f.A b k (min f.A (j - k * f.A))

theorem digitTo_lt (A : Nat) (b : List UInt8) (k : Nat) : ∀ t, digitTo A b k t < 2 ^ t
  | 0 => by simp [digitTo]
  | t + 1 => by
    have h1 := digitTo_lt A b k t
    have h2 := bitAt_lt b (k * A + t)
    unfold digitTo
    rw [Nat.pow_succ]
    omega
theorem digTo_length (f : Few) (b : List UInt8) (j : Nat) : (digTo f b j).length = f.K := by simp [digTo]
theorem digTo_at (f : Few) (b : List UInt8) (j k : Nat) (h : k < f.K) : (digTo f b j)[k]'(by rw [digTo_length]; exact h) = digitTo f.A b k (min f.A (j - k * f.A)) := by simp [digTo]
theorem digTo_step (f : Few) (b : List UInt8) (j : Nat) (hA : 0 < f.A) : (digTo f b j).set (j / f.A) (2 * digitTo f.A b (j / f.A) (j % f.A) + bitAt b j) = digTo f b (j + 1) := by
  apply List.ext_getElem
  · simp [digTo_length]
  · intro k h1 h2
    have hk : k < f.K := by rw [digTo_length] at h2; exact h2
    rw [digTo_at f b (j + 1) k hk]
    have hd := Nat.div_add_mod j f.A
    have hm := Nat.mod_lt j hA
    by_cases e : j / f.A = k
    · subst e
      rw [List.getElem_set_self]
      have hc : j / f.A * f.A = f.A * (j / f.A) := Nat.mul_comm _ _
      have : min f.A (j + 1 - j / f.A * f.A) = j % f.A + 1 := by rw [hc]; omega
      rw [this]
      rw [show digitTo f.A b (j / f.A) (j % f.A + 1) = 2 * digitTo f.A b (j / f.A) (j % f.A) + bitAt b (j / f.A * f.A + j % f.A) from rfl, hc, hd]
    · rw [List.getElem_set_ne e, digTo_at f b j k hk]
      congr 1
      rcases Nat.lt_or_ge k (j / f.A) with h | h
      · have h3 : (k + 1) * f.A ≤ j / f.A * f.A := Nat.mul_le_mul_right _ h
        have h4 : (k + 1) * f.A = k * f.A + f.A := Nat.succ_mul _ _
        have hc : j / f.A * f.A = f.A * (j / f.A) := Nat.mul_comm _ _
        omega
      · have h3 : (j / f.A + 1) * f.A ≤ k * f.A := Nat.mul_le_mul_right _ (by omega)
        have h4 : (j / f.A + 1) * f.A = j / f.A * f.A + f.A := Nat.succ_mul _ _
        have hc : j / f.A * f.A = f.A * (j / f.A) := Nat.mul_comm _ _
        omega
theorem digTo_zero (f : Few) (b : List UInt8) : digTo f b 0 = List.replicate f.K 0 := by
  apply List.ext_getElem
  · simp [digTo_length]
  · intro k h1 h2
    rw [digTo_at f b 0 k (by simpa using h2)]
    simp [digitTo]
theorem digTo_full (f : Few) (b : List UInt8) : digTo f b (f.K * f.A) = fDigits f b := by
  unfold digTo fDigits
  apply List.map_congr_left
  intro k hk
  have hk : k < f.K := List.mem_range.1 hk
  have h3 : (k + 1) * f.A ≤ f.K * f.A := Nat.mul_le_mul_right _ hk
  have h4 : (k + 1) * f.A = k * f.A + f.A := Nat.succ_mul _ _
  have : min f.A (f.K * f.A - k * f.A) = f.A := by omega
  rw [this]
theorem bits_next {b : List UInt8} {pre : List (Nat × Nat)} {x : Nat × Nat} (h : pre ++ [x] <+: bitsL b) : pre.length < b.length * 8 ∧ x = (pre.length, bitAt b pre.length) := by
  have h1 := h.length_le
  have h2 : (bitsL b).length = b.length * 8 := by simp [bitsL]
  simp at h1
  have hl : pre.length < b.length * 8 := by omega
  refine ⟨hl, ?_⟩
  have h3 := h.getElem (i := pre.length) (by simp)
  simp [bitsL] at h3
  exact h3

set_option maxHeartbeats 4000000 in
theorem digits_any (f : Few) (A : Option Addr) (n c : Nat) (b : List UInt8) (w : World) (hf : FewOk f) (hr : Rd eB w A n b) (hn : n ≤ 1048576) (hlen : f.K * f.A ≤ b.length * 8) :
    Calls Tryz.prog 62 #[vFew f, .slice A n c] w (RetOwn eU w (fDigits f b)) := by
  have hK1 := hf.K1; have hK2 := hf.K2; have hA1 := hf.A1; have hA2 := hf.A2
  have hbl := hr.len
  have hmk := run_make_row' (P := Tryz.prog) 90 27 (.int .u32 0) 4 Tryz.underlying90 infoW rfl .i64 .i64 f.K (by omega) (by omega)
  simp only [made_replicate32] at hmk
  have HM := Lib.hid (fun w => mayI_ok hf ▸ may_any f.N f.L f.H f.K f.A w)
  have HR := Lib.hid hr
  have hKA : f.K * f.A ≤ 560 := Nat.le_trans (Nat.mul_le_mul hK2 hA2) (by omega)
  have e0 : ((f.K : Int) * (f.A : Int)) = ((f.K * f.A : Nat) : Int) := by rw [Int.natCast_mul]
  have e1 : (decide ((n : Int) * 8 < (f.K : Int) * (f.A : Int))) = false := by rw [e0]; simp; omega
  unfold vFew
  unfold vFewI at HM
  have E0 := Lib.hid e0
  clear hr e0
  refine (callsIn_wide (n := 3)).1 ?_
  refine callsIn_of_wp_marks Tryz.func62 rfl trivial ?_ rfl
  simp only [Tryz.ntmps62, List.size_toArray, List.length_cons, List.length_nil, Nat.reduceAdd, Nat.reduceSub, Array.replicate_succ, Array.replicate_zero, List.push_toArray, List.append_toArray, List.nil_append, List.cons_append]
  gi_wp2_with fail
  refine ⟨trivial, ?_⟩
  refine (callsIn_wide.2 (HM.out _)).mono ?_
  rintro e w1 ⟨rfl, hB⟩
  have g1 : Grow w w1 := ((Below.refl _ w).alloc (Nat.le_refl _) _).trans (hB.mono (by simp))
  have k3 : w1.cell? ⟨w.heap.size, 3, none⟩ = some (.int .i64 (f.K : Int)) := (hB.cell (by simp)).trans (by go_simp)
  have k4 : w1.cell? ⟨w.heap.size, 4, none⟩ = some (.int .i64 (f.A : Int)) := (hB.cell (by simp)).trans (by go_simp)
  have hs0 : w.heap.size < w1.heap.size := by have := hB.size; simp at this; omega
  clear hB
  gi_wp2_with fail
  refine ⟨trivial, ?_⟩
  generalize hW2 : World.alloc (World.alloc w1 _) _ = w2
  have ho : Own eU w1.heap.size w2 (some ⟨w1.heap.size, 0, none⟩) f.K f.K (List.replicate f.K 0) := by
    have e : Own eU w1.heap.size (w1.alloc (.cells ((List.replicate f.K (0 : Nat)).map eU).toArray 27)) (some ⟨w1.heap.size, 0, none⟩) (List.replicate f.K (0 : Nat)).length (List.replicate f.K (0 : Nat)).length (List.replicate f.K (0 : Nat)) :=
      Own.new w1 _ _ (Nat.le_refl _) (by simp; omega)
    simp only [List.length_replicate, List.map_replicate, List.toArray_replicate] at e
    rw [← hW2]
    exact e.alloc _
  have hc2 : w2.cell? ⟨w1.heap.size + 1, 0, none⟩ = some (.slice (some ⟨w1.heap.size, 0, none⟩) f.K f.K) := by subst hW2; go_simp
  have g2 : Below w1.heap.size w1 w2 := by rw [← hW2]; exact ((Below.refl _ _).alloc (Nat.le_refl _) _).alloc (by simp) _
  have hz2 : w1.heap.size + 1 < w2.heap.size := by rw [← hW2]; simp
  clear hW2
  refine (callsIn_wide.2 (bits_any A n c w2)).mono ?_
  rintro e w3 ⟨Bb, rfl, hBb, hcb, g3⟩
  have ho3 := ho.below g3
  have hc3 := cell_old g3 hc2
  have gg : Below w1.heap.size w1 w3 := g2.trans (g3.mono g2.size)
  have hz3 := g3.size
  clear ho hc2 g3
  have HK := Lib.hid (And.intro k3 k4)
  clear k3 k4
  gi_wp2_with fail
  obtain ⟨hK3, hK4⟩ := HK.out
  clear HK
  refine wpIn_rangeFunc_st (Kp := KpBox eB Bb A n b) (St := fun _ _ => False) (xs := bitsL b) rfl (by omega) (gf := 113) (lb := #[.pointer (some ⟨Bb, 0, none⟩)]) rfl trivial (enters_of Tryz.func113 (by kernel_rfl) rfl)
    (bits_seq 2 (by omega) Bb A n c b w3 hcb (HR.out.below (g1.trans _ _ _ gg)) hn) (fun _ _ h => h.elim) (fun h k => h.trans k) (fun W l o o' _ h ho _ => KpBox.put W l o o' h ho) (fun _ => rfl)
    (fun pre W => (pre.length ≤ f.K * f.A ∧ Own eU w1.heap.size W (some ⟨w1.heap.size, 0, none⟩) f.K f.K (digTo f b pre.length) ∧ W.cell? ⟨w1.heap.size + 1, 0, none⟩ = some (.slice (some ⟨w1.heap.size, 0, none⟩) f.K f.K)) ∧ Below w1.heap.size w1 W)
    (fun c pre W => (c = .exit 0 ∧ Own eU w1.heap.size W (some ⟨w1.heap.size, 0, none⟩) f.K f.K (fDigits f b) ∧ W.cell? ⟨w1.heap.size + 1, 0, none⟩ = some (.slice (some ⟨w1.heap.size, 0, none⟩) f.K f.K)) ∧ Below w1.heap.size w1 W)
    (OwnFrom.and (Own.from (fun s A B row hs hg hr => ⟨hs.1, hs.2.1.kept hg hr, cell_kept hs.2.2 hg hr⟩) _) (ownFrom_below (by omega) (by omega)))
    (fun c => OwnFrom.and (Own.from (fun s A B row hs hg hr => ⟨hs.1, hs.2.1.kept hg hr, cell_kept hs.2.2 hg hr⟩) _) (ownFrom_below (by omega) (by omega)))
    (fun _ _ _ _ h => h.elim)
    ⟨⟨Nat.zero_le _, by rw [List.length_nil, digTo_zero]; exact ho3, hc3⟩, gg⟩
    (fun x => { tmps := #[.agg #[.int .i64 (f.N : Int), .int .i64 (f.L : Int), .int .i64 (f.H : Int), .int .i64 (f.K : Int), .int .i64 (f.A : Int)], .slice A n c, .pointer (some ⟨w.heap.size, 0, none⟩), undef, .slice none 0 0, .pointer (some ⟨w1.heap.size + 1, 0, none⟩), .int .i64 (x.1 : Int), .int .u32 (x.2 : Int), .agg #[.int .i64 (f.N : Int), .int .i64 (f.L : Int), .int .i64 (f.H : Int), .int .i64 (f.K : Int), .int .i64 (f.A : Int)], .bool true, .bool false, .bool false, .slice A n c, .int .i64 (n : Int), .int .i64 ((n : Int) * 8), .pointer (some ⟨w.heap.size, 3, none⟩), .int .i64 (f.K : Int), .pointer (some ⟨w.heap.size, 4, none⟩), .int .i64 (f.A : Int), .int .i64 ((f.K : Int) * (f.A : Int)), .bool false, .bool false, .pointer (some ⟨w.heap.size, 3, none⟩), .int .i64 (f.K : Int), .slice (some ⟨w1.heap.size, 0, none⟩) f.K f.K, .slice A n c, .func (.func 113) #[] #[.pointer (some ⟨Bb, 0, none⟩)], .int .i64 (x.1 : Int), .int .u32 (x.2 : Int), undef, undef, undef, undef, undef, undef, undef, undef, undef, undef, undef, undef, undef, undef, undef, undef, undef, undef, undef, undef, undef, undef, undef, undef], defers := [] }) ?assign ?body ?done ?stop
  case assign =>
    intro l x W K hK
    gi_wp2
    exact hK
  case body =>
    rintro l pre x W ⟨⟨hp, ho, hc⟩, hB⟩ hpre
    obtain ⟨hlt, rfl⟩ := bits_next hpre
    have c3 := (hB.cell (p := ⟨w.heap.size, 3, none⟩) (by omega)).trans hK3
    have c4 := (hB.cell (p := ⟨w.heap.size, 4, none⟩) (by omega)).trans hK4
    have hPL : pre.length ≤ 560 := by omega
    by_cases hj : pre.length = f.K * f.A
    · have e2 : ((pre.length : Int) == (f.K : Int) * (f.A : Int)) = true := by rw [E0.out, hj]; simp
      have HJ := Lib.hid hj
      have HO := Lib.hid ho
      clear hj ho hp hpre
      gi_wp2
      exact ⟨KeepsOthers.refl _, ⟨rfl, by rw [← digTo_full, ← HJ.out]; exact HO.out, hc⟩, hB⟩
    · have e2 : ((pre.length : Int) == (f.K : Int) * (f.A : Int)) = false := by rw [E0.out]; simp; omega
      have hjl : pre.length < f.K * f.A := by omega
      have hkK : pre.length / f.A < f.K := by rw [Nat.div_lt_iff_lt_mul (by omega)]; exact hjl
      have hcell := ho.cell_at (pre.length / f.A) hkK
      rw [digTo_at f b _ _ hkK] at hcell
      have hmn : min f.A (pre.length - pre.length / f.A * f.A) = pre.length % f.A := by
        have hd := Nat.div_add_mod pre.length f.A
        have hm := Nat.mod_lt pre.length (show 0 < f.A by omega)
        rw [Nat.mul_comm (pre.length / f.A)]
        omega
      rw [hmn] at hcell
      have hst := digTo_step f b pre.length (by omega)
      have hdl := digitTo_lt f.A b (pre.length / f.A) (pre.length % f.A)
      have hp14 : 2 ^ (pre.length % f.A) ≤ 16384 := by
        have hm := Nat.mod_lt pre.length (show 0 < f.A by omega)
        calc 2 ^ (pre.length % f.A) ≤ 2 ^ 14 := Nat.pow_le_pow_right (by omega) (by omega)
          _ = 16384 := by decide
      generalize hd : digitTo f.A b (pre.length / f.A) (pre.length % f.A) = d at *
      have hd2 : d < 16384 := by omega
      have hbt := bitAt_lt b pre.length
      have hfr := ho.free_at (pre.length / f.A) hkK
      have hq : (pre.length : Int) / (f.A : Int) = ((pre.length / f.A : Nat) : Int) := by rw [Int.natCast_ediv]
      generalize hkk : pre.length / f.A = kk at *
      have hor := or_u32 d (bitAt b pre.length) 1 (by omega) (by omega)
      rw [show d * 2 ^ 1 = d * 2 by rfl, show d * 2 + bitAt b pre.length = 2 * d + bitAt b pre.length by omega, Int.natCast_mul] at hor
      generalize hv : 2 * d + bitAt b pre.length = v at *
      have hor' : bits .or .u32 ((d : Int) * 2) (bitAt b pre.length : Int) = (v : Int) := hor
      have HST := Lib.hid hst
      have HB := Lib.hid hB
      have HO := Lib.hid ho
      clear hst hdl hp14 hd hmn ho hB hpre hp hj hkk hor hv
      gi_wp2_with fail
      refine wpIn_region_rg (fun ⟨_, _, h⟩ => h) (by kernel_rfl) Grow 53 15 12 [[], [], [], [], [], [], [], [], [], [], [], [], [], [], []]
        [.still [] (.slice (some ⟨w1.heap.size, 0, none⟩) f.K f.K), .still [] (.int .i64 (pre.length : Int)), .still [] (.pointer (some ⟨w.heap.size, 4, none⟩)), .still [] (.int .i64 (f.A : Int)), .still [] (.int .i64 (kk : Int)), .still [] (.slice (some ⟨w1.heap.size, 0, none⟩) f.K f.K), .still [] (.int .i64 (pre.length : Int)), .still [] (.pointer (some ⟨w.heap.size, 4, none⟩)), .still [] (.int .i64 (f.A : Int)), .still [] (.int .i64 (kk : Int)), .still [] (.pointer (some ⟨w1.heap.size, kk, none⟩)), .still [] (.int .u32 (d : Int)), .still [] (.int .u32 ((d : Int) * 2)), .still [] (.int .u32 (bitAt b pre.length : Int)), .still [] (.int .u32 (v : Int))] (by kernel_rfl) (by kernel_rfl) rfl rfl rfl Grow.trans (Grow.refl _) ?_
      refine Obl.still (fun W' hg _ => ?_) ?_
      · have q0 := cell_old hg hc; have q1 := cell_old hg c4; have q2 := cell_old hg hcell; clear hg hc c3 c4 hcell
        go_wp2
        exact ⟨rfl, rfl, rfl, Grow.refl _⟩
      simp only [Act.put, List.setIfInBounds_toArray, List.set_cons_zero, List.set_cons_succ]
      refine Obl.still (fun W' hg _ => ?_) ?_
      · have q0 := cell_old hg hc; have q1 := cell_old hg c4; have q2 := cell_old hg hcell; clear hg hc c3 c4 hcell
        go_wp2
        exact ⟨rfl, rfl, rfl, Grow.refl _⟩
      simp only [Act.put, List.setIfInBounds_toArray, List.set_cons_zero, List.set_cons_succ]
      refine Obl.still (fun W' hg _ => ?_) ?_
      · have q0 := cell_old hg hc; have q1 := cell_old hg c4; have q2 := cell_old hg hcell; clear hg hc c3 c4 hcell
        go_wp2
        exact ⟨rfl, rfl, rfl, Grow.refl _⟩
      simp only [Act.put, List.setIfInBounds_toArray, List.set_cons_zero, List.set_cons_succ]
      refine Obl.still (fun W' hg _ => ?_) ?_
      · have q0 := cell_old hg hc; have q1 := cell_old hg c4; have q2 := cell_old hg hcell; clear hg hc c3 c4 hcell
        go_wp2
        exact ⟨rfl, rfl, rfl, Grow.refl _⟩
      simp only [Act.put, List.setIfInBounds_toArray, List.set_cons_zero, List.set_cons_succ]
      refine Obl.still (fun W' hg _ => ?_) ?_
      · have q0 := cell_old hg hc; have q1 := cell_old hg c4; have q2 := cell_old hg hcell; clear hg hc c3 c4 hcell
        go_wp2
        exact ⟨rfl, rfl, rfl, Grow.refl _⟩
      simp only [Act.put, List.setIfInBounds_toArray, List.set_cons_zero, List.set_cons_succ]
      refine Obl.still (fun W' hg _ => ?_) ?_
      · have q0 := cell_old hg hc; have q1 := cell_old hg c4; have q2 := cell_old hg hcell; clear hg hc c3 c4 hcell
        go_wp2
        exact ⟨rfl, rfl, rfl, Grow.refl _⟩
      simp only [Act.put, List.setIfInBounds_toArray, List.set_cons_zero, List.set_cons_succ]
      refine Obl.still (fun W' hg _ => ?_) ?_
      · have q0 := cell_old hg hc; have q1 := cell_old hg c4; have q2 := cell_old hg hcell; clear hg hc c3 c4 hcell
        go_wp2
        exact ⟨rfl, rfl, rfl, Grow.refl _⟩
      simp only [Act.put, List.setIfInBounds_toArray, List.set_cons_zero, List.set_cons_succ]
      refine Obl.still (fun W' hg _ => ?_) ?_
      · have q0 := cell_old hg hc; have q1 := cell_old hg c4; have q2 := cell_old hg hcell; clear hg hc c3 c4 hcell
        go_wp2
        exact ⟨rfl, rfl, rfl, Grow.refl _⟩
      simp only [Act.put, List.setIfInBounds_toArray, List.set_cons_zero, List.set_cons_succ]
      refine Obl.still (fun W' hg _ => ?_) ?_
      · have q0 := cell_old hg hc; have q1 := cell_old hg c4; have q2 := cell_old hg hcell; clear hg hc c3 c4 hcell
        go_wp2
        exact ⟨rfl, rfl, rfl, Grow.refl _⟩
      simp only [Act.put, List.setIfInBounds_toArray, List.set_cons_zero, List.set_cons_succ]
      refine Obl.still (fun W' hg _ => ?_) ?_
      · have q0 := cell_old hg hc; have q1 := cell_old hg c4; have q2 := cell_old hg hcell; clear hg hc c3 c4 hcell
        go_wp2
        exact ⟨rfl, rfl, rfl, Grow.refl _⟩
      simp only [Act.put, List.setIfInBounds_toArray, List.set_cons_zero, List.set_cons_succ]
      refine Obl.still (fun W' hg _ => ?_) ?_
      · have q0 := cell_old hg hc; have q1 := cell_old hg c4; have q2 := cell_old hg hcell; clear hg hc c3 c4 hcell
        go_wp2
        exact ⟨rfl, rfl, rfl, Grow.refl _⟩
      simp only [Act.put, List.setIfInBounds_toArray, List.set_cons_zero, List.set_cons_succ]
      refine Obl.still (fun W' hg _ => ?_) ?_
      · have q0 := cell_old hg hc; have q1 := cell_old hg c4; have q2 := cell_old hg hcell; clear hg hc c3 c4 hcell
        go_wp2
        exact ⟨rfl, rfl, rfl, Grow.refl _⟩
      simp only [Act.put, List.setIfInBounds_toArray, List.set_cons_zero, List.set_cons_succ]
      refine Obl.still (fun W' hg _ => ?_) ?_
      · have q0 := cell_old hg hc; have q1 := cell_old hg c4; have q2 := cell_old hg hcell; clear hg hc c3 c4 hcell
        go_wp2
        exact ⟨rfl, rfl, rfl, Grow.refl _⟩
      simp only [Act.put, List.setIfInBounds_toArray, List.set_cons_zero, List.set_cons_succ]
      refine Obl.still (fun W' hg _ => ?_) ?_
      · have q0 := cell_old hg hc; have q1 := cell_old hg c4; have q2 := cell_old hg hcell; clear hg hc c3 c4 hcell
        go_wp2
        exact ⟨rfl, rfl, rfl, Grow.refl _⟩
      simp only [Act.put, List.setIfInBounds_toArray, List.set_cons_zero, List.set_cons_succ]
      refine Obl.still (fun W' hg _ => ?_) ?_
      · have q0 := cell_old hg hc; have q1 := cell_old hg c4; have q2 := cell_old hg hcell; clear hg hc c3 c4 hcell
        go_wp2
        exact ⟨rfl, rfl, rfl, Grow.refl _⟩
      simp only [Act.put, List.setIfInBounds_toArray, List.set_cons_zero, List.set_cons_succ]
      refine Obl.done (fun W' hg hall => ?_)
      have hg' : Below W.heap.size W W' := (Below.refl _ W).drew.trans hg
      have hz : w1.heap.size + 1 < W.heap.size := by have := HB.out.size; have := World.block_lt_of_cell? W _ hc; exact this
      have ho' := HO.out.below hg'
      have hcell' := cell_old hg' hcell
      have hfr' := ho'.free_at kk hkK
      have hset := ho'.set kk hkK v
      rw [HST.out] at hset
      have hc' := cell_old hg' hc
      have hbel := ((HB.out.trans (hg'.mono HB.out.size))).setCell (p := ⟨w1.heap.size, kk, none⟩) (Nat.le_refl _) (eU v)
      have hko : KeepsOthers W (W'.setCell ⟨w1.heap.size, kk, none⟩ (eU v)) := (keeps_below hg').trans (KeepsOthers.setCell _ _ _)
      have hbox : KpBox eB Bb A n b W (W'.setCell ⟨w1.heap.size, kk, none⟩ (eU v)) := by
        refine ⟨fun u hu => ?_, fun _ => HR.out.below (g1.trans _ _ _ hbel)⟩
        rw [World.cell?_of_block (w := W') (a := ⟨Bb, 0, none⟩) (block_set _ _ _ _ (show Bb ≠ w1.heap.size by omega))]
        exact cell_old hg' hu
      have hcf : (W'.setCell ⟨w1.heap.size, kk, none⟩ (eU v)).cell? ⟨w1.heap.size + 1, 0, none⟩ = some (.slice (some ⟨w1.heap.size, 0, none⟩) f.K f.K) := by
        rw [World.cell?_of_block (w := W') (a := ⟨w1.heap.size + 1, 0, none⟩) (block_set _ _ _ _ (show w1.heap.size + 1 ≠ w1.heap.size by omega))]
        exact hc'
      have HF := Lib.hid (And.intro hko (And.intro hbox (And.intro hset (And.intro hcf hbel))))
      clear hko hbox hset hcf hbel hg hg' ho' hc hc' hcell c3 c4 hfr
      go_wp2
      obtain ⟨h1, h2, h3, h4, h5⟩ := HF.out
      exact ⟨h1, h2, ⟨by simp; omega, by rw [List.length_append]; exact h3, h4⟩, h5⟩
  case done =>
    rintro D W hD ⟨⟨hp, ho, hc⟩, hB⟩ hK
    have hl : (bitsL b).length = b.length * 8 := by simp [bitsL]
    have hfull : (bitsL b).length = f.K * f.A := by omega
    rw [hfull, digTo_full] at ho
    gi_wp2
    refine ⟨by simp, .inl ⟨_, _, rfl, run_takeDeferred hK, ?_⟩⟩
    exact ⟨_, results_tmp rfl _ _ _, _, _, _, rfl, (ho.kept (grownBy_putObj' W D _) (fun r e => by cases e; exact ⟨_, hK, rfl⟩)).mono (by omega), Below.trans (g1.trans _ _ _ hB) (belowK_b (w := w) (Nat.le_refl _) W D _ _ (by omega) hK rfl rfl)⟩
  case stop =>
    rintro D c pre W hD hpre ⟨⟨rfl, ho, hc⟩, hB⟩ hK
    gi_wp2
    refine ⟨by simp, .inl ⟨_, _, rfl, run_takeDeferred hK, ?_⟩⟩
    exact ⟨_, results_tmp rfl _ _ _, _, _, _, rfl, (ho.kept (grownBy_putObj' W D _) (fun r e => by cases e; exact ⟨_, hK, rfl⟩)).mono (by omega), Below.trans (g1.trans _ _ _ hB) (belowK_b (w := w) (Nat.le_refl _) W D _ _ (by omega) hK rfl rfl)⟩
end Go.Proofs.Sl
