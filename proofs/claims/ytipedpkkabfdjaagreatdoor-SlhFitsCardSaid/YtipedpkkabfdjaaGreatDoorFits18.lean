/- slh: the root to which what a leaf signed leads. -/
import Derived.Test.YtipedpkkabfdjaaGreatDoorFits17
import Derived.Test.YtipedpkkabfdjaaGreatDoorFits16
namespace Go.Proofs.Sl
open Go.RowKit Go.Proofs

/-- A new variable. -/
def BoxV (z : Value) (B : Nat) (v : Value) (w : World) : Prop := ∃ b, v = .pointer (some ⟨b, 0, none⟩) ∧ B ≤ b ∧ w.cell? ⟨b, 0, none⟩ = some z ∧ w.frozen? ⟨b, 0, none⟩ = false ∧ w.cell? ⟨b, 1, none⟩ = none
theorem BoxV.new {B : Nat} (W : World) (z : Value) (e : TypeId) (h : B ≤ W.heap.size) : BoxV z B (.pointer (some ⟨W.heap.size, 0, none⟩)) (W.alloc (.cells #[z] e)) :=
  ⟨_, rfl, h, by rw [cell_new]; rfl, frozen_new .., by rw [cell_new]; rfl⟩
theorem BoxV.keep {z : Value} {B : Nat} (v : Value) (w w' : World) (h : BoxV z B v w) (hg : Grow w w') : BoxV z B v w' := by
  obtain ⟨b, e, h1, h2, h3, h4⟩ := h
  have hl := World.block_lt_of_cell? w _ h2
  exact ⟨b, e, h1, cell_old hg h2, (World.frozen?_of_block (w := w) (a := ⟨b, 0, none⟩) (hg.block b hl)).trans h3, (World.cell?_of_block (w := w) (a := ⟨b, 1, none⟩) (hg.block b hl)).trans h4⟩

theorem Own.neOne {α : Type} {enc : α → Value} {B n c : Nat} {w : World} {A : Option Addr} {l : List α} {b : Nat} (h : Own enc B w A n c l) (hn : 2 ≤ n) (hv : w.cell? ⟨b, 1, none⟩ = none) : A ≠ some ⟨b, 0, none⟩ := by
  intro e
  subst e
  have := h.cell_at 1 (by omega)
  rw [hv] at this
  cases this

set_option maxHeartbeats 2000000 in
theorem leads1_any (f : Few) (A As Ad : Option Addr) (n c ns cs nd cd : Nat) (seed sig of : List UInt8) (layer tree q i Bs Bd Bt Bn : Nat) (w : World) (hG : SG f A n seed layer tree w) (hq : q < 4294967296) (hi : i < (digAll of).length) (hi2 : i < chainsL f.N) (hS : SBox f A n c layer tree q Bs w) (hD : w.cell? ⟨Bd, 0, none⟩ = some (.slice Ad nd cd)) (hd : Rd eN w Ad nd (digAll of))
    (hT : w.cell? ⟨Bt, 0, none⟩ = some (.slice As ns cs)) (hx : Rd eB w As ns sig) (hxl : chainsL f.N * f.N ≤ sig.length) (hsl : sig.length ≤ 100000) (hcs : ns ≤ cs) (hn : w.cell? ⟨Bn, 0, none⟩ = some (.int .i64 (f.N : Int))) :
    Calls Tryz.prog 90 #[.int .i64 (i : Int), .pointer (some ⟨Bs, 0, none⟩), .pointer (some ⟨Bd, 0, none⟩), .pointer (some ⟨Bt, 0, none⟩), .pointer (some ⟨Bn, 0, none⟩)] w (RetRd eB w (upL f.N seed layer tree q i ((digAll of).getD i 0) (cutL sig (i * f.N) ((i + 1) * f.N)) (15 - (digAll of).getD i 0))) := by
  have HG := Lib.hid hG
  have HX := Lib.hid hx
  have HQ := Lib.hid hq
  have HS := Lib.hid hS
  have hN := hG.ok.N.le'
  have hN1 := hG.ok.N.pos'
  have hi3 : i ≤ 67 := by unfold chainsL at hi2; omega
  have hxl2 := hx.len
  have hind : i < nd := by rw [← hd.len]; exact hi
  obtain ⟨ad, rfl, hcd⟩ := hd.at i hind
  have hdv : (digAll of)[i]'hi = (digAll of).getD i 0 := by rw [List.getD_eq_getElem?_getD, List.getElem?_eq_getElem hi, Option.getD_some]
  rw [hdv] at hcd
  have hlt := digAll_getD_lt of i
  generalize (digAll of).getD i 0 = d at *
  rw [Nat.succ_mul]
  have hlo2 : i * f.N + f.N ≤ sig.length := Nat.le_trans (by rw [← Nat.succ_mul]; exact Nat.mul_le_mul_right _ hi2) hxl
  have hloc : (i : Int) * (f.N : Int) = ((i * f.N : Nat) : Int) := by rw [Int.natCast_mul]
  generalize i * f.N = lo at *
  have hlo1 : (i : Int) * (f.N : Int) = (lo : Int) := hloc
  have hhi1 : ((i : Int) + 1) * (f.N : Int) = (lo : Int) + (f.N : Int) := by rw [Int.add_mul, hlo1]; simp
  have hlo3 : lo + f.N ≤ ns := by omega
  have hns : ns ≤ 100000 := by omega
  clear hG hx hq hS hd hdv hi hxl hsl hxl2 hloc hlo2 hi2
  go_enter Tryz.func90, Tryz.ntmps90
  go_wp2
  have k0 : w.drew.cell? ⟨Bs, 0, none⟩ = some (.int .i64 (f.N : Int)) := HS.out.s0
  have k1 : w.drew.cell? ⟨Bs, 1, none⟩ = some (.int .i64 (f.L : Int)) := HS.out.s1
  have k2 : w.drew.cell? ⟨Bs, 2, none⟩ = some (.int .i64 (f.H : Int)) := HS.out.s2
  have k3 : w.drew.cell? ⟨Bs, 3, none⟩ = some (.int .i64 (f.K : Int)) := HS.out.s3
  have k4 : w.drew.cell? ⟨Bs, 4, none⟩ = some (.int .i64 (f.A : Int)) := HS.out.s4
  have k5 : w.drew.cell? ⟨Bs, 5, none⟩ = some (.slice A n c) := HS.out.s5
  have k6 : w.drew.cell? ⟨Bs, 6, none⟩ = some (.int .u32 (layer : Int)) := HS.out.s6
  have k7 : w.drew.cell? ⟨Bs, 7, none⟩ = some (.int .u64 (tree : Int)) := HS.out.s7
  have k8 : w.drew.cell? ⟨Bs, 8, none⟩ = some (.int .u32 (q : Int)) := HS.out.s8
  have k9 : w.drew.cell? ⟨Bt, 0, none⟩ = some (.slice As ns cs) := hT
  have k10 : w.drew.cell? ⟨Bd, 0, none⟩ = some (.slice (some ad) nd cd) := hD
  have k11 : w.drew.cell? (ad.add i) = some (.int .i64 (d : Int)) := hcd
  have k12 : w.drew.cell? ⟨Bn, 0, none⟩ = some (.int .i64 (f.N : Int)) := hn
  clear hT hD hcd hn
  refine wp_region_rg Grow 23 16 10 [[], [], [], [], [], [], [], [], [], [], [], [], [], [], [], []]
    [.still [] (.agg #[.int .i64 (f.N : Int), .int .i64 (f.L : Int), .int .i64 (f.H : Int), .int .i64 (f.K : Int), .int .i64 (f.A : Int), .slice A n c, .int .u32 (layer : Int), .int .u64 (tree : Int), .int .u32 (q : Int)]), .still [] (.int .i64 (i : Int)), .still [] (.slice (some ad) nd cd), .still [] (.int .i64 (i : Int)), .still [] (.pointer (some (ad.add i))), .still [] (.int .i64 (d : Int)), .still [] (.slice As ns cs), .still [] (.int .i64 (i : Int)), .still [] (.int .i64 (f.N : Int)), .still [] (.int .i64 (lo : Int)), .still [] (.int .i64 (i : Int)), .still [] (.int .i64 ((i : Int) + 1)), .still [] (.int .i64 (f.N : Int)), .still [] (.int .i64 ((lo : Int) + (f.N : Int))), .still [] (.slice (Option.map (fun x => x.add lo) As) f.N (cs - lo)), .grow [] (RdV eB (upL f.N seed layer tree q i d (cutL sig lo (lo + f.N)) (15 - d)))] (by kernel_rfl) (by kernel_rfl) rfl rfl rfl Grow.trans (Grow.refl _) ?_
  refine Obl.still (fun W hg _ => ?_) ?_
  · have c0 := cell_old hg k0; have c1 := cell_old hg k1; have c2 := cell_old hg k2; have c3 := cell_old hg k3; have c4 := cell_old hg k4; have c5 := cell_old hg k5; have c6 := cell_old hg k6; have c7 := cell_old hg k7; have c8 := cell_old hg k8; have c9 := cell_old hg k9; have c10 := cell_old hg k10; have c11 := cell_old hg k11; have c12 := cell_old hg k12; clear hg k0 k1 k2 k3 k4 k5 k6 k7 k8 k9 k10 k11 k12
    go_wp2
    exact ⟨rfl, rfl, rfl, Grow.refl _⟩
  simp only [Act.put, List.setIfInBounds_toArray, List.set_cons_zero, List.set_cons_succ]
  refine Obl.still (fun W hg _ => ?_) ?_
  · have c0 := cell_old hg k0; have c1 := cell_old hg k1; have c2 := cell_old hg k2; have c3 := cell_old hg k3; have c4 := cell_old hg k4; have c5 := cell_old hg k5; have c6 := cell_old hg k6; have c7 := cell_old hg k7; have c8 := cell_old hg k8; have c9 := cell_old hg k9; have c10 := cell_old hg k10; have c11 := cell_old hg k11; have c12 := cell_old hg k12; clear hg k0 k1 k2 k3 k4 k5 k6 k7 k8 k9 k10 k11 k12
    go_wp2
    exact ⟨rfl, rfl, rfl, Grow.refl _⟩
  simp only [Act.put, List.setIfInBounds_toArray, List.set_cons_zero, List.set_cons_succ]
  refine Obl.still (fun W hg _ => ?_) ?_
  · have c0 := cell_old hg k0; have c1 := cell_old hg k1; have c2 := cell_old hg k2; have c3 := cell_old hg k3; have c4 := cell_old hg k4; have c5 := cell_old hg k5; have c6 := cell_old hg k6; have c7 := cell_old hg k7; have c8 := cell_old hg k8; have c9 := cell_old hg k9; have c10 := cell_old hg k10; have c11 := cell_old hg k11; have c12 := cell_old hg k12; clear hg k0 k1 k2 k3 k4 k5 k6 k7 k8 k9 k10 k11 k12
    go_wp2
    exact ⟨rfl, rfl, rfl, Grow.refl _⟩
  simp only [Act.put, List.setIfInBounds_toArray, List.set_cons_zero, List.set_cons_succ]
  refine Obl.still (fun W hg _ => ?_) ?_
  · have c0 := cell_old hg k0; have c1 := cell_old hg k1; have c2 := cell_old hg k2; have c3 := cell_old hg k3; have c4 := cell_old hg k4; have c5 := cell_old hg k5; have c6 := cell_old hg k6; have c7 := cell_old hg k7; have c8 := cell_old hg k8; have c9 := cell_old hg k9; have c10 := cell_old hg k10; have c11 := cell_old hg k11; have c12 := cell_old hg k12; clear hg k0 k1 k2 k3 k4 k5 k6 k7 k8 k9 k10 k11 k12
    go_wp2
    exact ⟨rfl, rfl, rfl, Grow.refl _⟩
  simp only [Act.put, List.setIfInBounds_toArray, List.set_cons_zero, List.set_cons_succ]
  refine Obl.still (fun W hg _ => ?_) ?_
  · have c0 := cell_old hg k0; have c1 := cell_old hg k1; have c2 := cell_old hg k2; have c3 := cell_old hg k3; have c4 := cell_old hg k4; have c5 := cell_old hg k5; have c6 := cell_old hg k6; have c7 := cell_old hg k7; have c8 := cell_old hg k8; have c9 := cell_old hg k9; have c10 := cell_old hg k10; have c11 := cell_old hg k11; have c12 := cell_old hg k12; clear hg k0 k1 k2 k3 k4 k5 k6 k7 k8 k9 k10 k11 k12
    go_wp2
    exact ⟨rfl, rfl, rfl, Grow.refl _⟩
  simp only [Act.put, List.setIfInBounds_toArray, List.set_cons_zero, List.set_cons_succ]
  refine Obl.still (fun W hg _ => ?_) ?_
  · have c0 := cell_old hg k0; have c1 := cell_old hg k1; have c2 := cell_old hg k2; have c3 := cell_old hg k3; have c4 := cell_old hg k4; have c5 := cell_old hg k5; have c6 := cell_old hg k6; have c7 := cell_old hg k7; have c8 := cell_old hg k8; have c9 := cell_old hg k9; have c10 := cell_old hg k10; have c11 := cell_old hg k11; have c12 := cell_old hg k12; clear hg k0 k1 k2 k3 k4 k5 k6 k7 k8 k9 k10 k11 k12
    go_wp2
    exact ⟨rfl, rfl, rfl, Grow.refl _⟩
  simp only [Act.put, List.setIfInBounds_toArray, List.set_cons_zero, List.set_cons_succ]
  refine Obl.still (fun W hg _ => ?_) ?_
  · have c0 := cell_old hg k0; have c1 := cell_old hg k1; have c2 := cell_old hg k2; have c3 := cell_old hg k3; have c4 := cell_old hg k4; have c5 := cell_old hg k5; have c6 := cell_old hg k6; have c7 := cell_old hg k7; have c8 := cell_old hg k8; have c9 := cell_old hg k9; have c10 := cell_old hg k10; have c11 := cell_old hg k11; have c12 := cell_old hg k12; clear hg k0 k1 k2 k3 k4 k5 k6 k7 k8 k9 k10 k11 k12
    go_wp2
    exact ⟨rfl, rfl, rfl, Grow.refl _⟩
  simp only [Act.put, List.setIfInBounds_toArray, List.set_cons_zero, List.set_cons_succ]
  refine Obl.still (fun W hg _ => ?_) ?_
  · have c0 := cell_old hg k0; have c1 := cell_old hg k1; have c2 := cell_old hg k2; have c3 := cell_old hg k3; have c4 := cell_old hg k4; have c5 := cell_old hg k5; have c6 := cell_old hg k6; have c7 := cell_old hg k7; have c8 := cell_old hg k8; have c9 := cell_old hg k9; have c10 := cell_old hg k10; have c11 := cell_old hg k11; have c12 := cell_old hg k12; clear hg k0 k1 k2 k3 k4 k5 k6 k7 k8 k9 k10 k11 k12
    go_wp2
    exact ⟨rfl, rfl, rfl, Grow.refl _⟩
  simp only [Act.put, List.setIfInBounds_toArray, List.set_cons_zero, List.set_cons_succ]
  refine Obl.still (fun W hg _ => ?_) ?_
  · have c0 := cell_old hg k0; have c1 := cell_old hg k1; have c2 := cell_old hg k2; have c3 := cell_old hg k3; have c4 := cell_old hg k4; have c5 := cell_old hg k5; have c6 := cell_old hg k6; have c7 := cell_old hg k7; have c8 := cell_old hg k8; have c9 := cell_old hg k9; have c10 := cell_old hg k10; have c11 := cell_old hg k11; have c12 := cell_old hg k12; clear hg k0 k1 k2 k3 k4 k5 k6 k7 k8 k9 k10 k11 k12
    go_wp2
    exact ⟨rfl, rfl, rfl, Grow.refl _⟩
  simp only [Act.put, List.setIfInBounds_toArray, List.set_cons_zero, List.set_cons_succ]
  refine Obl.still (fun W hg _ => ?_) ?_
  · have c0 := cell_old hg k0; have c1 := cell_old hg k1; have c2 := cell_old hg k2; have c3 := cell_old hg k3; have c4 := cell_old hg k4; have c5 := cell_old hg k5; have c6 := cell_old hg k6; have c7 := cell_old hg k7; have c8 := cell_old hg k8; have c9 := cell_old hg k9; have c10 := cell_old hg k10; have c11 := cell_old hg k11; have c12 := cell_old hg k12; clear hg k0 k1 k2 k3 k4 k5 k6 k7 k8 k9 k10 k11 k12
    go_wp2
    exact ⟨rfl, rfl, rfl, Grow.refl _⟩
  simp only [Act.put, List.setIfInBounds_toArray, List.set_cons_zero, List.set_cons_succ]
  refine Obl.still (fun W hg _ => ?_) ?_
  · have c0 := cell_old hg k0; have c1 := cell_old hg k1; have c2 := cell_old hg k2; have c3 := cell_old hg k3; have c4 := cell_old hg k4; have c5 := cell_old hg k5; have c6 := cell_old hg k6; have c7 := cell_old hg k7; have c8 := cell_old hg k8; have c9 := cell_old hg k9; have c10 := cell_old hg k10; have c11 := cell_old hg k11; have c12 := cell_old hg k12; clear hg k0 k1 k2 k3 k4 k5 k6 k7 k8 k9 k10 k11 k12
    go_wp2
    exact ⟨rfl, rfl, rfl, Grow.refl _⟩
  simp only [Act.put, List.setIfInBounds_toArray, List.set_cons_zero, List.set_cons_succ]
  refine Obl.still (fun W hg _ => ?_) ?_
  · have c0 := cell_old hg k0; have c1 := cell_old hg k1; have c2 := cell_old hg k2; have c3 := cell_old hg k3; have c4 := cell_old hg k4; have c5 := cell_old hg k5; have c6 := cell_old hg k6; have c7 := cell_old hg k7; have c8 := cell_old hg k8; have c9 := cell_old hg k9; have c10 := cell_old hg k10; have c11 := cell_old hg k11; have c12 := cell_old hg k12; clear hg k0 k1 k2 k3 k4 k5 k6 k7 k8 k9 k10 k11 k12
    go_wp2
    exact ⟨rfl, rfl, rfl, Grow.refl _⟩
  simp only [Act.put, List.setIfInBounds_toArray, List.set_cons_zero, List.set_cons_succ]
  refine Obl.still (fun W hg _ => ?_) ?_
  · have c0 := cell_old hg k0; have c1 := cell_old hg k1; have c2 := cell_old hg k2; have c3 := cell_old hg k3; have c4 := cell_old hg k4; have c5 := cell_old hg k5; have c6 := cell_old hg k6; have c7 := cell_old hg k7; have c8 := cell_old hg k8; have c9 := cell_old hg k9; have c10 := cell_old hg k10; have c11 := cell_old hg k11; have c12 := cell_old hg k12; clear hg k0 k1 k2 k3 k4 k5 k6 k7 k8 k9 k10 k11 k12
    go_wp2
    exact ⟨rfl, rfl, rfl, Grow.refl _⟩
  simp only [Act.put, List.setIfInBounds_toArray, List.set_cons_zero, List.set_cons_succ]
  refine Obl.still (fun W hg _ => ?_) ?_
  · have c0 := cell_old hg k0; have c1 := cell_old hg k1; have c2 := cell_old hg k2; have c3 := cell_old hg k3; have c4 := cell_old hg k4; have c5 := cell_old hg k5; have c6 := cell_old hg k6; have c7 := cell_old hg k7; have c8 := cell_old hg k8; have c9 := cell_old hg k9; have c10 := cell_old hg k10; have c11 := cell_old hg k11; have c12 := cell_old hg k12; clear hg k0 k1 k2 k3 k4 k5 k6 k7 k8 k9 k10 k11 k12
    go_wp2
    exact ⟨rfl, rfl, rfl, Grow.refl _⟩
  simp only [Act.put, List.setIfInBounds_toArray, List.set_cons_zero, List.set_cons_succ]
  refine Obl.still (fun W hg _ => ?_) ?_
  · have c0 := cell_old hg k0; have c1 := cell_old hg k1; have c2 := cell_old hg k2; have c3 := cell_old hg k3; have c4 := cell_old hg k4; have c5 := cell_old hg k5; have c6 := cell_old hg k6; have c7 := cell_old hg k7; have c8 := cell_old hg k8; have c9 := cell_old hg k9; have c10 := cell_old hg k10; have c11 := cell_old hg k11; have c12 := cell_old hg k12; clear hg k0 k1 k2 k3 k4 k5 k6 k7 k8 k9 k10 k11 k12
    go_wp2
    exact ⟨rfl, rfl, rfl, Grow.refl _⟩
  simp only [Act.put, List.setIfInBounds_toArray, List.set_cons_zero, List.set_cons_succ]
  refine Obl.grow (RdV.keep _ _) (fun W hg _ => ?_) (fun v15 => ?_)
  · have hsl : Rd eB W (Option.map (fun x => x.add lo) As) f.N (cutL sig lo (lo + f.N)) := by (have := (HX.out.below ((Below.refl _ _).drew.trans hg)).sub lo (lo + f.N) (by omega) (by omega); rw [show lo + f.N - lo = f.N by omega] at this; exact this)
    have HC := Lib.hid (up_any f A (Option.map (fun x => x.add lo) As) n c f.N (cs - lo) seed (cutL sig lo (lo + f.N)) layer tree q i d 15 W (HG.out.below ((Below.refl _ _).drew.trans hg)) HQ.out (by omega) (by omega) (by omega) hsl (by rw [cutL_length _ _ _ (by omega) (by have := HX.out.len; omega)]; omega))
    unfold vSpot at HC
    clear hsl
    clear hg k0 k1 k2 k3 k4 k5 k6 k7 k8 k9 k10 k11 k12
    go_wp2_with fail
    refine HC.out.mono ?_
    rintro e w' ⟨A1, n1, c1, rfl, h1, h2⟩
    go_wp2
    exact ⟨rfl, rfl, ⟨_, _, _, rfl, h1⟩, h2⟩
  simp only [Act.put, List.setIfInBounds_toArray, List.set_cons_zero, List.set_cons_succ]
  refine Obl.done (fun W hg hall => ?_)
  obtain ⟨h7, _⟩ := hall
  obtain ⟨A', n', c', rfl, h7⟩ := h7
  have hB : Grow w W := (Below.refl _ _).drew.trans hg
  clear hg k0 k1 k2 k3 k4 k5 k6 k7 k8 k9 k10 k11 k12
  go_wp2
  go_ret
  exact ⟨_, _, _, rfl, h7, hB⟩

theorem sEnds_length (N : Nat) (seed : List UInt8) (layer tree q : Nat) (of sig : List UInt8) (h : N ≤ 136) : (sEnds N seed layer tree q of sig).length = N := tweakL_length _ _ _ _ h
theorem sClimb_length (N : Nat) (seed : List UInt8) (layer tree q : Nat) (leaf way : List UInt8) (h : N ≤ 136) (hl : leaf.length = N) : ∀ g, (sClimb N seed layer tree q leaf way g).length = N
  | 0 => hl
  | _ + 1 => tweakL_length _ _ _ _ h

set_option maxHeartbeats 4000000 in
theorem leads_any (f : Few) (A As Ao : Option Addr) (n c ns cs co : Nat) (seed sig of : List UInt8) (layer tree q : Nat) (w : World) (hG : SG f A n seed layer tree w) (hq : q < 4294967296) (hx : Rd eB w As ns sig) (hxl : sig.length = (chainsL f.N + f.H) * f.N) (hcs : ns ≤ cs) (ho : Rd eB w Ao f.N of) (hol : of.length = f.N) :
    Calls Tryz.prog 54 #[vSpot f A n c layer tree q, .slice Ao f.N co, .slice As ns cs] w (RetOwn eB w (sLeads f.N f.H seed layer tree q of sig)) := by
  have HG := Lib.hid hG
  have HX := Lib.hid hx
  have HO := Lib.hid ho
  have HQ := Lib.hid hq
  have hN := hG.ok.N.le'
  have hN1 := hG.ok.N.pos'
  have hH := hG.ok.H2
  have e1 : (f.H : Int) % 4294967296 = (f.H : Int) := by omega
  have HNN := Lib.hid hG.ok.N
  have HOL := Lib.hid hol
  have HXL := Lib.hid hxl
  have hch : chainsL f.N ≤ 67 := by unfold chainsL; omega
  obtain ⟨lo, hlo⟩ : ∃ lo, chainsL f.N * f.N = lo := ⟨_, rfl⟩
  have hHN : f.H * f.N ≤ 288 := Nat.le_trans (Nat.mul_le_mul hH hN) (by omega)
  have hlo2 : lo ≤ 2144 := by rw [← hlo]; exact Nat.le_trans (Nat.mul_le_mul hch hN) (by omega)
  have hns : ns = lo + f.H * f.N := by rw [← hx.len, hxl, Nat.add_mul, hlo]
  have HLO := Lib.hid hlo
  have hlo1 : ((chainsL f.N : Nat) : Int) * (f.N : Int) = (lo : Int) := by rw [← hlo]; simp
  have hlns : lo + 16 ≤ ns := by have : 16 ≤ f.H * f.N := Nat.le_trans (show 16 ≤ 1 * 16 by omega) (Nat.mul_le_mul hG.ok.H1 hN1); omega
  have hns2 : ns ≤ 3000 := by omega
  have HNS := Lib.hid hns
  clear hG hx hq ho hol hxl hlo hns
  unfold vSpot
  go_enter Tryz.func54, Tryz.ntmps54
  go_wp2
  generalize hW0 : World.alloc (World.alloc w _) _ = W0
  have hb0 : Below w.heap.size w W0.drew := by rw [← hW0]; exact (((Below.refl _ _).alloc (Nat.le_refl _) _).alloc (by simp) _).drew
  have hz0 : w.heap.size + 2 ≤ W0.drew.heap.size := by rw [← hW0]; simp
  have k0 : W0.drew.cell? ⟨w.heap.size, 0, none⟩ = some (.int .i64 (f.N : Int)) := by subst hW0; go_simp
  have k1 : W0.drew.cell? ⟨w.heap.size, 1, none⟩ = some (.int .i64 (f.L : Int)) := by subst hW0; go_simp
  have k2 : W0.drew.cell? ⟨w.heap.size, 2, none⟩ = some (.int .i64 (f.H : Int)) := by subst hW0; go_simp
  have k3 : W0.drew.cell? ⟨w.heap.size, 3, none⟩ = some (.int .i64 (f.K : Int)) := by subst hW0; go_simp
  have k4 : W0.drew.cell? ⟨w.heap.size, 4, none⟩ = some (.int .i64 (f.A : Int)) := by subst hW0; go_simp
  have k5 : W0.drew.cell? ⟨w.heap.size, 5, none⟩ = some (.slice A n c) := by subst hW0; go_simp
  have k6 : W0.drew.cell? ⟨w.heap.size, 6, none⟩ = some (.int .u32 (layer : Int)) := by subst hW0; go_simp
  have k7 : W0.drew.cell? ⟨w.heap.size, 7, none⟩ = some (.int .u64 (tree : Int)) := by subst hW0; go_simp
  have k8 : W0.drew.cell? ⟨w.heap.size, 8, none⟩ = some (.int .u32 (q : Int)) := by subst hW0; go_simp
  have k9 : W0.drew.cell? ⟨w.heap.size + 1, 0, none⟩ = some (.slice As ns cs) := by subst hW0; go_simp
  clear hW0
  refine wp_region_rg Grow 71 7 8 [[], [], [], [], [], [], []]
    [.still [] (.pointer (some ⟨w.heap.size, 0, none⟩)), .still [] (.pointer (some ⟨w.heap.size, 0, none⟩)), .still [] (.int .i64 (f.N : Int)), .still [] (.slice Ao f.N co), .grow [] (OwnV eN 0 (digAll of)), .grow [] (BoxV (.int .i64 0) (w.heap.size + 2)), .grow [] (BoxV (.slice none 0 0) (w.heap.size + 2))] (by kernel_rfl) (by kernel_rfl) rfl rfl rfl Grow.trans (Grow.refl _) ?_
  refine Obl.still (fun W hg _ => ?_) ?_
  · have c0 := cell_old hg k0; have c1 := cell_old hg k1; have c2 := cell_old hg k2; have c3 := cell_old hg k3; have c4 := cell_old hg k4; have c5 := cell_old hg k5; have c6 := cell_old hg k6; have c7 := cell_old hg k7; have c8 := cell_old hg k8; have c9 := cell_old hg k9; clear hg k0 k1 k2 k3 k4 k5 k6 k7 k8 k9
    go_wp2
    exact ⟨rfl, rfl, rfl, Grow.refl _⟩
  simp only [Act.put, List.setIfInBounds_toArray, List.set_cons_zero, List.set_cons_succ]
  refine Obl.still (fun W hg _ => ?_) ?_
  · have c0 := cell_old hg k0; have c1 := cell_old hg k1; have c2 := cell_old hg k2; have c3 := cell_old hg k3; have c4 := cell_old hg k4; have c5 := cell_old hg k5; have c6 := cell_old hg k6; have c7 := cell_old hg k7; have c8 := cell_old hg k8; have c9 := cell_old hg k9; clear hg k0 k1 k2 k3 k4 k5 k6 k7 k8 k9
    go_wp2
    exact ⟨rfl, rfl, rfl, Grow.refl _⟩
  simp only [Act.put, List.setIfInBounds_toArray, List.set_cons_zero, List.set_cons_succ]
  refine Obl.still (fun W hg _ => ?_) ?_
  · have c0 := cell_old hg k0; have c1 := cell_old hg k1; have c2 := cell_old hg k2; have c3 := cell_old hg k3; have c4 := cell_old hg k4; have c5 := cell_old hg k5; have c6 := cell_old hg k6; have c7 := cell_old hg k7; have c8 := cell_old hg k8; have c9 := cell_old hg k9; clear hg k0 k1 k2 k3 k4 k5 k6 k7 k8 k9
    go_wp2
    exact ⟨rfl, rfl, rfl, Grow.refl _⟩
  simp only [Act.put, List.setIfInBounds_toArray, List.set_cons_zero, List.set_cons_succ]
  refine Obl.still (fun W hg _ => ?_) ?_
  · have c0 := cell_old hg k0; have c1 := cell_old hg k1; have c2 := cell_old hg k2; have c3 := cell_old hg k3; have c4 := cell_old hg k4; have c5 := cell_old hg k5; have c6 := cell_old hg k6; have c7 := cell_old hg k7; have c8 := cell_old hg k8; have c9 := cell_old hg k9; clear hg k0 k1 k2 k3 k4 k5 k6 k7 k8 k9
    go_wp2
    exact ⟨rfl, rfl, rfl, Grow.refl _⟩
  simp only [Act.put, List.setIfInBounds_toArray, List.set_cons_zero, List.set_cons_succ]
  refine Obl.grow (OwnV.keep _ _ _) (fun W hg _ => ?_) (fun v4 => ?_)
  · have HC := Lib.hid (dall_any Ao f.N co of W (HO.out.below (hb0.trans (hg.mono hb0.size))) HNN.out)
    clear hg k0 k1 k2 k3 k4 k5 k6 k7 k8 k9
    go_wp2_with fail
    refine (HC.out).mono ?_
    rintro e w' ⟨A1, n1, c1, rfl, h1, h2⟩
    go_wp2
    exact ⟨rfl, rfl, ⟨_, _, _, rfl, h1.mono (Nat.zero_le _)⟩, h2⟩
  simp only [Act.put, List.setIfInBounds_toArray, List.set_cons_zero, List.set_cons_succ]
  refine Obl.grow (BoxV.keep) (fun W hg _ => ?_) (fun v5 => ?_)
  · have hsz : w.heap.size + 2 ≤ W.heap.size := Nat.le_trans hz0 hg.size
    clear hg k0 k1 k2 k3 k4 k5 k6 k7 k8 k9
    go_wp2
    exact ⟨rfl, rfl, BoxV.new W _ _ hsz, (Below.refl _ _).alloc (Nat.le_refl _) _⟩
  simp only [Act.put, List.setIfInBounds_toArray, List.set_cons_zero, List.set_cons_succ]
  refine Obl.grow (BoxV.keep) (fun W hg _ => ?_) (fun v6 => ?_)
  · have hsz : w.heap.size + 2 ≤ W.heap.size := Nat.le_trans hz0 hg.size
    clear hg k0 k1 k2 k3 k4 k5 k6 k7 k8 k9
    go_wp2
    exact ⟨rfl, rfl, BoxV.new W _ _ hsz, (Below.refl _ _).alloc (Nat.le_refl _) _⟩
  simp only [Act.put, List.setIfInBounds_toArray, List.set_cons_zero, List.set_cons_succ]
  refine Obl.done (fun W hg hall => ?_)
  obtain ⟨h8, h7, h4, _⟩ := hall
  obtain ⟨b8, rfl, hb8, hc8, hf8, hn8⟩ := h8
  obtain ⟨b7, rfl, hb7, hc7, hf7, hn7⟩ := h7
  obtain ⟨A4, n4, c4, rfl, h4⟩ := h4
  obtain rfl : n4 = 2 * f.N + 3 := by rw [← h4.len, digAll_length, HOL.out]; omega
  have hb78 : b7 ≠ b8 := by
    intro e
    subst e
    rw [hc7] at hc8
    simp at hc8
  have hgW : Below w.heap.size w W := hb0.trans (hg.mono hb0.size)
  have hc8' : (W.setCell ⟨b7, 0, none⟩ (.int .i64 (f.N : Int))).cell? ⟨b8, 0, none⟩ = some (.slice none 0 0) := (World.cell?_of_block (w := W) (a := ⟨b8, 0, none⟩) (block_set _ _ _ _ (Ne.symm hb78))).trans hc8
  have hf8' : (W.setCell ⟨b7, 0, none⟩ (.int .i64 (f.N : Int))).frozen? ⟨b8, 0, none⟩ = false := (frozen_set _ _ _ _).trans hf8
  have G2 : Hid (Below w.heap.size w ((W.setCell ⟨b7, 0, none⟩ (.int .i64 (f.N : Int))).setCell ⟨b8, 0, none⟩ (.slice A4 (2 * f.N + 3) c4))) := Lib.hid ((hgW.setCell (p := ⟨b7, 0, none⟩) (show w.heap.size ≤ b7 by omega) _).setCell (p := ⟨b8, 0, none⟩) (show w.heap.size ≤ b8 by omega) _)
  have hold : ∀ {a : Addr} {v : Value}, a.block ≠ b7 → a.block ≠ b8 → W.cell? a = some v → ((W.setCell ⟨b7, 0, none⟩ (.int .i64 (f.N : Int))).setCell ⟨b8, 0, none⟩ (.slice A4 (2 * f.N + 3) c4)).cell? a = some v := fun {a} {v} h1 h2 h => ((World.cell?_of_block (a := a) (block_set _ _ _ _ h2)).trans (World.cell?_of_block (a := a) (block_set _ _ _ _ h1))).trans h
  have HSB : Hid (SBox f A n c layer tree q w.heap.size ((W.setCell ⟨b7, 0, none⟩ (.int .i64 (f.N : Int))).setCell ⟨b8, 0, none⟩ (.slice A4 (2 * f.N + 3) c4))) := Lib.hid ⟨hold (show w.heap.size ≠ b7 by omega) (show w.heap.size ≠ b8 by omega) (cell_old hg k0), hold (show w.heap.size ≠ b7 by omega) (show w.heap.size ≠ b8 by omega) (cell_old hg k1), hold (show w.heap.size ≠ b7 by omega) (show w.heap.size ≠ b8 by omega) (cell_old hg k2), hold (show w.heap.size ≠ b7 by omega) (show w.heap.size ≠ b8 by omega) (cell_old hg k3), hold (show w.heap.size ≠ b7 by omega) (show w.heap.size ≠ b8 by omega) (cell_old hg k4), hold (show w.heap.size ≠ b7 by omega) (show w.heap.size ≠ b8 by omega) (cell_old hg k5), hold (show w.heap.size ≠ b7 by omega) (show w.heap.size ≠ b8 by omega) (cell_old hg k6), hold (show w.heap.size ≠ b7 by omega) (show w.heap.size ≠ b8 by omega) (cell_old hg k7), hold (show w.heap.size ≠ b7 by omega) (show w.heap.size ≠ b8 by omega) (cell_old hg k8)⟩
  have HC9 : Hid (((W.setCell ⟨b7, 0, none⟩ (.int .i64 (f.N : Int))).setCell ⟨b8, 0, none⟩ (.slice A4 (2 * f.N + 3) c4)).cell? ⟨w.heap.size + 1, 0, none⟩ = some (.slice As ns cs)) := Lib.hid (hold (show w.heap.size + 1 ≠ b7 by omega) (show w.heap.size + 1 ≠ b8 by omega) (cell_old hg k9))
  have HC7 : Hid (((W.setCell ⟨b7, 0, none⟩ (.int .i64 (f.N : Int))).setCell ⟨b8, 0, none⟩ (.slice A4 (2 * f.N + 3) c4)).cell? ⟨b7, 0, none⟩ = some (.int .i64 (f.N : Int))) := Lib.hid ((World.cell?_of_block (a := ⟨b7, 0, none⟩) (block_set _ _ _ _ hb78)).trans (cell_set_eq _ _ _ _ _ hc7))
  have HC8 : Hid (((W.setCell ⟨b7, 0, none⟩ (.int .i64 (f.N : Int))).setCell ⟨b8, 0, none⟩ (.slice A4 (2 * f.N + 3) c4)).cell? ⟨b8, 0, none⟩ = some (.slice A4 (2 * f.N + 3) c4)) := Lib.hid (cell_set_eq _ _ _ _ _ hc8')
  have HD4 : Hid (Rd eN ((W.setCell ⟨b7, 0, none⟩ (.int .i64 (f.N : Int))).setCell ⟨b8, 0, none⟩ (.slice A4 (2 * f.N + 3) c4)) A4 (2 * f.N + 3) (digAll of)) := Lib.hid ((h4.set_other ⟨b7, 0, none⟩ _ (h4.neOne (by omega) hn7)).set_other ⟨b8, 0, none⟩ _ (h4.neOne (by omega) hn8)).rd
  clear hold hb0 hg k0 k1 k2 k3 k4 k5 k6 k7 k8 k9 h4 hn7 hn8 hgW
  go_wp2_with fail
  generalize World.setCell (World.setCell W _ _) _ _ = W2 at *
  clear hc7 hc8 hf7 hf8 hc8' hf8'
  have k0 : W2.drew.cell? ⟨w.heap.size, 0, none⟩ = some (.int .i64 (f.N : Int)) := HSB.out.s0
  have k1 : W2.drew.cell? ⟨w.heap.size, 1, none⟩ = some (.int .i64 (f.L : Int)) := HSB.out.s1
  have k2 : W2.drew.cell? ⟨w.heap.size, 2, none⟩ = some (.int .i64 (f.H : Int)) := HSB.out.s2
  have k3 : W2.drew.cell? ⟨w.heap.size, 3, none⟩ = some (.int .i64 (f.K : Int)) := HSB.out.s3
  have k4 : W2.drew.cell? ⟨w.heap.size, 4, none⟩ = some (.int .i64 (f.A : Int)) := HSB.out.s4
  have k5 : W2.drew.cell? ⟨w.heap.size, 5, none⟩ = some (.slice A n c) := HSB.out.s5
  have k6 : W2.drew.cell? ⟨w.heap.size, 6, none⟩ = some (.int .u32 (layer : Int)) := HSB.out.s6
  have k7 : W2.drew.cell? ⟨w.heap.size, 7, none⟩ = some (.int .u64 (tree : Int)) := HSB.out.s7
  have k8 : W2.drew.cell? ⟨w.heap.size, 8, none⟩ = some (.int .u32 (q : Int)) := HSB.out.s8
  refine wp_region_rg Grow 71 5 8 [[], [], [], [], [3]]
    [.still [] (.agg #[.int .i64 (f.N : Int), .int .i64 (f.L : Int), .int .i64 (f.H : Int), .int .i64 (f.K : Int), .int .i64 (f.A : Int), .slice A n c, .int .u32 (layer : Int), .int .u64 (tree : Int), .int .u32 (q : Int)]), .still [] (.agg #[.int .i64 (f.N : Int), .int .i64 (f.L : Int), .int .i64 (f.H : Int), .int .i64 (f.K : Int), .int .i64 (f.A : Int), .slice A n c, .int .u32 (layer : Int), .int .u64 (tree : Int), .int .u32 (q : Int)]), .still [] (.func (.func 90) #[] #[.pointer (some ⟨w.heap.size, 0, none⟩), .pointer (some ⟨b8, 0, none⟩), .pointer (some ⟨w.heap.size + 1, 0, none⟩), .pointer (some ⟨b7, 0, none⟩)]), .grow [] (OwnV eB 0 ((List.range (chainsL f.N)).flatMap (fun i => upL f.N seed layer tree q i ((digAll of).getD i 0) (cutL sig (i * f.N) ((i + 1) * f.N)) (15 - (digAll of).getD i 0)))), .grow [3] (OwnV eB w.heap.size (sEnds f.N seed layer tree q of sig))] (by kernel_rfl) (by kernel_rfl) rfl rfl rfl Grow.trans (Grow.refl _) ?_
  refine Obl.still (fun W hg _ => ?_) ?_
  · have c0 := cell_old hg k0; have c1 := cell_old hg k1; have c2 := cell_old hg k2; have c3 := cell_old hg k3; have c4 := cell_old hg k4; have c5 := cell_old hg k5; have c6 := cell_old hg k6; have c7 := cell_old hg k7; have c8 := cell_old hg k8; clear hg k0 k1 k2 k3 k4 k5 k6 k7 k8
    go_wp2
    exact ⟨rfl, rfl, rfl, Grow.refl _⟩
  simp only [Act.put, List.setIfInBounds_toArray, List.set_cons_zero, List.set_cons_succ]
  refine Obl.still (fun W hg _ => ?_) ?_
  · have c0 := cell_old hg k0; have c1 := cell_old hg k1; have c2 := cell_old hg k2; have c3 := cell_old hg k3; have c4 := cell_old hg k4; have c5 := cell_old hg k5; have c6 := cell_old hg k6; have c7 := cell_old hg k7; have c8 := cell_old hg k8; clear hg k0 k1 k2 k3 k4 k5 k6 k7 k8
    go_wp2
    exact ⟨rfl, rfl, rfl, Grow.refl _⟩
  simp only [Act.put, List.setIfInBounds_toArray, List.set_cons_zero, List.set_cons_succ]
  refine Obl.still (fun W hg _ => ?_) ?_
  · have c0 := cell_old hg k0; have c1 := cell_old hg k1; have c2 := cell_old hg k2; have c3 := cell_old hg k3; have c4 := cell_old hg k4; have c5 := cell_old hg k5; have c6 := cell_old hg k6; have c7 := cell_old hg k7; have c8 := cell_old hg k8; clear hg k0 k1 k2 k3 k4 k5 k6 k7 k8
    go_wp2
    exact ⟨rfl, rfl, rfl, Grow.refl _⟩
  simp only [Act.put, List.setIfInBounds_toArray, List.set_cons_zero, List.set_cons_succ]
  refine Obl.grow (OwnV.keep _ _ _) (fun W hg _ => ?_) (fun v3 => ?_)
  · have HC := Lib.hid (all_leads f A n c layer tree q w.heap.size b8 (w.heap.size + 1) b7 (fun i => upL f.N seed layer tree q i ((digAll of).getD i 0) (cutL sig (i * f.N) ((i + 1) * f.N)) (15 - (digAll of).getD i 0)) (fun i hi => upL_length _ _ _ _ _ _ _ _ (by rw [cutL_length _ _ _ (Nat.mul_le_mul_right _ (by omega)) (by rw [HXL.out]; exact Nat.mul_le_mul_right _ (by omega)), Nat.succ_mul]; omega) (by omega) _) W HG.out.ok (fun i W' hi hW' => leads1_any f A As A4 n c ns cs (2 * f.N + 3) c4 seed sig of layer tree q i w.heap.size b8 (w.heap.size + 1) b7 W' (HG.out.below (Grow.trans _ _ _ (Grow.trans _ _ _ G2.out ((Below.refl _ W2).drew.trans hg)) hW')) HQ.out (by rw [digAll_length, HOL.out]; unfold chainsL at hi; omega) hi (HSB.out.below (Grow.trans _ _ _ ((Below.refl _ W2).drew.trans hg) hW')) (cell_old (Grow.trans _ _ _ ((Below.refl _ W2).drew.trans hg) hW') HC8.out) (HD4.out.below (Grow.trans _ _ _ ((Below.refl _ W2).drew.trans hg) hW')) (cell_old (Grow.trans _ _ _ ((Below.refl _ W2).drew.trans hg) hW') HC9.out) (HX.out.below (Grow.trans _ _ _ (Grow.trans _ _ _ G2.out ((Below.refl _ W2).drew.trans hg)) hW')) (by rw [HXL.out]; exact Nat.mul_le_mul_right _ (by omega)) (by have := HX.out.len; omega) hcs (cell_old (Grow.trans _ _ _ ((Below.refl _ W2).drew.trans hg) hW') HC7.out)))
    unfold vSpot at HC
    clear hg k0 k1 k2 k3 k4 k5 k6 k7 k8
    go_wp2_with fail
    refine (HC.out).mono ?_
    rintro e w' ⟨A1, n1, c1, rfl, h1, h2⟩
    go_wp2
    exact ⟨rfl, rfl, ⟨_, _, _, rfl, h1.mono (Nat.zero_le _)⟩, h2⟩
  simp only [Act.put, List.setIfInBounds_toArray, List.set_cons_zero, List.set_cons_succ]
  refine Obl.grow (OwnV.keep _ _ _) (fun W hg ⟨h3, _⟩ => ?_) (fun v4 => ?_)
  · obtain ⟨Ah3, nh3, ch3, rfl, h3⟩ := h3
    have HC := Lib.hid (stweak_any f A Ah3 n c nh3 ch3 seed _ layer tree q 1 0 0 W (HG.out.below (Grow.trans _ _ _ G2.out ((Below.refl _ W2).drew.trans hg))) HQ.out (by omega) (by omega) (by omega) h3.rd (by rw [flat_len_r _ f.N _ (fun i hi => upL_length _ _ _ _ _ _ _ _ (by rw [cutL_length _ _ _ (Nat.mul_le_mul_right _ (by omega)) (by rw [HXL.out]; exact Nat.mul_le_mul_right _ (by omega)), Nat.succ_mul]; omega) (by omega) _)]; rw [HLO.out]; omega))
    unfold vSpot at HC
    have hsz : w.heap.size ≤ W.heap.size := ((Grow.trans _ _ _ G2.out ((Below.refl _ W2).drew.trans hg))).size
    clear hg k0 k1 k2 k3 k4 k5 k6 k7 k8
    go_wp2_with fail
    refine (HC.out).mono ?_
    rintro e w' ⟨A1, n1, c1, rfl, h1, h2⟩
    go_wp2
    exact ⟨rfl, rfl, ⟨_, _, _, rfl, h1.mono hsz⟩, h2⟩
  simp only [Act.put, List.setIfInBounds_toArray, List.set_cons_zero, List.set_cons_succ]
  refine Obl.done (fun W hg hall => ?_)
  obtain ⟨h4, _⟩ := hall
  obtain ⟨A5, n5, c5, rfl, h5⟩ := h4
  obtain rfl : f.N = n5 := by rw [← h5.len, sEnds_length _ _ _ _ _ _ _ (by omega)]
  have GW := Lib.hid (Grow.trans _ _ _ G2.out ((Below.refl _ W2).drew.trans hg))
  have H5 := Lib.hid h5
  have m0 : W.drew.cell? ⟨w.heap.size, 0, none⟩ = some (.int .i64 (f.N : Int)) := cell_old hg k0
  have m1 : W.drew.cell? ⟨w.heap.size, 1, none⟩ = some (.int .i64 (f.L : Int)) := cell_old hg k1
  have m2 : W.drew.cell? ⟨w.heap.size, 2, none⟩ = some (.int .i64 (f.H : Int)) := cell_old hg k2
  have m3 : W.drew.cell? ⟨w.heap.size, 3, none⟩ = some (.int .i64 (f.K : Int)) := cell_old hg k3
  have m4 : W.drew.cell? ⟨w.heap.size, 4, none⟩ = some (.int .i64 (f.A : Int)) := cell_old hg k4
  have m5 : W.drew.cell? ⟨w.heap.size, 5, none⟩ = some (.slice A n c) := cell_old hg k5
  have m6 : W.drew.cell? ⟨w.heap.size, 6, none⟩ = some (.int .u32 (layer : Int)) := cell_old hg k6
  have m7 : W.drew.cell? ⟨w.heap.size, 7, none⟩ = some (.int .u64 (tree : Int)) := cell_old hg k7
  have m8 : W.drew.cell? ⟨w.heap.size, 8, none⟩ = some (.int .u32 (q : Int)) := cell_old hg k8
  have m9 : W.drew.cell? ⟨w.heap.size + 1, 0, none⟩ = some (.slice As ns cs) := cell_old ((Below.refl _ W2).drew.trans hg) HC9.out
  have m10 : W.drew.cell? ⟨b7, 0, none⟩ = some (.int .i64 (f.N : Int)) := cell_old ((Below.refl _ W2).drew.trans hg) HC7.out
  clear hg k0 k1 k2 k3 k4 k5 k6 k7 k8 h5 HC8 HC9 HC7 HD4 HSB G2
  go_wp2
  have k0 := m0; clear m0
  have k1 := m1; clear m1
  have k2 := m2; clear m2
  have k3 := m3; clear m3
  have k4 := m4; clear m4
  have k5 := m5; clear m5
  have k6 := m6; clear m6
  have k7 := m7; clear m7
  have k8 := m8; clear m8
  have k9 := m9; clear m9
  have k10 := m10; clear m10
  refine wp_region_rg Grow 71 7 8 [[], [], [], [], [], [], []]
    [.still [] (.slice As ns cs), .still [] (.pointer (some ⟨w.heap.size, 0, none⟩)), .still [] (.agg #[.int .i64 (f.N : Int), .int .i64 (f.L : Int), .int .i64 (f.H : Int), .int .i64 (f.K : Int), .int .i64 (f.A : Int)]), .still [] (.int .i64 ((chainsL f.N : Nat) : Int)), .still [] (.int .i64 (f.N : Int)), .still [] (.int .i64 (lo : Int)), .still [] (.slice (Option.map (fun x => x.add lo) As) (ns - lo) (cs - lo))] (by kernel_rfl) (by kernel_rfl) rfl rfl rfl Grow.trans (Grow.refl _) ?_
  refine Obl.still (fun W hg _ => ?_) ?_
  · have c0 := cell_old hg k0; have c1 := cell_old hg k1; have c2 := cell_old hg k2; have c3 := cell_old hg k3; have c4 := cell_old hg k4; have c5 := cell_old hg k5; have c6 := cell_old hg k6; have c7 := cell_old hg k7; have c8 := cell_old hg k8; have c9 := cell_old hg k9; have c10 := cell_old hg k10; clear hg k0 k1 k2 k3 k4 k5 k6 k7 k8 k9 k10
    go_wp2
    exact ⟨rfl, rfl, rfl, Grow.refl _⟩
  simp only [Act.put, List.setIfInBounds_toArray, List.set_cons_zero, List.set_cons_succ]
  refine Obl.still (fun W hg _ => ?_) ?_
  · have c0 := cell_old hg k0; have c1 := cell_old hg k1; have c2 := cell_old hg k2; have c3 := cell_old hg k3; have c4 := cell_old hg k4; have c5 := cell_old hg k5; have c6 := cell_old hg k6; have c7 := cell_old hg k7; have c8 := cell_old hg k8; have c9 := cell_old hg k9; have c10 := cell_old hg k10; clear hg k0 k1 k2 k3 k4 k5 k6 k7 k8 k9 k10
    go_wp2
    exact ⟨rfl, rfl, rfl, Grow.refl _⟩
  simp only [Act.put, List.setIfInBounds_toArray, List.set_cons_zero, List.set_cons_succ]
  refine Obl.still (fun W hg _ => ?_) ?_
  · have c0 := cell_old hg k0; have c1 := cell_old hg k1; have c2 := cell_old hg k2; have c3 := cell_old hg k3; have c4 := cell_old hg k4; have c5 := cell_old hg k5; have c6 := cell_old hg k6; have c7 := cell_old hg k7; have c8 := cell_old hg k8; have c9 := cell_old hg k9; have c10 := cell_old hg k10; clear hg k0 k1 k2 k3 k4 k5 k6 k7 k8 k9 k10
    go_wp2
    exact ⟨rfl, rfl, rfl, Grow.refl _⟩
  simp only [Act.put, List.setIfInBounds_toArray, List.set_cons_zero, List.set_cons_succ]
  refine Obl.still (fun W hg _ => ?_) ?_
  · have HC := Lib.hid (chains_any f HG.out.ok W)
    unfold vFew at HC
    clear hg k0 k1 k2 k3 k4 k5 k6 k7 k8 k9 k10
    go_wp2_with fail
    refine (HC.out).mono ?_
    rintro e w' ⟨rfl, hB⟩
    have hG : Grow W w' := hB
    clear hB
    go_wp2
    exact ⟨rfl, rfl, rfl, hG⟩
  simp only [Act.put, List.setIfInBounds_toArray, List.set_cons_zero, List.set_cons_succ]
  refine Obl.still (fun W hg _ => ?_) ?_
  · have c0 := cell_old hg k0; have c1 := cell_old hg k1; have c2 := cell_old hg k2; have c3 := cell_old hg k3; have c4 := cell_old hg k4; have c5 := cell_old hg k5; have c6 := cell_old hg k6; have c7 := cell_old hg k7; have c8 := cell_old hg k8; have c9 := cell_old hg k9; have c10 := cell_old hg k10; clear hg k0 k1 k2 k3 k4 k5 k6 k7 k8 k9 k10
    go_wp2
    exact ⟨rfl, rfl, rfl, Grow.refl _⟩
  simp only [Act.put, List.setIfInBounds_toArray, List.set_cons_zero, List.set_cons_succ]
  refine Obl.still (fun W hg _ => ?_) ?_
  · have c0 := cell_old hg k0; have c1 := cell_old hg k1; have c2 := cell_old hg k2; have c3 := cell_old hg k3; have c4 := cell_old hg k4; have c5 := cell_old hg k5; have c6 := cell_old hg k6; have c7 := cell_old hg k7; have c8 := cell_old hg k8; have c9 := cell_old hg k9; have c10 := cell_old hg k10; clear hg k0 k1 k2 k3 k4 k5 k6 k7 k8 k9 k10
    go_wp2
    exact ⟨rfl, rfl, rfl, Grow.refl _⟩
  simp only [Act.put, List.setIfInBounds_toArray, List.set_cons_zero, List.set_cons_succ]
  refine Obl.still (fun W hg _ => ?_) ?_
  · have c0 := cell_old hg k0; have c1 := cell_old hg k1; have c2 := cell_old hg k2; have c3 := cell_old hg k3; have c4 := cell_old hg k4; have c5 := cell_old hg k5; have c6 := cell_old hg k6; have c7 := cell_old hg k7; have c8 := cell_old hg k8; have c9 := cell_old hg k9; have c10 := cell_old hg k10; clear hg k0 k1 k2 k3 k4 k5 k6 k7 k8 k9 k10
    go_wp2
    exact ⟨rfl, rfl, rfl, Grow.refl _⟩
  simp only [Act.put, List.setIfInBounds_toArray, List.set_cons_zero, List.set_cons_succ]
  refine Obl.done (fun W hg hall => ?_)
  have GW3 := Lib.hid (Grow.trans _ _ _ GW.out ((Below.refl _ _).drew.trans hg))
  have H53 := Lib.hid (H5.out.below ((Below.refl _ _).drew.trans hg))
  have m0 := cell_old hg k0
  have m1 := cell_old hg k1
  have m2 := cell_old hg k2
  have m3 := cell_old hg k3
  have m4 := cell_old hg k4
  have m5 := cell_old hg k5
  have m6 := cell_old hg k6
  have m7 := cell_old hg k7
  have m8 := cell_old hg k8
  have m9 := cell_old hg k9
  have m10 := cell_old hg k10
  have HWY : Hid (Rd eB W (Option.map (fun x => x.add lo) As) (ns - lo) (sig.drop lo)) := Lib.hid (by
    have := (HX.out.below GW3.out).sub lo ns (by omega) (Nat.le_refl _)
    rw [List.take_of_length_le (by have := HX.out.len; omega)] at this
    exact this)
  have HNW : Hid (ns - lo = f.H * f.N) := Lib.hid (by have := HNS.out; omega)
  have hcw2 : ns - lo ≤ cs - lo := by omega
  have hnw2 : ns - lo ≤ 3000 := by omega
  clear hg hall k0 k1 k2 k3 k4 k5 k6 k7 k8 k9 k10 GW H5
  go_wp2
  generalize Option.map (fun x : Addr => x.add lo) As = Aw at *
  generalize ns - lo = nw at *
  generalize cs - lo = cw at *
  go_loopw [9, 35] (fun x g wr => ∃ (k : Nat) (Ax : Option Addr) (cx : Nat), k ≤ f.H ∧ g = .int .u32 (k : Int) ∧ x = .slice Ax f.N cx ∧ Own eB w.heap.size wr Ax f.N cx (sClimb f.N seed layer tree q (sEnds f.N seed layer tree q of sig) (sig.drop lo) k) ∧ Grow W wr) (fun _ g _ => f.H - (intOf g).toNat)
  case atStart => exact ⟨0, A5, c5, Nat.zero_le _, rfl, rfl, H53.out, Grow.refl _⟩
  case round =>
    obtain ⟨k, Ax, cx, hk, rfl, rfl, ho, hg⟩ := hrel
    by_cases hlt : k < f.H
    · obtain ⟨lo2, hlo2'⟩ : ∃ lo2, k * f.N = lo2 := ⟨_, rfl⟩
      have hlo21 : (k : Int) * (f.N : Int) = (lo2 : Int) := by rw [← hlo2']; simp
      have hlo22 : ((k : Int) + 1) * (f.N : Int) = (lo2 : Int) + (f.N : Int) := by rw [Int.add_mul, hlo21]; simp
      have hlo23 : lo2 + f.N ≤ nw := by rw [HNW.out, ← hlo2', ← Nat.succ_mul]; exact Nat.mul_le_mul_right _ hlt
      have HLO2 := Lib.hid hlo2'
      have HGW := Lib.hid hg
      have HO := Lib.hid ho
      have k0 := cell_old hg m0
      have k1 := cell_old hg m1
      have k2 := cell_old hg m2
      have k3 := cell_old hg m3
      have k4 := cell_old hg m4
      have k5 := cell_old hg m5
      have k6 := cell_old hg m6
      have k7 := cell_old hg m7
      have k8 := cell_old hg m8
      have k9 := cell_old hg m9
      have k10 := cell_old hg m10
      clear hg ho hlo2' m0 m1 m2 m3 m4 m5 m6 m7 m8 m9 m10
      go_wp2
      refine wp_region_rg Grow 71 14 10 [[], [], [], [], [], [], [], [], [], [], [], [], [], []]
        [.still [] (.slice Ax f.N cx), .still [] (.slice Aw nw cw), .still [] (.int .u32 (k : Int)), .still [] (.int .i64 (k : Int)), .still [] (.int .i64 (f.N : Int)), .still [] (.int .i64 (lo2 : Int)), .still [] (.int .u32 (k : Int)), .still [] (.int .i64 (k : Int)), .still [] (.int .i64 ((k : Int) + 1)), .still [] (.int .i64 (f.N : Int)), .still [] (.int .i64 ((lo2 : Int) + (f.N : Int))), .still [] (.slice (Option.map (fun x => x.add lo2) Aw) f.N (cw - lo2)), .still [] (.slice Ax f.N cx), .still [] (.slice (Option.map (fun x => x.add lo2) Aw) f.N (cw - lo2))] (by kernel_rfl) (by kernel_rfl) rfl rfl rfl Grow.trans (Grow.refl _) ?_
      refine Obl.still (fun W hg _ => ?_) ?_
      · have c0 := cell_old hg k0; have c1 := cell_old hg k1; have c2 := cell_old hg k2; have c3 := cell_old hg k3; have c4 := cell_old hg k4; have c5 := cell_old hg k5; have c6 := cell_old hg k6; have c7 := cell_old hg k7; have c8 := cell_old hg k8; have c9 := cell_old hg k9; have c10 := cell_old hg k10; clear hg k0 k1 k2 k3 k4 k5 k6 k7 k8 k9 k10
        go_wp2
        exact ⟨rfl, rfl, rfl, Grow.refl _⟩
      simp only [Act.put, List.setIfInBounds_toArray, List.set_cons_zero, List.set_cons_succ]
      refine Obl.still (fun W hg _ => ?_) ?_
      · have c0 := cell_old hg k0; have c1 := cell_old hg k1; have c2 := cell_old hg k2; have c3 := cell_old hg k3; have c4 := cell_old hg k4; have c5 := cell_old hg k5; have c6 := cell_old hg k6; have c7 := cell_old hg k7; have c8 := cell_old hg k8; have c9 := cell_old hg k9; have c10 := cell_old hg k10; clear hg k0 k1 k2 k3 k4 k5 k6 k7 k8 k9 k10
        go_wp2
        exact ⟨rfl, rfl, rfl, Grow.refl _⟩
      simp only [Act.put, List.setIfInBounds_toArray, List.set_cons_zero, List.set_cons_succ]
      refine Obl.still (fun W hg _ => ?_) ?_
      · have c0 := cell_old hg k0; have c1 := cell_old hg k1; have c2 := cell_old hg k2; have c3 := cell_old hg k3; have c4 := cell_old hg k4; have c5 := cell_old hg k5; have c6 := cell_old hg k6; have c7 := cell_old hg k7; have c8 := cell_old hg k8; have c9 := cell_old hg k9; have c10 := cell_old hg k10; clear hg k0 k1 k2 k3 k4 k5 k6 k7 k8 k9 k10
        go_wp2
        exact ⟨rfl, rfl, rfl, Grow.refl _⟩
      simp only [Act.put, List.setIfInBounds_toArray, List.set_cons_zero, List.set_cons_succ]
      refine Obl.still (fun W hg _ => ?_) ?_
      · have c0 := cell_old hg k0; have c1 := cell_old hg k1; have c2 := cell_old hg k2; have c3 := cell_old hg k3; have c4 := cell_old hg k4; have c5 := cell_old hg k5; have c6 := cell_old hg k6; have c7 := cell_old hg k7; have c8 := cell_old hg k8; have c9 := cell_old hg k9; have c10 := cell_old hg k10; clear hg k0 k1 k2 k3 k4 k5 k6 k7 k8 k9 k10
        go_wp2
        exact ⟨rfl, rfl, rfl, Grow.refl _⟩
      simp only [Act.put, List.setIfInBounds_toArray, List.set_cons_zero, List.set_cons_succ]
      refine Obl.still (fun W hg _ => ?_) ?_
      · have c0 := cell_old hg k0; have c1 := cell_old hg k1; have c2 := cell_old hg k2; have c3 := cell_old hg k3; have c4 := cell_old hg k4; have c5 := cell_old hg k5; have c6 := cell_old hg k6; have c7 := cell_old hg k7; have c8 := cell_old hg k8; have c9 := cell_old hg k9; have c10 := cell_old hg k10; clear hg k0 k1 k2 k3 k4 k5 k6 k7 k8 k9 k10
        go_wp2
        exact ⟨rfl, rfl, rfl, Grow.refl _⟩
      simp only [Act.put, List.setIfInBounds_toArray, List.set_cons_zero, List.set_cons_succ]
      refine Obl.still (fun W hg _ => ?_) ?_
      · have c0 := cell_old hg k0; have c1 := cell_old hg k1; have c2 := cell_old hg k2; have c3 := cell_old hg k3; have c4 := cell_old hg k4; have c5 := cell_old hg k5; have c6 := cell_old hg k6; have c7 := cell_old hg k7; have c8 := cell_old hg k8; have c9 := cell_old hg k9; have c10 := cell_old hg k10; clear hg k0 k1 k2 k3 k4 k5 k6 k7 k8 k9 k10
        go_wp2
        exact ⟨rfl, rfl, rfl, Grow.refl _⟩
      simp only [Act.put, List.setIfInBounds_toArray, List.set_cons_zero, List.set_cons_succ]
      refine Obl.still (fun W hg _ => ?_) ?_
      · have c0 := cell_old hg k0; have c1 := cell_old hg k1; have c2 := cell_old hg k2; have c3 := cell_old hg k3; have c4 := cell_old hg k4; have c5 := cell_old hg k5; have c6 := cell_old hg k6; have c7 := cell_old hg k7; have c8 := cell_old hg k8; have c9 := cell_old hg k9; have c10 := cell_old hg k10; clear hg k0 k1 k2 k3 k4 k5 k6 k7 k8 k9 k10
        go_wp2
        exact ⟨rfl, rfl, rfl, Grow.refl _⟩
      simp only [Act.put, List.setIfInBounds_toArray, List.set_cons_zero, List.set_cons_succ]
      refine Obl.still (fun W hg _ => ?_) ?_
      · have c0 := cell_old hg k0; have c1 := cell_old hg k1; have c2 := cell_old hg k2; have c3 := cell_old hg k3; have c4 := cell_old hg k4; have c5 := cell_old hg k5; have c6 := cell_old hg k6; have c7 := cell_old hg k7; have c8 := cell_old hg k8; have c9 := cell_old hg k9; have c10 := cell_old hg k10; clear hg k0 k1 k2 k3 k4 k5 k6 k7 k8 k9 k10
        go_wp2
        exact ⟨rfl, rfl, rfl, Grow.refl _⟩
      simp only [Act.put, List.setIfInBounds_toArray, List.set_cons_zero, List.set_cons_succ]
      refine Obl.still (fun W hg _ => ?_) ?_
      · have c0 := cell_old hg k0; have c1 := cell_old hg k1; have c2 := cell_old hg k2; have c3 := cell_old hg k3; have c4 := cell_old hg k4; have c5 := cell_old hg k5; have c6 := cell_old hg k6; have c7 := cell_old hg k7; have c8 := cell_old hg k8; have c9 := cell_old hg k9; have c10 := cell_old hg k10; clear hg k0 k1 k2 k3 k4 k5 k6 k7 k8 k9 k10
        go_wp2
        exact ⟨rfl, rfl, rfl, Grow.refl _⟩
      simp only [Act.put, List.setIfInBounds_toArray, List.set_cons_zero, List.set_cons_succ]
      refine Obl.still (fun W hg _ => ?_) ?_
      · have c0 := cell_old hg k0; have c1 := cell_old hg k1; have c2 := cell_old hg k2; have c3 := cell_old hg k3; have c4 := cell_old hg k4; have c5 := cell_old hg k5; have c6 := cell_old hg k6; have c7 := cell_old hg k7; have c8 := cell_old hg k8; have c9 := cell_old hg k9; have c10 := cell_old hg k10; clear hg k0 k1 k2 k3 k4 k5 k6 k7 k8 k9 k10
        go_wp2
        exact ⟨rfl, rfl, rfl, Grow.refl _⟩
      simp only [Act.put, List.setIfInBounds_toArray, List.set_cons_zero, List.set_cons_succ]
      refine Obl.still (fun W hg _ => ?_) ?_
      · have c0 := cell_old hg k0; have c1 := cell_old hg k1; have c2 := cell_old hg k2; have c3 := cell_old hg k3; have c4 := cell_old hg k4; have c5 := cell_old hg k5; have c6 := cell_old hg k6; have c7 := cell_old hg k7; have c8 := cell_old hg k8; have c9 := cell_old hg k9; have c10 := cell_old hg k10; clear hg k0 k1 k2 k3 k4 k5 k6 k7 k8 k9 k10
        go_wp2
        exact ⟨rfl, rfl, rfl, Grow.refl _⟩
      simp only [Act.put, List.setIfInBounds_toArray, List.set_cons_zero, List.set_cons_succ]
      refine Obl.still (fun W hg _ => ?_) ?_
      · have c0 := cell_old hg k0; have c1 := cell_old hg k1; have c2 := cell_old hg k2; have c3 := cell_old hg k3; have c4 := cell_old hg k4; have c5 := cell_old hg k5; have c6 := cell_old hg k6; have c7 := cell_old hg k7; have c8 := cell_old hg k8; have c9 := cell_old hg k9; have c10 := cell_old hg k10; clear hg k0 k1 k2 k3 k4 k5 k6 k7 k8 k9 k10
        go_wp2
        exact ⟨rfl, rfl, rfl, Grow.refl _⟩
      simp only [Act.put, List.setIfInBounds_toArray, List.set_cons_zero, List.set_cons_succ]
      refine Obl.still (fun W hg _ => ?_) ?_
      · have c0 := cell_old hg k0; have c1 := cell_old hg k1; have c2 := cell_old hg k2; have c3 := cell_old hg k3; have c4 := cell_old hg k4; have c5 := cell_old hg k5; have c6 := cell_old hg k6; have c7 := cell_old hg k7; have c8 := cell_old hg k8; have c9 := cell_old hg k9; have c10 := cell_old hg k10; clear hg k0 k1 k2 k3 k4 k5 k6 k7 k8 k9 k10
        go_wp2
        exact ⟨rfl, rfl, rfl, Grow.refl _⟩
      simp only [Act.put, List.setIfInBounds_toArray, List.set_cons_zero, List.set_cons_succ]
      refine Obl.still (fun W hg _ => ?_) ?_
      · have c0 := cell_old hg k0; have c1 := cell_old hg k1; have c2 := cell_old hg k2; have c3 := cell_old hg k3; have c4 := cell_old hg k4; have c5 := cell_old hg k5; have c6 := cell_old hg k6; have c7 := cell_old hg k7; have c8 := cell_old hg k8; have c9 := cell_old hg k9; have c10 := cell_old hg k10; clear hg k0 k1 k2 k3 k4 k5 k6 k7 k8 k9 k10
        go_wp2
        exact ⟨rfl, rfl, rfl, Grow.refl _⟩
      simp only [Act.put, List.setIfInBounds_toArray, List.set_cons_zero, List.set_cons_succ]
      refine Obl.done (fun W hg hall => ?_)
      have HG7 := Lib.hid (Grow.trans _ _ _ HGW.out ((Below.refl _ _).drew.trans hg))
      have GG7 := Lib.hid (Grow.trans _ _ _ GW3.out HG7.out)
      have HO7 := Lib.hid (HO.out.below ((Below.refl _ _).drew.trans hg))
      have HX2 : Hid (Rd eB W (Option.map (fun x => x.add lo2) Aw) f.N (cutL (sig.drop lo) lo2 (lo2 + f.N))) := Lib.hid (by
        have := (HWY.out.below HG7.out).sub lo2 (lo2 + f.N) (by omega) (by omega)
        rw [show lo2 + f.N - lo2 = f.N by omega] at this
        exact this)
      have HL2 : Hid ((cutL (sig.drop lo) lo2 (lo2 + f.N)).length = f.N) := Lib.hid (by rw [cutL_length _ _ _ (by omega) (by have := HWY.out.len; omega)]; omega)
      have HLX : Hid ((sClimb f.N seed layer tree q (sEnds f.N seed layer tree q of sig) (sig.drop lo) k).length = f.N) := Lib.hid (sClimb_length _ _ _ _ _ _ _ (by omega) (sEnds_length _ _ _ _ _ _ _ (by omega)) k)
      have d0 := cell_old hg k0
      have d1 := cell_old hg k1
      have d2 := cell_old hg k2
      have d3 := cell_old hg k3
      have d4 := cell_old hg k4
      have d5 := cell_old hg k5
      have d6 := cell_old hg k6
      have d7 := cell_old hg k7
      have d8 := cell_old hg k8
      have d9 := cell_old hg k9
      have d10 := cell_old hg k10
      clear hg hall k0 k1 k2 k3 k4 k5 k6 k7 k8 k9 k10
      by_cases hbit : q / 2 ^ k % 2 = 1
      · have hb : bits .and .u32 ((q : Int) / 2 ^ k) 1 = 1 := by rw [pow_cast, and1_u32 _ (Nat.lt_of_le_of_lt (Nat.div_le_self _ _) HQ.out), show q / 2 ^ k % 2 = 1 by omega]; rfl
        have HBT := Lib.hid hbit
        clear hbit
        have HC := Lib.hid (node_any f A (Option.map (fun x => x.add lo2) Aw) Ax n c f.N (cw - lo2) f.N cx seed _ _ layer tree q (k + 1) (q / 2 ^ (k + 1)) _ (HG.out.below GG7.out) (by omega) (Nat.lt_of_le_of_lt (Nat.div_le_self _ _) HQ.out) HX2.out HO7.out.rd HL2.out HLX.out)
        rw [← pow_cast, show ((k + 1 : Nat) : Int) = (k : Int) + 1 by omega] at HC
        have hfin : tweakL f.N seed ⟨layer, tree, 2, 0, k + 1, q / 2 ^ (k + 1)⟩ (cutL (sig.drop lo) lo2 (lo2 + f.N) ++ sClimb f.N seed layer tree q (sEnds f.N seed layer tree q of sig) (sig.drop lo) k) = sClimb f.N seed layer tree q (sEnds f.N seed layer tree q of sig) (sig.drop lo) (k + 1) := by
          rw [show sClimb f.N seed layer tree q (sEnds f.N seed layer tree q of sig) (sig.drop lo) (k + 1) = tweakL f.N seed ⟨layer, tree, 2, 0, k + 1, q / 2 ^ (k + 1)⟩ (if q / 2 ^ k % 2 = 1 then cutL (sig.drop lo) (k * f.N) ((k + 1) * f.N) ++ sClimb f.N seed layer tree q (sEnds f.N seed layer tree q of sig) (sig.drop lo) k else sClimb f.N seed layer tree q (sEnds f.N seed layer tree q of sig) (sig.drop lo) k ++ cutL (sig.drop lo) (k * f.N) ((k + 1) * f.N)) from rfl, Nat.succ_mul, HLO2.out]
          rw [if_pos HBT.out]
        rw [hfin] at HC
        unfold vSpot at HC
        clear hfin
        go_wp2_with fail
        refine HC.out.mono ?_
        rintro e w3 ⟨A3, n3, c3, rfl, h5, h6⟩
        obtain rfl : f.N = n3 := by rw [← h5.len, sClimb_length _ _ _ _ _ _ _ (by omega) (sEnds_length _ _ _ _ _ _ _ (by omega))]
        have H5 := Lib.hid (h5.mono GG7.out.size)
        have H6 := Lib.hid (Grow.trans _ _ _ HG7.out h6)
        clear HC h5 h6 d0 d1 d2 d3 d4 d5 d6 d7 d8 d9 d10
        go_wp2
        go_roundw
        case rel => exact ⟨k + 1, A3, c3, by omega, by go_num, rfl, H5.out, H6.out⟩
        case measure => simp [intOf]; omega
      · have hb : bits .and .u32 ((q : Int) / 2 ^ k) 1 = 0 := by rw [pow_cast, and1_u32 _ (Nat.lt_of_le_of_lt (Nat.div_le_self _ _) HQ.out), show q / 2 ^ k % 2 = 0 by omega]; rfl
        have HBT := Lib.hid hbit
        clear hbit
        have HC := Lib.hid (node_any f A Ax (Option.map (fun x => x.add lo2) Aw) n c f.N cx f.N (cw - lo2) seed _ _ layer tree q (k + 1) (q / 2 ^ (k + 1)) _ (HG.out.below GG7.out) (by omega) (Nat.lt_of_le_of_lt (Nat.div_le_self _ _) HQ.out) HO7.out.rd HX2.out HLX.out HL2.out)
        rw [← pow_cast, show ((k + 1 : Nat) : Int) = (k : Int) + 1 by omega] at HC
        have hfin : tweakL f.N seed ⟨layer, tree, 2, 0, k + 1, q / 2 ^ (k + 1)⟩ (sClimb f.N seed layer tree q (sEnds f.N seed layer tree q of sig) (sig.drop lo) k ++ cutL (sig.drop lo) lo2 (lo2 + f.N)) = sClimb f.N seed layer tree q (sEnds f.N seed layer tree q of sig) (sig.drop lo) (k + 1) := by
          rw [show sClimb f.N seed layer tree q (sEnds f.N seed layer tree q of sig) (sig.drop lo) (k + 1) = tweakL f.N seed ⟨layer, tree, 2, 0, k + 1, q / 2 ^ (k + 1)⟩ (if q / 2 ^ k % 2 = 1 then cutL (sig.drop lo) (k * f.N) ((k + 1) * f.N) ++ sClimb f.N seed layer tree q (sEnds f.N seed layer tree q of sig) (sig.drop lo) k else sClimb f.N seed layer tree q (sEnds f.N seed layer tree q of sig) (sig.drop lo) k ++ cutL (sig.drop lo) (k * f.N) ((k + 1) * f.N)) from rfl, Nat.succ_mul, HLO2.out]
          rw [if_neg HBT.out]
        rw [hfin] at HC
        unfold vSpot at HC
        clear hfin
        go_wp2_with fail
        refine HC.out.mono ?_
        rintro e w3 ⟨A3, n3, c3, rfl, h5, h6⟩
        obtain rfl : f.N = n3 := by rw [← h5.len, sClimb_length _ _ _ _ _ _ _ (by omega) (sEnds_length _ _ _ _ _ _ _ (by omega))]
        have H5 := Lib.hid (h5.mono GG7.out.size)
        have H6 := Lib.hid (Grow.trans _ _ _ HG7.out h6)
        clear HC h5 h6 d0 d1 d2 d3 d4 d5 d6 d7 d8 d9 d10
        go_wp2
        go_roundw
        case rel => exact ⟨k + 1, A3, c3, by omega, by go_num, rfl, H5.out, H6.out⟩
        case measure => simp [intOf]; omega
    · obtain rfl : k = f.H := by omega
      have HB := Lib.hid (Grow.trans _ _ _ GW3.out hg)
      clear hg m0 m1 m2 m3 m4 m5 m6 m7 m8 m9 m10
      have HO := Lib.hid ho
      clear ho
      go_wp2
      go_ret
      refine ⟨_, _, _, rfl, ?_, HB.out⟩
      unfold sLeads
      rw [HLO.out]
      exact HO.out
end Go.Proofs.Sl
