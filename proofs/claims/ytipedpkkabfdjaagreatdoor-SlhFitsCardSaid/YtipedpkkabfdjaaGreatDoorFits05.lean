/- keccak.theta. keccak.Round, keccak.Permute. keccak.Permute. shake.mix: a block of text into the state. -/
import Derived.Test.YtipedpkkabfdjaaGreatDoorFits04
import Derived.Deep.WholeRow
import Derived.Deep.MidRow
/- keccak.theta. -/
namespace Go.Proofs.Sl
open Go Go.RowKit Go.Proofs

theorem xorQ (x y : UInt64) : bits .xor .u64 (x.toNat : Int) (y.toNat : Int) = ((x ^^^ y).toNat : Int) := by
  rw [bits_xor_u64_nat _ _ x.toNat_lt y.toNat_lt, UInt64.toNat_xor]
theorem Own.drewN {α : Type} {enc : α → Value} {B : Nat} {w : World} {A : Option Addr} {n c : Nat} {l : List α} (h : Own enc B w A n c l) (k : Nat) : Own enc B (w.drewN k) A n c l := h.below (below_drewN (Below.refl _ _) k)
theorem grown_trans {x y z : World} {row : Option Nat} (h : x.grownBy y row) (k : y.grownBy z row) : x.grownBy z row :=
  ⟨k.1.trans h.1, k.2.trans h.2, k.3.trans h.3, Nat.le_trans h.4 k.4, fun i hi hne => (k.5 i (Nat.lt_of_lt_of_le hi h.4) hne).trans (h.5 i hi hne)⟩

/-- The five columns when k words have come. -/
def colTo (st : List UInt64) : Nat → List UInt64
  | 0 => List.replicate 5 0
  | k + 1 => (colTo st k).set (k % 5) ((colTo st k).getD (k % 5) 0 ^^^ lane st k)
theorem colTo_length (st : List UInt64) : ∀ k, (colTo st k).length = 5
  | 0 => rfl
  | k + 1 => by simp [colTo, colTo_length st k]
theorem colTo_full (st : List UInt64) (x : Nat) (hx : x < 5) : (colTo st 25).getD x 0 = colC st x := by
  match x, hx with
  | 0, _ => simp [colTo, colC, List.replicate]
  | 1, _ => simp [colTo, colC, List.replicate]
  | 2, _ => simp [colTo, colC, List.replicate]
  | 3, _ => simp [colTo, colC, List.replicate]
  | 4, _ => simp [colTo, colC, List.replicate]
def thetaTo (st : List UInt64) (k : Nat) : List UInt64 := (List.range 25).map fun i => if i < k then lane st i ^^^ (colC st ((i + 4) % 5) ^^^ rotl (colC st ((i + 1) % 5)) 1) else lane st i
theorem thetaTo_length (st : List UInt64) (k : Nat) : (thetaTo st k).length = 25 := by simp [thetaTo]
theorem thetaTo_zero (st : List UInt64) (h : st.length = 25) : thetaTo st 0 = st := by
  apply List.ext_getElem
  · rw [thetaTo_length, h]
  · intro i h1 h2
    simp [thetaTo, lane, h2]
theorem thetaTo_full (st : List UInt64) : thetaTo st 25 = thetaL st := by
  unfold thetaTo thetaL
  apply List.map_congr_left
  intro i hi
  rw [if_pos (List.mem_range.1 hi)]
theorem thetaTo_at (st : List UInt64) (k : Nat) (h : k < 25) : (thetaTo st k)[k]'(by rw [thetaTo_length]; exact h) = lane st k := by simp [thetaTo]
theorem thetaTo_step (st : List UInt64) (k : Nat) : (thetaTo st k).set k (lane st k ^^^ (colC st ((k + 4) % 5) ^^^ rotl (colC st ((k + 1) % 5)) 1)) = thetaTo st (k + 1) := by
  apply List.ext_getElem
  · simp [thetaTo_length]
  · intro i h1 h2
    by_cases e : k = i
    · subst e; simp [thetaTo]
    · rw [List.getElem_set_ne e]
      simp only [thetaTo, List.getElem_map, List.getElem_range]
      by_cases hi : i < k
      · rw [if_pos hi, if_pos (by omega)]
      · rw [if_neg hi, if_neg (by omega)]

set_option maxHeartbeats 2000000 in
theorem theta_any (b B : Nat) (st : List UInt64) (w : World) (h : Own eQ B w (some ⟨b, 0, none⟩) 25 25 st) :
    Calls Tryz.prog 119 #[.pointer (some ⟨b, 0, none⟩)] w (fun e w' => e = .returned (.tuple #[]) ∧ Own eQ B w' (some ⟨b, 0, none⟩) 25 25 (thetaL st) ∧ w.grownBy w' (some b)) := by
  have hbl := h.base
  have hlen := h.len
  go_enter Tryz.func119, Tryz.ntmps119
  go_wp2
  generalize hW0 : World.alloc w _ = W0
  have hO : Own eQ B W0 (some ⟨b, 0, none⟩) 25 25 st := by rw [← hW0]; exact h.alloc _
  have hC : Own eQ 0 W0 (some ⟨w.heap.size, 0, none⟩) 5 5 (colTo st 0) := by
    rw [← hW0]
    exact Own.new (enc := eQ) w _ (List.replicate 5 0) (Nat.zero_le _) (by simp)
  have hg0 : w.grownBy W0 (some b) := by rw [← hW0]; exact ⟨rfl, rfl, rfl, by simp, fun k hk _ => Below.heap_alloc w _ k hk⟩
  have HO := Lib.hid hO
  have HC := Lib.hid hC
  have HG := Lib.hid hg0
  clear hW0 hO hC hg0 h
  generalize hcb : w.heap.size = cb at *
  have hne : b ≠ cb := by omega
  go_loopw [8] (fun i wr => ∃ k : Nat, k ≤ 25 ∧ i = .int .i64 (k : Int) ∧ Own eQ 0 wr (some ⟨cb, 0, none⟩) 5 5 (colTo st k) ∧ Own eQ B wr (some ⟨b, 0, none⟩) 25 25 st ∧ w.grownBy wr (some b)) (fun i _ => 25 - (intOf i).toNat)
  case atStart => exact ⟨0, Nat.zero_le _, rfl, HC.out, HO.out, HG.out⟩
  case round =>
    obtain ⟨k, hk, rfl, hc, ho, hg⟩ := hrel
    by_cases hlt : k < 25
    · have hcell := ho.cell_at k hlt
      have hk5 : k % 5 < 5 := Nat.mod_lt _ (by omega)
      have hcc := hc.cell_at (k % 5) hk5
      have hcf := hc.free_at (k % 5) hk5
      have hx := xorQ ((colTo st k)[k % 5]'(by rw [colTo_length]; exact hk5)) st[k]
      have hnx : (colTo st k).set (k % 5) ((colTo st k)[k % 5]'(by rw [colTo_length]; exact hk5) ^^^ st[k]) = colTo st (k + 1) := by
        rw [show colTo st (k + 1) = (colTo st k).set (k % 5) ((colTo st k).getD (k % 5) 0 ^^^ lane st k) from rfl]
        have e1 : (colTo st k).getD (k % 5) 0 = (colTo st k)[k % 5]'(by rw [colTo_length]; exact hk5) := by simp [List.getD, colTo_length, hk5]
        have e2 : lane st k = st[k] := by simp [lane, List.getD, hlen, hlt]
        rw [e1, e2]
      generalize hv : (colTo st k)[k % 5]'(by rw [colTo_length]; exact hk5) = v at *
      generalize hu : st[k] = u at *
      have HNX := Lib.hid hnx
      have HCC := Lib.hid hc
      have HOO := Lib.hid ho
      have HGG := Lib.hid hg
      have hx' : bits .xor .u64 (v.toNat : Int) (u.toNat : Int) = ((v ^^^ u).toNat : Int) := hx
      generalize hy : (v ^^^ u).toNat = y at *
      have HY := Lib.hid hy
      clear hnx hg ho hc hx hy
      go_wp2_with fail
      go_quiet (fail)
      go_wp2
      go_roundw
      case rel =>
        have hc2 := (HCC.out.drewN nq).set (k % 5) hk5 (v ^^^ u)
        rw [HNX.out] at hc2
        have hv2 : eQ (v ^^^ u) = .int .u64 (y : Int) := by rw [← HY.out]
        rw [hv2] at hc2
        refine ⟨k + 1, by omega, by go_num, hc2, (HOO.out.drewN nq).set_other ⟨cb, k % 5, none⟩ _ (by intro e; injection e with e; injection e with e; exact hne e), ?_⟩
        exact ⟨HGG.out.1, HGG.out.2, HGG.out.3, by have := HGG.out.4; simpa [World.setCell] using this, fun i hi hne' => (block_set _ _ _ _ (show i ≠ cb by omega)).trans (HGG.out.5 i hi hne')⟩
      case measure => simp [intOf]; omega
    · obtain rfl : k = 25 := by omega
      have HCC := Lib.hid hc
      have HOO : Hid (Own eQ B wr (some ⟨b, 0, none⟩) 25 25 (thetaTo st 0)) := Lib.hid (by rw [thetaTo_zero st hlen]; exact ho)
      have HGG := Lib.hid hg
      clear hg ho hc
      go_wp2
      go_loopw [22] (fun i wr => ∃ k : Nat, k ≤ 25 ∧ i = .int .i64 (k : Int) ∧ Own eQ 0 wr (some ⟨cb, 0, none⟩) 5 5 (colTo st 25) ∧ Own eQ B wr (some ⟨b, 0, none⟩) 25 25 (thetaTo st k) ∧ w.grownBy wr (some b)) (fun i _ => 25 - (intOf i).toNat)
      case atStart => exact ⟨0, Nat.zero_le _, rfl, HCC.out, HOO.out, HGG.out⟩
      case round =>
        obtain ⟨k, hk, rfl, hc, ho, hg⟩ := hrel
        clear HCC HOO HGG
        by_cases hlt : k < 25
        · have hcell := ho.cell_at k hlt
          have hfr := ho.free_at k hlt
          rw [thetaTo_at st k hlt] at hcell
          have hm4 : (k % 5 + 4) % 5 < 5 := Nat.mod_lt _ (by omega)
          have hm1 : (k % 5 + 1) % 5 < 5 := Nat.mod_lt _ (by omega)
          have hc4 := hc.cell_at ((k % 5 + 4) % 5) hm4
          have hc1 := hc.cell_at ((k % 5 + 1) % 5) hm1
          have hst := thetaTo_step st k
          have g4 : (colTo st 25)[(k % 5 + 4) % 5]'(by rw [colTo_length]; exact hm4) = colC st ((k + 4) % 5) := by
            rw [← colTo_full st ((k + 4) % 5) (Nat.mod_lt _ (by omega))]
            simp [List.getD, colTo_length, show (k % 5 + 4) % 5 = (k + 4) % 5 by omega, Nat.mod_lt]
          have g1 : (colTo st 25)[(k % 5 + 1) % 5]'(by rw [colTo_length]; exact hm1) = colC st ((k + 1) % 5) := by
            rw [← colTo_full st ((k + 1) % 5) (Nat.mod_lt _ (by omega))]
            simp [List.getD, colTo_length, show (k % 5 + 1) % 5 = (k + 1) % 5 by omega, Nat.mod_lt]
          rw [g4] at hc4
          rw [g1] at hc1
          generalize colC st ((k + 4) % 5) = V4 at *
          generalize colC st ((k + 1) % 5) = V1 at *
          generalize lane st k = U at *
          have hx1 := xorQ V4 (rotl V1 1)
          have hx2 := xorQ U (V4 ^^^ rotl V1 1)
          have i4 : ((((k % 5 : Nat) : Int) + 4) % 5) = (((k % 5 + 4) % 5 : Nat) : Int) := by omega
          have i1 : ((((k % 5 : Nat) : Int) + 1) % 5) = (((k % 5 + 1) % 5 : Nat) : Int) := by omega
          have i0 : (k : Int) % 5 = ((k % 5 : Nat) : Int) := by omega
          have hx5 : k % 5 < 5 := Nat.mod_lt _ (by omega)
          generalize (k % 5 + 4) % 5 = x4 at *
          generalize (k % 5 + 1) % 5 = x1 at *
          generalize k % 5 = x at *
          have HST := Lib.hid hst
          have HCC := Lib.hid hc
          have HOO := Lib.hid ho
          have HGG := Lib.hid hg
          generalize hr : (rotl V1 1).toNat = r at *
          generalize hy1 : (V4 ^^^ rotl V1 1).toNat = y1 at *
          generalize hy2 : (U ^^^ (V4 ^^^ rotl V1 1)).toNat = y2 at *
          generalize hu : U.toNat = u at *
          generalize hv4 : V4.toNat = v4 at *
          have HR := Lib.hid hr
          have HY2 := Lib.hid hy2
          have kc : wr.drew.cell? ⟨b, k, none⟩ = some (.int .u64 (u : Int)) := by rw [← hu]; exact hcell
          have kf : wr.drew.frozen? ⟨b, k, none⟩ = false := hfr
          have k4 : wr.drew.cell? ⟨cb, x4, none⟩ = some (.int .u64 (v4 : Int)) := by rw [← hv4]; exact hc4
          have k1 : wr.drew.cell? ⟨cb, x1, none⟩ = some (.int .u64 (V1.toNat : Int)) := hc1
          clear hst hc ho hg hr hy1 hy2 g4 g1 hcell hfr hc4 hc1 hu hv4
          go_wp2_with fail
          refine wp_region_rg (fun x y : World => x = y) 48 20 14 [[], [], [], [], [], [], [], [], [], [], [], [], [], [], [], [], [], [], [], []]
            [.still [] (.pointer (some ⟨b, 0, none⟩)), .still [] (.int .i64 (k : Int)), .still [] (.pointer (some ⟨b, 0, none⟩)), .still [] (.pointer (some ⟨b, k, none⟩)), .still [] (.int .u64 (u : Int)), .still [] (.int .i64 (x : Int)), .still [] (.int .i64 ((x : Int) + 4)), .still [] (.int .i64 (x4 : Int)), .still [] (.pointer (some ⟨cb, x4, none⟩)), .still [] (.int .u64 (v4 : Int)), .still [] (.int .i64 (x : Int)), .still [] (.int .i64 ((x : Int) + 1)), .still [] (.int .i64 (x1 : Int)), .still [] (.pointer (some ⟨cb, x1, none⟩)), .still [] (.int .u64 (V1.toNat : Int)), .still [] (.int .u64 (r : Int)), .still [] (.int .u64 (y1 : Int)), .still [] (.int .u64 (y2 : Int)), .still [] (.pointer (some ⟨b, 0, none⟩)), .still [] (.pointer (some ⟨b, k, none⟩))] (by kernel_rfl) (by kernel_rfl) rfl rfl rfl (fun _ _ _ h k => h.trans k) rfl ?_
          refine Obl.still (fun W' hg _ => ?_) ?_
          · subst hg
            go_wp2
            exact ⟨rfl, rfl, rfl, rfl⟩
          simp only [Act.put, List.setIfInBounds_toArray, List.set_cons_zero, List.set_cons_succ]
          refine Obl.still (fun W' hg _ => ?_) ?_
          · subst hg
            go_wp2
            exact ⟨rfl, rfl, rfl, rfl⟩
          simp only [Act.put, List.setIfInBounds_toArray, List.set_cons_zero, List.set_cons_succ]
          refine Obl.still (fun W' hg _ => ?_) ?_
          · subst hg
            go_wp2
            exact ⟨rfl, rfl, rfl, rfl⟩
          simp only [Act.put, List.setIfInBounds_toArray, List.set_cons_zero, List.set_cons_succ]
          refine Obl.still (fun W' hg _ => ?_) ?_
          · subst hg
            go_wp2
            exact ⟨rfl, rfl, rfl, rfl⟩
          simp only [Act.put, List.setIfInBounds_toArray, List.set_cons_zero, List.set_cons_succ]
          refine Obl.still (fun W' hg _ => ?_) ?_
          · subst hg
            go_wp2
            exact ⟨rfl, rfl, rfl, rfl⟩
          simp only [Act.put, List.setIfInBounds_toArray, List.set_cons_zero, List.set_cons_succ]
          refine Obl.still (fun W' hg _ => ?_) ?_
          · subst hg
            go_wp2
            exact ⟨rfl, rfl, rfl, rfl⟩
          simp only [Act.put, List.setIfInBounds_toArray, List.set_cons_zero, List.set_cons_succ]
          refine Obl.still (fun W' hg _ => ?_) ?_
          · subst hg
            go_wp2
            exact ⟨rfl, rfl, rfl, rfl⟩
          simp only [Act.put, List.setIfInBounds_toArray, List.set_cons_zero, List.set_cons_succ]
          refine Obl.still (fun W' hg _ => ?_) ?_
          · subst hg
            go_wp2
            exact ⟨rfl, rfl, rfl, rfl⟩
          simp only [Act.put, List.setIfInBounds_toArray, List.set_cons_zero, List.set_cons_succ]
          refine Obl.still (fun W' hg _ => ?_) ?_
          · subst hg
            go_wp2
            exact ⟨rfl, rfl, rfl, rfl⟩
          simp only [Act.put, List.setIfInBounds_toArray, List.set_cons_zero, List.set_cons_succ]
          refine Obl.still (fun W' hg _ => ?_) ?_
          · subst hg
            go_wp2
            exact ⟨rfl, rfl, rfl, rfl⟩
          simp only [Act.put, List.setIfInBounds_toArray, List.set_cons_zero, List.set_cons_succ]
          refine Obl.still (fun W' hg _ => ?_) ?_
          · subst hg
            go_wp2
            exact ⟨rfl, rfl, rfl, rfl⟩
          simp only [Act.put, List.setIfInBounds_toArray, List.set_cons_zero, List.set_cons_succ]
          refine Obl.still (fun W' hg _ => ?_) ?_
          · subst hg
            go_wp2
            exact ⟨rfl, rfl, rfl, rfl⟩
          simp only [Act.put, List.setIfInBounds_toArray, List.set_cons_zero, List.set_cons_succ]
          refine Obl.still (fun W' hg _ => ?_) ?_
          · subst hg
            go_wp2
            exact ⟨rfl, rfl, rfl, rfl⟩
          simp only [Act.put, List.setIfInBounds_toArray, List.set_cons_zero, List.set_cons_succ]
          refine Obl.still (fun W' hg _ => ?_) ?_
          · subst hg
            go_wp2
            exact ⟨rfl, rfl, rfl, rfl⟩
          simp only [Act.put, List.setIfInBounds_toArray, List.set_cons_zero, List.set_cons_succ]
          refine Obl.still (fun W' hg _ => ?_) ?_
          · subst hg
            go_wp2
            exact ⟨rfl, rfl, rfl, rfl⟩
          simp only [Act.put, List.setIfInBounds_toArray, List.set_cons_zero, List.set_cons_succ]
          refine Obl.still (fun W' hg _ => ?_) ?_
          · subst hg
            have HCR := Lib.hid (rot_any V1 1 wr.drew (by omega))
            rw [HR.out] at HCR
            go_wp2_with fail
            refine HCR.out.mono ?_
            rintro e w' ⟨rfl, rfl⟩
            clear HCR
            go_wp2
            exact ⟨rfl, rfl, rfl, rfl⟩
          simp only [Act.put, List.setIfInBounds_toArray, List.set_cons_zero, List.set_cons_succ]
          refine Obl.still (fun W' hg _ => ?_) ?_
          · subst hg
            go_wp2
            exact ⟨rfl, rfl, rfl, rfl⟩
          simp only [Act.put, List.setIfInBounds_toArray, List.set_cons_zero, List.set_cons_succ]
          refine Obl.still (fun W' hg _ => ?_) ?_
          · subst hg
            go_wp2
            exact ⟨rfl, rfl, rfl, rfl⟩
          simp only [Act.put, List.setIfInBounds_toArray, List.set_cons_zero, List.set_cons_succ]
          refine Obl.still (fun W' hg _ => ?_) ?_
          · subst hg
            go_wp2
            exact ⟨rfl, rfl, rfl, rfl⟩
          simp only [Act.put, List.setIfInBounds_toArray, List.set_cons_zero, List.set_cons_succ]
          refine Obl.still (fun W' hg _ => ?_) ?_
          · subst hg
            go_wp2
            exact ⟨rfl, rfl, rfl, rfl⟩
          simp only [Act.put, List.setIfInBounds_toArray, List.set_cons_zero, List.set_cons_succ]
          refine Obl.done (fun W' hg hall => ?_)
          subst hg
          go_wp2
          go_roundw
          case rel =>
            have ho2 := HOO.out.drew.set k hlt (U ^^^ (V4 ^^^ rotl V1 1))
            rw [HST.out] at ho2
            have hv2 : eQ (U ^^^ (V4 ^^^ rotl V1 1)) = .int .u64 (y2 : Int) := by rw [← HY2.out]
            rw [hv2] at ho2
            refine ⟨k + 1, by omega, by go_num, HCC.out.drew.set_other ⟨b, k, none⟩ _ (by intro e; injection e with e; injection e with e; exact hne e.symm), ho2, ?_⟩
            exact ⟨HGG.out.1, HGG.out.2, HGG.out.3, by have := HGG.out.4; simpa [World.setCell] using this, fun i hi hne' => (block_set _ _ _ _ (show i ≠ b from fun e => hne' (by rw [e]))).trans (HGG.out.5 i hi hne')⟩
          case measure => simp [intOf]; omega
        · obtain rfl : k = 25 := by omega
          have HOO : Hid (Own eQ B wr (some ⟨b, 0, none⟩) 25 25 (thetaL st)) := Lib.hid (by rw [← thetaTo_full]; exact ho)
          have HGG := Lib.hid hg
          clear hg ho hc
          go_wp2
          go_end0
          exact ⟨rfl, HOO.out, HGG.out⟩
end Go.Proofs.Sl

/- keccak.Round, keccak.Permute. -/
namespace Go.Proofs.Sl
open Go Go.RowKit Go.Proofs

def invP (j : Nat) : Nat := (j % 5 + 3 * (j / 5)) % 5 + 5 * (j % 5)
def destP (k : Nat) : Nat := k / 5 + 5 * ((2 * (k % 5) + 3 * (k / 5)) % 5)
theorem invP_iff : ∀ j, j < 25 → ∀ k, k < 25 → (invP j = k ↔ j = destP k) := by decide
theorem invP_lt : ∀ j, j < 25 → invP j < 25 := by decide
theorem destP_lt : ∀ k, k < 25 → destP k < 25 := by decide
def rhoTo (s : List UInt64) (k : Nat) : List UInt64 := (List.range 25).map fun j => if invP j < k then rotl (lane s (invP j)) (turnsL.getD (invP j) 0) else 0
theorem rhoTo_length (s : List UInt64) (k : Nat) : (rhoTo s k).length = 25 := by simp [rhoTo]
theorem rhoTo_zero (s : List UInt64) : rhoTo s 0 = List.replicate 25 0 := by
  apply List.ext_getElem
  · simp [rhoTo]
  · intro i h1 h2
    rw [List.getElem_replicate]
    simp only [rhoTo, List.getElem_map, List.getElem_range]
    rw [if_neg (by omega)]
theorem rhoTo_full (s : List UInt64) : rhoTo s 25 = rhoPi s := by
  unfold rhoTo rhoPi
  apply List.map_congr_left
  intro j hj
  rw [if_pos (invP_lt j (List.mem_range.1 hj))]
  rfl
theorem rhoTo_step (s : List UInt64) (k : Nat) (hk : k < 25) : (rhoTo s k).set (destP k) (rotl (lane s k) (turnsL.getD k 0)) = rhoTo s (k + 1) := by
  apply List.ext_getElem
  · simp [rhoTo_length]
  · intro j h1 h2
    have hj : j < 25 := by rw [rhoTo_length] at h2; exact h2
    by_cases e : destP k = j
    · subst e
      have := (invP_iff (destP k) hj k hk).2 rfl
      rw [List.getElem_set_self]
      simp [rhoTo, this]
    · rw [List.getElem_set_ne e]
      have hne : invP j ≠ k := fun h => e ((invP_iff j hj k hk).1 h).symm
      simp only [rhoTo, List.getElem_map, List.getElem_range]
      by_cases h : invP j < k
      · rw [if_pos h, if_pos (by omega)]
      · rw [if_neg h, if_neg (by omega)]
theorem rc_lt : ∀ k, k < 24 → rcL.getD k 0 < 18446744073709551616 := by decide
theorem turns_lt : ∀ k, k < 25 → turnsL.getD k 0 < 64 := by decide

def chiTo (th b : List UInt64) (k : Nat) : List UInt64 := (List.range 25).map fun j => if j < k then lane b j ^^^ (notL (lane b ((j % 5 + 1) % 5 + 5 * (j / 5))) &&& lane b ((j % 5 + 2) % 5 + 5 * (j / 5))) else lane th j
theorem chiTo_length (th b : List UInt64) (k : Nat) : (chiTo th b k).length = 25 := by simp [chiTo]
theorem chiTo_zero (th b : List UInt64) (h : th.length = 25) : chiTo th b 0 = th := by
  apply List.ext_getElem
  · rw [chiTo_length, h]
  · intro i h1 h2; simp [chiTo, lane, h2]
theorem chiTo_full (th b : List UInt64) : chiTo th b 25 = chiL b := by
  unfold chiTo chiL
  apply List.map_congr_left
  intro i hi
  rw [if_pos (List.mem_range.1 hi)]
theorem chiTo_step (th b : List UInt64) (k : Nat) : (chiTo th b k).set k (lane b k ^^^ (notL (lane b ((k % 5 + 1) % 5 + 5 * (k / 5))) &&& lane b ((k % 5 + 2) % 5 + 5 * (k / 5)))) = chiTo th b (k + 1) := by
  apply List.ext_getElem
  · simp [chiTo_length]
  · intro i h1 h2
    by_cases e : k = i
    · subst e; simp [chiTo]
    · rw [List.getElem_set_ne e]
      simp only [chiTo, List.getElem_map, List.getElem_range]
      by_cases hi : i < k
      · rw [if_pos hi, if_pos (by omega)]
      · rw [if_neg hi, if_neg (by omega)]
theorem lane_cell {B b : Nat} {st : List UInt64} {w : World} (h : Own eQ B w (some ⟨b, 0, none⟩) 25 25 st) (j : Nat) (hj : j < 25) : w.cell? ⟨b, j, none⟩ = some (.int .u64 ((lane st j).toNat : Int)) := by
  rw [h.cell_at j hj]
  have hj' : j < st.length := by rw [h.len]; exact hj
  simp [lane, List.getD, hj']

theorem andQ (x y : UInt64) : bits .and .u64 (x.toNat : Int) (y.toNat : Int) = ((x &&& y).toNat : Int) := by
  rw [bits_and_u64_nat _ _ x.toNat_lt y.toNat_lt, UInt64.toNat_and]
theorem onesQ : (if IntKind.u64.signed = true then (-1 : Int) else IntKind.u64.max) = ((18446744073709551615 : UInt64).toNat : Int) := by kernel_rfl
theorem chiQ (u0 u1 u2 : UInt64) : bits .xor .u64 (u0.toNat : Int) (bits .and .u64 (bits .xor .u64 (if IntKind.u64.signed = true then (-1 : Int) else IntKind.u64.max) (u1.toNat : Int)) (u2.toNat : Int)) = ((u0 ^^^ (notL u1 &&& u2)).toNat : Int) := by
  rw [onesQ, xorQ, andQ, xorQ, UInt64.xor_comm 18446744073709551615 u1]
  rfl

/-- A state as a value. -/
def vSt (st : List UInt64) : Value := .agg (st.map eQ).toArray
theorem infoS : (Tryz.prog.info? 100).map (fun i => (i.zero, i.size)) = some (some (vSt (List.replicate 25 0)), 25) := by kernel_rfl

theorem range25 {B b : Nat} {st : List UInt64} {w : World} (h : Own eQ B w (some ⟨b, 0, none⟩) 25 25 st) : w.rangeAt b 0 (st.map eQ) := fun j v hv => by
  have hj : j < st.length := by have := (List.getElem?_eq_some_iff.1 hv).1; simpa using this
  rw [Nat.zero_add, h.cell_at j (by rw [← h.len]; exact hj)]
  simpa [hj] using hv

theorem there25 {B b : Nat} {st : List UInt64} {w : World} (h : Own eQ B w (some ⟨b, 0, none⟩) 25 25 st) {n : Nat} (hn : n = 25) : w.there b 0 n := fun j hj => by
  obtain ⟨v, hv⟩ := h.some_at j (by omega)
  rw [Nat.zero_add]
  exact ⟨by rw [hv]; rfl, h.free_at j (by omega)⟩
theorem Own.setFrom {α : Type} {enc : α → Value} {B g n c : Nat} : ∀ (r : List α) (o : Nat) (l : List α) (w : World), Own enc B w (some ⟨g, 0, none⟩) n c l → o + r.length = n → Own enc B (w.setCells g o (r.map enc)) (some ⟨g, 0, none⟩) n c (l.take o ++ r)
  | [], o, l, w, h, ho => by
    have : l.take o = l := List.take_of_length_le (by rw [h.len]; simpa using Nat.le_of_eq ho.symm)
    rw [this, List.append_nil]
    exact h
  | x :: r, o, l, w, h, ho => by
    have h1 := Own.setFrom r (o + 1) (l.set o x) (w.setCell ⟨g, o, none⟩ (enc x)) (h.set o (by simp at ho; omega) x) (by simp at ho; omega)
    have hol : o < l.length := by rw [h.len]; simp at ho; omega
    have e : (l.set o x).take (o + 1) ++ r = l.take o ++ x :: r := by
      rw [List.take_add_one, List.take_set_of_le (Nat.le_refl o)]
      simp [hol]
    rw [e] at h1
    exact h1
theorem Own.setAll {α : Type} {enc : α → Value} {B g n c : Nat} {l : List α} {w : World} (h : Own enc B w (some ⟨g, 0, none⟩) n c l) (r : List α) (hr : r.length = n) : Own enc B (w.setCells g 0 (r.map enc)) (some ⟨g, 0, none⟩) n c r := by
  have := Own.setFrom r 0 l w h (by omega)
  simpa using this
theorem below_setCells {B : Nat} {w0 : World} {g : Nat} (hg : B ≤ g) : ∀ (vs : List Value) (o : Nat) (w : World), Below B w0 w → Below B w0 (w.setCells g o vs)
  | [], _, _, h => h
  | v :: vs, o, w, h => below_setCells hg vs (o + 1) (w.setCell ⟨g, o, none⟩ v) (h.setCell (p := ⟨g, o, none⟩) hg v)

theorem results_cell_mid {P : Program} {fn : Func} {p : Tmp} {ty : TypeId} (h : fn.results = #[.cell p ty]) (tmps : Array Value) (w : World) (b o : Nat) (hp : tmps.getD p undef = .pointer (some ⟨b, o, none⟩)) (cs : List Value) (d : TypeDesc) (hc : w.rangeAt b o cs) (hu : P.underlying ty = some d) (hd : d.isRow = true) (hi : (P.info? ty).map (·.size) = some cs.length) : (results fn tmps).run P w = .ok (.agg cs.toArray) w := by
  have hp' : tmps[p]?.getD undef = .pointer (some ⟨b, o, none⟩) := by simpa using hp
  simp [results, h, hp', asAddr, run_loadVar_mid w b o ty cs d hc hu hd hi]
theorem run_index25 (cs : Array Value) (k : Nat) (u : UInt64) (w : World) (hk : k < 25) (hv : cs[k]? = some (eQ u)) : (Instr.index 100 (.agg cs) (.int .i64 (k : Int))).run Tryz.prog w = .ok (eQ u) w := by
  have ha := Tryz.isAgg28
  have hs := Tryz.sizeOf28
  have h0 : (0 : Int) ≤ (k : Int) := by omega
  simp [Instr.index, go_sem, ha, hs, h0, hv]
  intro h
  omega

set_option maxHeartbeats 4000000 in
set_option maxRecDepth 20000 in
theorem round_any (st : List UInt64) (i : Nat) (w : World) (hL : Laid w) (hl : st.length = 25) (hi : i < 24) :
    Calls Tryz.prog 112 #[vSt st, .int .i64 (i : Int)] w (RetV w (vSt (roundL st (rcL.getD i 0)))) := by
  have hz := zero_of_info infoS
  obtain ⟨zs, hzs⟩ : ∃ zs, List.replicate 25 (0 : UInt64) = zs := ⟨_, rfl⟩
  rw [hzs] at hz
  have HZL : Hid (zs.length = 25) := Lib.hid (by rw [← hzs]; simp)
  have HZS := Lib.hid hzs
  clear hzs
  have HL := Lib.hid hL
  have HLL := Lib.hid hl
  clear hL hl
  unfold vSt at hz ⊢
  go_enter Tryz.func112, Tryz.ntmps112
  go_wp2_with fail
  have hO : Own eQ w.heap.size ((w.alloc (.cells (st.map eQ).toArray 100)).alloc (.cells (zs.map eQ).toArray 100)) (some ⟨w.heap.size, 0, none⟩) 25 25 st := by
    have := Own.new (enc := eQ) (B := w.heap.size) w 100 st (Nat.le_refl _) (by rw [HLL.out]; omega)
    rw [HLL.out] at this
    exact this.alloc _
  have hg1 : Below w.heap.size w ((w.alloc (.cells (st.map eQ).toArray 100)).alloc (.cells (zs.map eQ).toArray 100)) := ((Below.refl _ _).alloc (Nat.le_refl _) _).alloc (by simp) _
  have hR0 : Own eQ w.heap.size ((w.alloc (.cells (st.map eQ).toArray 100)).alloc (.cells (zs.map eQ).toArray 100)) (some ⟨w.heap.size + 1, 0, none⟩) 25 25 zs := by
    have := Own.new (enc := eQ) (B := w.heap.size) (w.alloc (.cells (st.map eQ).toArray 100)) 100 zs (by simp) (by rw [HZL.out]; omega)
    rw [HZL.out] at this
    simpa using this
  refine (theta_any w.heap.size w.heap.size st _ hO).mono ?_
  rintro e w2 ⟨rfl, ho2, g2⟩
  have hr2 : Own eQ w.heap.size w2 (some ⟨w.heap.size + 1, 0, none⟩) 25 25 zs := hR0.same g2.4 (fun g hg => by injection hg with hg; injection hg with hg; subst hg; exact g2.5 _ (by simp) (by simp))
  have gg2 : Below w.heap.size w w2 := hg1.grown g2 (by simp; omega) (fun k hk => by cases hk; exact Nat.le_refl _)
  have hz2 : w.heap.size + 1 < w2.heap.size := by have := g2.4; simp at this; omega
  clear hO hR0 hg1 g2
  have ho3 : Own eQ w.heap.size (w2.alloc (.cells (zs.map eQ).toArray 100)) (some ⟨w.heap.size, 0, none⟩) 25 25 (thetaL st) := ho2.alloc _
  have HRG := Lib.hid (range25 ho3)
  have HSZ : Hid ((Tryz.prog.info? 100).map (·.size) = some ((thetaL st).map eQ).length) := Lib.hid (by rw [hz.2]; simp [thetaL])
  have HO2 := Lib.hid ho2
  have HR2 := Lib.hid hr2
  clear ho3 ho2 hr2
  go_wp2_with (refine wpList_load_mid rfl 100 (.tmp 2) rfl w.heap.size 0 rfl ((thetaL st).map eQ) _ HRG.out Tryz.underlying100 rfl HSZ.out ?_)
  have hB0 : Own eQ w2.heap.size (w2.alloc (.cells (zs.map eQ).toArray 100)) (some ⟨w2.heap.size, 0, none⟩) 25 25 (rhoTo (thetaL st) 0) := by
    have := Own.new (enc := eQ) (B := w2.heap.size) w2 100 zs (Nat.le_refl _) (by rw [HZL.out]; omega)
    rw [HZL.out] at this
    rw [rhoTo_zero, HZS.out]
    exact this
  have HA3 := Lib.hid (HO2.out.alloc (.cells (zs.map eQ).toArray 100))
  have HR3 := Lib.hid (HR2.out.alloc (.cells (zs.map eQ).toArray 100))
  have gg3 : Below w.heap.size w (w2.alloc (.cells (zs.map eQ).toArray 100)) := gg2.alloc gg2.size _
  have htl : (thetaL st).length = 25 := by simp [thetaL]
  have HB0 := Lib.hid hB0
  have HG3 := Lib.hid gg3
  clear hB0 gg3
  generalize hbb : w2.heap.size = bb at *
  generalize World.alloc w2 _ = w3 at *
  generalize hth : thetaL st = th at *
  have HTH := Lib.hid hth
  clear hth
  clear HRG HSZ HO2 HR2 gg2
  go_loopw [22] (fun i wr => ∃ k : Nat, k ≤ 25 ∧ i = .int .i64 (k : Int) ∧ Own eQ bb wr (some ⟨bb, 0, none⟩) 25 25 (rhoTo th k) ∧ Own eQ w.heap.size wr (some ⟨w.heap.size, 0, none⟩) 25 25 th ∧ Own eQ w.heap.size wr (some ⟨w.heap.size + 1, 0, none⟩) 25 25 zs ∧ Below w.heap.size w wr) (fun i _ => 25 - (intOf i).toNat)
  case atStart => exact ⟨0, Nat.zero_le _, rfl, HB0.out, HA3.out, HR3.out, HG3.out⟩
  case round =>
    obtain ⟨k, hk, rfl, hb, ha, hr, hg⟩ := hrel
    by_cases hlt : k < 25
    · have hdl := destP_lt k hlt
      obtain ⟨v0, hcb⟩ := hb.some_at (destP k) hdl
      have hcf := hb.free_at (destP k) hdl
      have htu := ((HL.out.below hg).1 k hlt)
      have htl2 := turns_lt k hlt
      have hst := rhoTo_step th k hlt
      have hix := run_index25 (th.map eQ).toArray k (lane th k) wr hlt (by simp [lane, List.getD, htl, hlt])
      have hro := rot_any (lane th k) (turnsL.getD k 0) 
      generalize htk : turnsL.getD k 0 = tk at *
      generalize hlu : lane th k = u at *
      generalize hdk : destP k = dk at *
      have hdx : (k : Int) / 5 + 5 * ((2 * ((k : Int) % 5) + 3 * ((k : Int) / 5)) % 5) = (dk : Int) := by rw [← hdk]; unfold destP; omega
      have HST := Lib.hid hst
      have HRO := Lib.hid (fun w => hro w htl2)
      have HBq := Lib.hid hb
      have HAq := Lib.hid ha
      have HRq := Lib.hid hr
      have HGq := Lib.hid hg
      clear hst hro hb ha hr hg htk hlu hdk HB0 HA3 HR3 HG3
      go_wp2_with fail
      refine (HRO.out wr).mono ?_
      rintro e w4 ⟨rfl, rfl⟩
      go_wp2
      have hne1 : (some ⟨w.heap.size, 0, none⟩ : Option Addr) ≠ some ⟨bb, 0, none⟩ := by intro e; injection e with e; injection e with e; omega
      have hne2 : (some ⟨w.heap.size + 1, 0, none⟩ : Option Addr) ≠ some ⟨bb, 0, none⟩ := by intro e; injection e with e; injection e with e; omega
      have hb2 := HBq.out.set dk hdl (rotl u tk)
      rw [HST.out] at hb2
      go_roundw
      case rel => exact ⟨k + 1, by omega, by go_num, hb2, HAq.out.set_other ⟨bb, dk, none⟩ _ hne1, HRq.out.set_other ⟨bb, dk, none⟩ _ hne2, HGq.out.setCell (p := ⟨bb, dk, none⟩) (show w.heap.size ≤ bb by omega) _⟩
      case measure => simp [intOf]; omega
    · obtain rfl : k = 25 := by omega
      rw [rhoTo_full] at hb
      have HBq := Lib.hid hb
      have HAq := Lib.hid ha
      have HRq := Lib.hid hr
      have HGq := Lib.hid hg
      clear hb ha hr hg HB0 HA3 HR3 HG3
      have HA0 : Hid (Own eQ w.heap.size wr (some ⟨w.heap.size, 0, none⟩) 25 25 (chiTo th (rhoPi th) 0)) := Lib.hid (by rw [chiTo_zero _ _ htl]; exact HAq.out)
      go_wp2
      go_loopw [46] (fun i wr => ∃ k : Nat, k ≤ 25 ∧ i = .int .i64 (k : Int) ∧ Own eQ bb wr (some ⟨bb, 0, none⟩) 25 25 (rhoPi th) ∧ Own eQ w.heap.size wr (some ⟨w.heap.size, 0, none⟩) 25 25 (chiTo th (rhoPi th) k) ∧ Own eQ w.heap.size wr (some ⟨w.heap.size + 1, 0, none⟩) 25 25 zs ∧ Below w.heap.size w wr) (fun i _ => 25 - (intOf i).toNat)
      case atStart => exact ⟨0, Nat.zero_le _, rfl, HBq.out, HA0.out, HRq.out, HGq.out⟩
      case round =>
        clear HBq HAq HRq HGq HA0
        obtain ⟨k, hk, rfl, hb, ha, hr, hg⟩ := hrel
        by_cases hlt : k < 25
        · have hst := chiTo_step th (rhoPi th) k
          have hd1 : (k % 5 + 1) % 5 + 5 * (k / 5) < 25 := by omega
          have hd2 : (k % 5 + 2) % 5 + 5 * (k / 5) < 25 := by omega
          have q0 := lane_cell hb k hlt
          have q1 := lane_cell hb _ hd1
          have q2 := lane_cell hb _ hd2
          have q3 := lane_cell ha k hlt
          have f3 := ha.free_at k hlt
          have o1 : (k % 5 + 1) % 5 + 5 * (k / 5) = k / 5 * 5 + (k + 1) % 5 := by omega
          have o2 : (k % 5 + 2) % 5 + 5 * (k / 5) = k / 5 * 5 + (k + 2) % 5 := by omega
          rw [o1] at q1 hst
          rw [o2] at q2 hst
          have HO := Lib.hid (And.intro hd1 hd2)
          clear hd1 hd2 o1 o2
          generalize lane (rhoPi th) (k / 5 * 5 + (k + 1) % 5) = u1 at *
          generalize lane (rhoPi th) (k / 5 * 5 + (k + 2) % 5) = u2 at *
          generalize lane (rhoPi th) k = u0 at *
          have HST := Lib.hid hst
          have HBq := Lib.hid hb
          have HAq := Lib.hid ha
          have HRq := Lib.hid hr
          have HGq := Lib.hid hg
          clear hst hb ha hr hg
          go_wp2_with fail
          go_region
          all_goals go_wp2_with fail
          rw [chiQ]
          have hne1 : (some ⟨bb, 0, none⟩ : Option Addr) ≠ some ⟨w.heap.size, 0, none⟩ := by intro e; injection e with e; injection e with e; omega
          have hne2 : (some ⟨w.heap.size + 1, 0, none⟩ : Option Addr) ≠ some ⟨w.heap.size, 0, none⟩ := by intro e; injection e with e; injection e with e; omega
          have ha2 := HAq.out.set k hlt (u0 ^^^ (notL u1 &&& u2))
          rw [HST.out] at ha2
          refine ⟨⟨k + 1, by omega, by go_num, (HBq.out.set_other ⟨w.heap.size, k, none⟩ _ hne1).drew, ha2.drew, (HRq.out.set_other ⟨w.heap.size, k, none⟩ _ hne2).drew, (HGq.out.setCell (p := ⟨w.heap.size, k, none⟩) (Nat.le_refl _) _).drew⟩, by simp [intOf]; omega⟩
        · obtain rfl : k = 25 := by omega
          rw [chiTo_full] at ha
          have q0 := lane_cell ha 0 (by omega)
          have f0 := ha.free_at 0 (by omega)
          have qr := ((HL.out.below hg).2 i hi)
          have HAq := Lib.hid ha
          have HRq := Lib.hid hr
          have HGq := Lib.hid hg
          have hrl := rc_lt i hi
          generalize hrc : rcL.getD i 0 = rc at *
          have hx : bits .xor .u64 ((lane (chiL (rhoPi th)) 0).toNat : Int) (rc : Int) = ((lane (chiL (rhoPi th)) 0 ^^^ UInt64.ofNat rc).toNat : Int) := by
            have := xorQ (lane (chiL (rhoPi th)) 0) (UInt64.ofNat rc)
            rw [UInt64.toNat_ofNat_of_lt' (by exact hrl)] at this
            exact this
          have HX := Lib.hid hx
          generalize hl0 : lane (chiL (rhoPi th)) 0 = l0 at *
          have HRL := Lib.hid hl0
          clear ha hr hg hb hx hrl hl0
          go_wp2_with fail
          go_region
          have hne2 : (some ⟨w.heap.size + 1, 0, none⟩ : Option Addr) ≠ some ⟨w.heap.size, 0, none⟩ := by intro e; injection e with e; injection e with e; omega
          have ha2 := HAq.out.set 0 (by omega) (l0 ^^^ UInt64.ofNat rc)
          have ha3 := ha2.drew
          have hr3 := (HRq.out.set_other ⟨w.heap.size, 0, none⟩ (eQ (l0 ^^^ UInt64.ofNat rc)) hne2).drew
          have hg3 := (HGq.out.setCell (p := ⟨w.heap.size, 0, none⟩) (Nat.le_refl _) (eQ (l0 ^^^ UInt64.ofNat rc))).drew
          have hs3 : (chiL (rhoPi th)).set 0 (l0 ^^^ UInt64.ofNat rc) = roundL st rc := by rw [← HRL.out, ← HTH.out]; rfl
          have hlen : (roundL st rc).length = 25 := by rw [← hs3]; simp [chiL]
          rw [hs3] at ha3
          rw [HX.out]
          have hee : Value.int .u64 ((l0 ^^^ UInt64.ofNat rc).toNat : Int) = eQ (l0 ^^^ UInt64.ofNat rc) := rfl
          rw [hee]
          clear ha2 hs3 q0 f0 qr HAq HRq HGq
          generalize roundL st rc = rr at *
          generalize (World.setCell wr _ _).drew = wx at *
          have HRG := Lib.hid (range25 ha3)
          have HSZ : Hid ((Tryz.prog.info? 100).map (·.size) = some (rr.map eQ).length) := Lib.hid (by rw [hz.2, List.length_map, hlen])
          have HSA : Hid ((Tryz.prog.info? 100).map (·.size) = some (rr.map eQ).toArray.size) := Lib.hid (by rw [hz.2]; simp [hlen])
          have HTR : Hid (wx.there (w.heap.size + 1) 0 (rr.map eQ).toArray.size) := Lib.hid (there25 hr3 (by simp [hlen]))
          have HONE : Hid ((rr.map eQ).toArray.all (·.oneCell') = true) := Lib.hid (all_oneCell_toArray (fun v hv => by obtain ⟨u, _, rfl⟩ := List.mem_map.1 hv; rfl))
          have hr4 := hr3.setAll rr hlen
          have HR4 := Lib.hid (range25 hr4)
          have HG4 := Lib.hid (below_setCells (show w.heap.size ≤ w.heap.size + 1 by omega) (rr.map eQ) 0 _ hg3)
          clear ha3 hr3 hg3 hr4
          go_wp2_with (first | refine wpList_load_mid rfl 100 (.tmp 2) rfl w.heap.size 0 rfl (rr.map eQ) _ HRG.out Tryz.underlying100 rfl HSZ.out ?_ | refine wpList_store_mid rfl 100 (.tmp 4) (.tmp 84) rfl (w.heap.size + 1) 0 (rr.map eQ).toArray rfl rfl HTR.out HSA.out HONE.out ?_)
          exact bodyPost_ret (results_cell_mid rfl _ _ (w.heap.size + 1) 0 rfl (rr.map eQ) _ HR4.out Tryz.underlying100 rfl HSZ.out) rfl ⟨rfl, HG4.out⟩
end Go.Proofs.Sl

/- keccak.Permute. -/
namespace Go.Proofs.Sl
open Go Go.RowKit Go.Proofs

def permTo (s : List UInt64) (k : Nat) : List UInt64 := (List.range k).foldl (fun s i => roundL s (rcL.getD i 0)) s
theorem permTo_succ (s : List UInt64) (k : Nat) : permTo s (k + 1) = roundL (permTo s k) (rcL.getD k 0) := by simp [permTo, List.range_succ]
theorem permTo_full (s : List UInt64) : permTo s 24 = permL s := rfl
theorem roundL_length (s : List UInt64) (rc : Nat) : (roundL s rc).length = 25 := by simp [roundL, chiL]
theorem permTo_length (s : List UInt64) (h : s.length = 25) : ∀ k, (permTo s k).length = 25
  | 0 => h
  | k + 1 => by rw [permTo_succ, roundL_length]
theorem one25 (l : List UInt64) : (l.map eQ).toArray.all (·.oneCell') = true := all_oneCell_toArray (fun v hv => by obtain ⟨u, _, rfl⟩ := List.mem_map.1 hv; rfl)
theorem Own.setAll_other {α β : Type} {enc : α → Value} {B n c : Nat} {A : Option Addr} {l : List α} {g : Nat} (hne : A ≠ some ⟨g, 0, none⟩) : ∀ (vs : List Value) (o : Nat) (w : World), Own enc B w A n c l → Own enc B (w.setCells g o vs) A n c l
  | [], _, _, h => h
  | v :: vs, o, w, h => Own.setAll_other (β := β) hne vs (o + 1) (w.setCell ⟨g, o, none⟩ v) (h.set_other ⟨g, o, none⟩ v hne)

set_option maxHeartbeats 2000000 in
set_option maxRecDepth 20000 in
theorem perm_any (st : List UInt64) (w : World) (hL : Laid w) (hl : st.length = 25) :
    Calls Tryz.prog 96 #[vSt st] w (RetV w (vSt (permL st))) := by
  have hz := zero_of_info infoS
  obtain ⟨zs, hzs⟩ : ∃ zs, List.replicate 25 (0 : UInt64) = zs := ⟨_, rfl⟩
  rw [hzs] at hz
  have HZL : Hid (zs.length = 25) := Lib.hid (by rw [← hzs]; simp)
  clear hzs
  have HL := Lib.hid hL
  have HLL := Lib.hid hl
  clear hL hl
  unfold vSt at hz ⊢
  go_enter Tryz.func96, Tryz.ntmps96
  go_wp2_with fail
  have hO : Own eQ w.heap.size ((w.alloc (.cells (st.map eQ).toArray 100)).alloc (.cells (zs.map eQ).toArray 100)) (some ⟨w.heap.size, 0, none⟩) 25 25 st := by
    have := Own.new (enc := eQ) (B := w.heap.size) w 100 st (Nat.le_refl _) (by rw [HLL.out]; omega)
    rw [HLL.out] at this
    exact this.alloc _
  have hg1 : Below w.heap.size w ((w.alloc (.cells (st.map eQ).toArray 100)).alloc (.cells (zs.map eQ).toArray 100)) := ((Below.refl _ _).alloc (Nat.le_refl _) _).alloc (by simp) _
  have hR0 : Own eQ w.heap.size ((w.alloc (.cells (st.map eQ).toArray 100)).alloc (.cells (zs.map eQ).toArray 100)) (some ⟨w.heap.size + 1, 0, none⟩) 25 25 zs := by
    have := Own.new (enc := eQ) (B := w.heap.size) (w.alloc (.cells (st.map eQ).toArray 100)) 100 zs (by simp) (by rw [HZL.out]; omega)
    rw [HZL.out] at this
    simpa using this
  have HO := Lib.hid hO
  have HG := Lib.hid hg1
  have HR := Lib.hid hR0
  have HST := Lib.hid (permTo_length st HLL.out)
  clear hO hg1 hR0
  have hne1 : (some ⟨w.heap.size + 1, 0, none⟩ : Option Addr) ≠ some ⟨w.heap.size, 0, none⟩ := by intro e; injection e with e; injection e with e; omega
  have HNE := Lib.hid hne1
  clear hne1
  generalize World.alloc (World.alloc w _) _ = w1 at *
  go_loopw [4] (fun i wr => ∃ k : Nat, k ≤ 24 ∧ i = .int .i64 (k : Int) ∧ Own eQ w.heap.size wr (some ⟨w.heap.size, 0, none⟩) 25 25 (permTo st k) ∧ Own eQ w.heap.size wr (some ⟨w.heap.size + 1, 0, none⟩) 25 25 zs ∧ Below w.heap.size w wr) (fun i _ => 24 - (intOf i).toNat)
  case atStart => exact ⟨0, Nat.zero_le _, rfl, HO.out, HR.out, HG.out⟩
  case round =>
    clear HO HR HG
    obtain ⟨k, hk, rfl, ha, hr, hg⟩ := hrel
    have hlk := HST.out k
    have HRG := Lib.hid (range25 ha)
    have HSZ : Hid ((Tryz.prog.info? 100).map (·.size) = some ((permTo st k).map eQ).length) := Lib.hid (by rw [hz.2, List.length_map, hlk])
    by_cases hlt : k < 24
    · have hro := round_any (permTo st k) k wr (HL.out.below hg) hlk hlt
      rw [← permTo_succ] at hro
      unfold vSt at hro
      have HA := Lib.hid ha
      have HRq := Lib.hid hr
      have HGq := Lib.hid hg
      have hl2 := HST.out (k + 1)
      obtain ⟨q, hq⟩ : ∃ q, permTo st (k + 1) = q := ⟨_, rfl⟩
      rw [hq] at hro hl2
      have HRO := Lib.hid hro
      have HQ := Lib.hid hq
      clear hq
      generalize permTo st k = p at *
      have HL2 := Lib.hid hl2
      have HLK := Lib.hid hlk
      clear hro ha hr hg hl2 hlk
      go_wp2_with (refine wpList_load_mid rfl 100 (.tmp 1) rfl w.heap.size 0 rfl (p.map eQ) _ HRG.out Tryz.underlying100 rfl HSZ.out ?_)
      refine HRO.out.mono ?_
      rintro e w4 ⟨rfl, g4⟩
      have ha4 := HA.out.below g4
      have hr4 := HRq.out.below g4
      have hg4 : Below w.heap.size w w4 := HGq.out.trans (g4.mono HGq.out.size)
      have HTR : Hid (w4.there w.heap.size 0 (q.map eQ).toArray.size) := Lib.hid (there25 ha4 (by simp [HL2.out]))
      have HSA : Hid ((Tryz.prog.info? 100).map (·.size) = some (q.map eQ).toArray.size) := Lib.hid (by rw [hz.2]; simp [HL2.out])
      have HONE := Lib.hid (one25 q)
      have HA5 := Lib.hid (ha4.setAll q HL2.out)
      have HR5 := Lib.hid (hr4.setAll_other (β := Unit) HNE.out (q.map eQ) 0)
      have HG5 := Lib.hid (below_setCells (Nat.le_refl w.heap.size) (q.map eQ) 0 _ hg4)
      clear ha4 hr4 hg4
      go_wp2_with (refine wpList_store_mid rfl 100 (.tmp 1) (.tmp 9) rfl w.heap.size 0 (q.map eQ).toArray rfl rfl HTR.out HSA.out HONE.out ?_)
      refine ⟨⟨k + 1, by omega, by go_num, ?_, HR5.out, HG5.out⟩, by simp [intOf]; omega⟩
      rw [HQ.out]
      exact HA5.out
    · obtain rfl : k = 24 := by omega
      have HTR : Hid (wr.there (w.heap.size + 1) 0 ((permTo st 24).map eQ).toArray.size) := Lib.hid (there25 hr (by simp [hlk]))
      have HSA : Hid ((Tryz.prog.info? 100).map (·.size) = some ((permTo st 24).map eQ).toArray.size) := Lib.hid (by rw [hz.2]; simp [hlk])
      have HONE := Lib.hid (one25 (permTo st 24))
      have HR4 := Lib.hid (range25 (hr.setAll (permTo st 24) hlk))
      have HG4 := Lib.hid (below_setCells (show w.heap.size ≤ w.heap.size + 1 by omega) ((permTo st 24).map eQ) 0 _ hg)
      have HPF := Lib.hid (permTo_full st)
      generalize permTo st 24 = rr at *
      clear ha hr hg hlk
      go_wp2_with (first | refine wpList_load_mid rfl 100 (.tmp 1) rfl w.heap.size 0 rfl (rr.map eQ) _ HRG.out Tryz.underlying100 rfl HSZ.out ?_ | refine wpList_store_mid rfl 100 (.tmp 2) (.tmp 11) rfl (w.heap.size + 1) 0 (rr.map eQ).toArray rfl rfl HTR.out HSA.out HONE.out ?_)
      exact bodyPost_ret (results_cell_mid rfl _ _ (w.heap.size + 1) 0 rfl (rr.map eQ) _ HR4.out Tryz.underlying100 rfl HSZ.out) rfl ⟨by rw [← HPF.out], HG4.out⟩
end Go.Proofs.Sl

/- shake.mix: a block of text into the state. -/
namespace Go.Proofs.Sl
open Go Go.RowKit Go.Proofs

def mixTo (s : List UInt64) (blk : List UInt8) : Nat → List UInt64
  | 0 => s
  | k + 1 => (mixTo s blk k).set (k / 8) (lane (mixTo s blk k) (k / 8) ^^^ ((blk.getD k 0).toUInt64 <<< UInt64.ofNat (8 * (k % 8))))
theorem mixTo_length (s : List UInt64) (blk : List UInt8) (h : s.length = 25) : ∀ k, (mixTo s blk k).length = 25
  | 0 => h
  | k + 1 => by rw [mixTo, List.length_set, mixTo_length s blk h k]
theorem permL_length (s : List UInt64) : (permL s).length = 25 := by rw [← permTo_full, permTo_succ, roundL_length]
theorem shlQ (c : UInt8) (k : Nat) (hk : k < 64) : IntKind.u64.wrap ((c.toNat : Int) * 2 ^ k) = ((c.toUInt64 <<< UInt64.ofNat k).toNat : Int) := by
  have e1 : (UInt64.ofNat k).toNat % 64 = k := by rw [UInt64.toNat_ofNat_of_lt' (by show k < 2 ^ 64; omega)]; omega
  rw [UInt64.toNat_shiftLeft, e1, Nat.shiftLeft_eq, wrap_u64x, UInt8.toNat_toUInt64, Int.natCast_emod, Int.natCast_mul, Int.natCast_pow]
  rfl

set_option maxHeartbeats 4000000 in
set_option maxRecDepth 20000 in
theorem mix_any (st : List UInt64) (A : Option Addr) (n c : Nat) (blk : List UInt8) (w : World) (hL : Laid w) (hl : st.length = 25) (h : Rd eB w A n blk) (hn : n ≤ 136) :
    Calls Tryz.prog 94 #[vSt st, .slice A n c] w (RetV w (vSt (permL (mixTo st blk n)))) := by
  have hbl := h.len
  have hz := zero_of_info infoS
  obtain ⟨zs, hzs⟩ : ∃ zs, List.replicate 25 (0 : UInt64) = zs := ⟨_, rfl⟩
  rw [hzs] at hz
  have HZL : Hid (zs.length = 25) := Lib.hid (by rw [← hzs]; simp)
  clear hzs
  have HL := Lib.hid hL
  have HLL := Lib.hid hl
  have HT := Lib.hid h
  clear hL hl h
  unfold vSt at hz ⊢
  go_enter Tryz.func94, Tryz.ntmps94
  go_wp2_with fail
  have hO : Own eQ w.heap.size ((w.alloc (.cells (st.map eQ).toArray 100)).alloc (.cells (zs.map eQ).toArray 100)) (some ⟨w.heap.size, 0, none⟩) 25 25 st := by
    have := Own.new (enc := eQ) (B := w.heap.size) w 100 st (Nat.le_refl _) (by rw [HLL.out]; omega)
    rw [HLL.out] at this
    exact this.alloc _
  have hg1 : Below w.heap.size w ((w.alloc (.cells (st.map eQ).toArray 100)).alloc (.cells (zs.map eQ).toArray 100)) := ((Below.refl _ _).alloc (Nat.le_refl _) _).alloc (by simp) _
  have hR0 : Own eQ w.heap.size ((w.alloc (.cells (st.map eQ).toArray 100)).alloc (.cells (zs.map eQ).toArray 100)) (some ⟨w.heap.size + 1, 0, none⟩) 25 25 zs := by
    have := Own.new (enc := eQ) (B := w.heap.size) (w.alloc (.cells (st.map eQ).toArray 100)) 100 zs (by simp) (by rw [HZL.out]; omega)
    rw [HZL.out] at this
    simpa using this
  have HO := Lib.hid hO
  have HG := Lib.hid hg1
  have HR := Lib.hid hR0
  have HST := Lib.hid (mixTo_length st blk HLL.out)
  clear hO hg1 hR0
  have hne1 : (some ⟨w.heap.size + 1, 0, none⟩ : Option Addr) ≠ some ⟨w.heap.size, 0, none⟩ := by intro e; injection e with e; injection e with e; omega
  have HNE := Lib.hid hne1
  clear hne1
  generalize World.alloc (World.alloc w _) _ = w1 at *
  go_loopw [5, 6, 9] (fun _ _ i wr => ∃ k : Nat, k ≤ n ∧ i = .int .i64 (k : Int) ∧ Own eQ w.heap.size wr (some ⟨w.heap.size, 0, none⟩) 25 25 (mixTo st blk k) ∧ Own eQ w.heap.size wr (some ⟨w.heap.size + 1, 0, none⟩) 25 25 zs ∧ Below w.heap.size w wr) (fun _ _ i _ => n - (intOf i).toNat)
  case atStart => exact ⟨0, Nat.zero_le _, rfl, HO.out, HR.out, HG.out⟩
  case round =>
    clear HO HR HG
    obtain ⟨k, hk, rfl, ha, hr, hg⟩ := hrel
    have hlk := HST.out k
    by_cases hlt : k < n
    · obtain ⟨ad, rfl, hc⟩ := (HT.out.below hg).at k hlt
      have hk8 : k / 8 < 25 := by omega
      have q0 := lane_cell ha (k / 8) hk8
      have f0 := ha.free_at (k / 8) hk8
      have hst : (mixTo st blk k).set (k / 8) (lane (mixTo st blk k) (k / 8) ^^^ ((blk[k]'(by rw [hbl]; exact hlt)).toUInt64 <<< UInt64.ofNat (8 * (k % 8)))) = mixTo st blk (k + 1) := by
        rw [mixTo]
        simp [List.getD, hbl, hlt]
      have hsh := shlQ (blk[k]'(by rw [hbl]; exact hlt)) (8 * (k % 8)) (by omega)
      have hby := (blk[k]'(by rw [hbl]; exact hlt)).toNat_lt
      generalize blk[k]'(by rw [hbl]; exact hlt) = bt at *
      have hx := xorQ (lane (mixTo st blk k) (k / 8)) (bt.toUInt64 <<< UInt64.ofNat (8 * (k % 8)))
      generalize hlu : lane (mixTo st blk k) (k / 8) = u0 at *
      generalize hsu : bt.toUInt64 <<< UInt64.ofNat (8 * (k % 8)) = s0 at *
      have HX := Lib.hid hx
      have HSH := Lib.hid hsh
      have HS := Lib.hid hst
      have HA := Lib.hid ha
      have HRq := Lib.hid hr
      have HGq := Lib.hid hg
      clear hst ha hr hg hx hsh hlu hsu
      go_wp2_with fail
      go_region
      all_goals go_wp2_with fail
      rw [HSH.out, HX.out]
      have ha2 := HA.out.set (k / 8) hk8 (u0 ^^^ s0)
      rw [HS.out] at ha2
      refine ⟨⟨k + 1, by omega, by go_num, ha2.drew, (HRq.out.set_other ⟨w.heap.size, k / 8, none⟩ _ HNE.out).drew, (HGq.out.setCell (p := ⟨w.heap.size, k / 8, none⟩) (Nat.le_refl _) _).drew⟩, by simp [intOf]; omega⟩
    · obtain rfl : k = n := by omega
      have HRG := Lib.hid (range25 ha)
      have HSZ : Hid ((Tryz.prog.info? 100).map (·.size) = some ((mixTo st blk k).map eQ).length) := Lib.hid (by rw [hz.2, List.length_map, hlk])
      have hpl := permL_length (mixTo st blk k)
      have hpe := perm_any (mixTo st blk k) wr (HL.out.below hg) hlk
      unfold vSt at hpe
      have HPE := Lib.hid hpe
      clear hpe
      generalize permL (mixTo st blk k) = rr at *
      generalize mixTo st blk k = p at *
      have HPL := Lib.hid hpl
      have HRq := Lib.hid hr
      have HGq := Lib.hid hg
      clear hpl ha hr hg HST
      go_wp2_with (refine wpList_load_mid rfl 100 (.tmp 2) rfl w.heap.size 0 rfl (p.map eQ) _ HRG.out Tryz.underlying100 rfl HSZ.out ?_)
      refine HPE.out.mono ?_
      rintro e w4 ⟨rfl, g4⟩
      have hr4 := HRq.out.below g4
      have hg4 : Below w.heap.size w w4 := HGq.out.trans (g4.mono HGq.out.size)
      have HTR : Hid (w4.there (w.heap.size + 1) 0 (rr.map eQ).toArray.size) := Lib.hid (there25 hr4 (by simp [HPL.out]))
      have HSA : Hid ((Tryz.prog.info? 100).map (·.size) = some (rr.map eQ).toArray.size) := Lib.hid (by rw [hz.2]; simp [HPL.out])
      have HSL : Hid ((Tryz.prog.info? 100).map (·.size) = some (rr.map eQ).length) := Lib.hid (by rw [hz.2]; simp [HPL.out])
      have HONE := Lib.hid (one25 rr)
      have HR4 := Lib.hid (range25 (hr4.setAll rr HPL.out))
      have HG4 := Lib.hid (below_setCells (show w.heap.size ≤ w.heap.size + 1 by omega) (rr.map eQ) 0 _ hg4)
      clear hr4 hg4
      go_wp2_with (refine wpList_store_mid rfl 100 (.tmp 4) (.tmp 28) rfl (w.heap.size + 1) 0 (rr.map eQ).toArray rfl rfl HTR.out HSA.out HONE.out ?_)
      exact bodyPost_ret (results_cell_mid rfl _ _ (w.heap.size + 1) 0 rfl (rr.map eQ) _ HR4.out Tryz.underlying100 rfl HSL.out) rfl ⟨rfl, HG4.out⟩
end Go.Proofs.Sl
