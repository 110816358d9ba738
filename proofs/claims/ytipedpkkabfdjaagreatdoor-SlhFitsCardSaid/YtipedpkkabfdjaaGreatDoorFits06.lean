/- shake.give: the bytes that a state gives. The plain law of a block's way into the state: mixTo st blk 136 = xorB st blk. octet: the first bytes, and the rest. shake.New (under way). -/
import Derived.Test.YtipedpkkabfdjaaGreatDoorFits05
import Derived.Test.YtipedpkkabfdjaaGreatDoorFits02
import Derived.Test.YtipedpkkabfdjaaGreatDoorFits03
/- shake.give: the bytes that a state gives. -/
namespace Go.Proofs.Sl
open Go Go.RowKit Go.Proofs

def gByte (s : List UInt64) (i : Nat) : UInt8 := (lane s (i / 8) >>> UInt64.ofNat (8 * (i % 8))).toUInt8
def giveTo (s : List UInt64) (k : Nat) : List UInt8 := (List.range 136).map fun i => if i < k then gByte s i else 0
theorem giveTo_length (s : List UInt64) (k : Nat) : (giveTo s k).length = 136 := by simp [giveTo]
theorem giveTo_zero (s : List UInt64) : giveTo s 0 = List.replicate 136 0 := by
  apply List.ext_getElem
  · simp [giveTo]
  · intro i h1 h2
    rw [List.getElem_replicate]
    simp only [giveTo, List.getElem_map, List.getElem_range]
    rw [if_neg (by omega)]
theorem giveTo_full (s : List UInt64) : giveTo s 136 = giveL s := by
  unfold giveTo giveL
  apply List.map_congr_left
  intro i hi
  rw [if_pos (List.mem_range.1 hi)]
  rfl
theorem giveTo_step (s : List UInt64) (k : Nat) : (giveTo s k).set k (gByte s k) = giveTo s (k + 1) := by
  apply List.ext_getElem
  · simp [giveTo_length]
  · intro i h1 h2
    by_cases e : k = i
    · subst e; simp [giveTo]
    · rw [List.getElem_set_ne e]
      simp only [giveTo, List.getElem_map, List.getElem_range]
      by_cases hi : i < k
      · rw [if_pos hi, if_pos (by omega)]
      · rw [if_neg hi, if_neg (by omega)]
theorem shrQ (u : UInt64) (m : Nat) (hm : m < 64) : (u.toNat : Int) / 2 ^ m % 256 = ((u >>> UInt64.ofNat m).toUInt8.toNat : Int) := by
  have e1 : (UInt64.ofNat m).toNat % 64 = m := by rw [UInt64.toNat_ofNat_of_lt' (by show m < 2 ^ 64; omega)]; omega
  rw [UInt64.toNat_toUInt8, UInt64.toNat_shiftRight, e1, Nat.shiftRight_eq_div_pow, Int.natCast_emod, Int.natCast_ediv, Int.natCast_pow]
  rfl

set_option maxHeartbeats 2000000 in
set_option maxRecDepth 20000 in
theorem give_any (st : List UInt64) (w : World) (hl : st.length = 25) :
    Calls Tryz.prog 95 #[vSt st] w (RetOwn eB w (giveL st)) := by
  have hmk := run_make_row' (P := Tryz.prog) 24 5 (.int .u8 0) 1 Tryz.underlying24 infoB rfl .i64 .i64 136 (by omega) (by omega)
  obtain ⟨zb, hzb⟩ : ∃ zb : List UInt8, List.replicate 136 (0 : UInt8) = zb := ⟨_, rfl⟩
  have hze : Array.replicate 136 (Value.int .u8 0) = (zb.map eB).toArray := by rw [← hzb, List.map_replicate, List.toArray_replicate]; rfl
  simp only [made_replicate] at hmk
  rw [hze] at hmk
  have hcast : ((136 : Nat) : Int) = 136 := rfl
  rw [hcast] at hmk
  clear hcast
  have HZB := Lib.hid hzb
  have hzl : zb.length = 136 := by rw [← hzb]; exact List.length_replicate
  clear hzb hze
  have HLL := Lib.hid hl
  clear hl
  unfold vSt
  go_enter Tryz.func95, Tryz.ntmps95
  go_wp2
  have hO : Own eQ w.heap.size ((w.alloc (.cells (st.map eQ).toArray 100)).alloc (.cells (zb.map eB).toArray 5)) (some ⟨w.heap.size, 0, none⟩) 25 25 st := by
    have := Own.new (enc := eQ) (B := w.heap.size) w 100 st (Nat.le_refl _) (by rw [HLL.out]; omega)
    rw [HLL.out] at this
    exact this.alloc _
  have hg1 : Below w.heap.size w ((w.alloc (.cells (st.map eQ).toArray 100)).alloc (.cells (zb.map eB).toArray 5)) := ((Below.refl _ _).alloc (Nat.le_refl _) _).alloc (by simp) _
  have hR0 : Own eB w.heap.size ((w.alloc (.cells (st.map eQ).toArray 100)).alloc (.cells (zb.map eB).toArray 5)) (some ⟨w.heap.size + 1, 0, none⟩) 136 136 (giveTo st 0) := by
    have := Own.new (enc := eB) (B := w.heap.size) (w.alloc (.cells (st.map eQ).toArray 100)) 5 zb (by simp) (by rw [hzl]; omega)
    rw [hzl] at this
    rw [giveTo_zero, HZB.out]
    simpa using this
  have HO := Lib.hid hO
  have HG := Lib.hid hg1
  have HR := Lib.hid hR0
  clear hO hg1 hR0 hmk
  have hne1 : (some ⟨w.heap.size, 0, none⟩ : Option Addr) ≠ some ⟨w.heap.size + 1, 0, none⟩ := by intro e; injection e with e; injection e with e; omega
  have HNE := Lib.hid hne1
  clear hne1
  generalize World.alloc (World.alloc w _) _ = w1 at *
  go_loopw [4, 8] (fun _ i wr => ∃ k : Nat, k ≤ 136 ∧ i = .int .i64 (k : Int) ∧ Own eQ w.heap.size wr (some ⟨w.heap.size, 0, none⟩) 25 25 st ∧ Own eB w.heap.size wr (some ⟨w.heap.size + 1, 0, none⟩) 136 136 (giveTo st k) ∧ Below w.heap.size w wr) (fun _ i _ => 136 - (intOf i).toNat)
  case atStart => exact ⟨0, Nat.zero_le _, rfl, HO.out, HR.out, HG.out⟩
  case round =>
    clear HO HR HG
    obtain ⟨k, hk, rfl, ha, hr, hg⟩ := hrel
    by_cases hlt : k < 136
    · have hk8 : k / 8 < 25 := by omega
      have q0 := lane_cell ha (k / 8) hk8
      obtain ⟨x0, hc⟩ := hr.some_at k hlt
      have hf := hr.free_at k hlt
      have hst := giveTo_step st k
      have hsh := shrQ (lane st (k / 8)) (8 * (k % 8)) (by omega)
      have hset := hr.set k hlt (gByte st k)
      rw [hst] at hset
      have hgb : (lane st (k / 8) >>> UInt64.ofNat (8 * (k % 8))).toUInt8 = gByte st k := rfl
      rw [hgb] at hsh
      generalize gByte st k = bt at *
      generalize lane st (k / 8) = u0 at *
      have HSH := Lib.hid hsh
      have HS := Lib.hid hset
      have HA := Lib.hid ha
      have HGq := Lib.hid hg
      clear hst ha hr hg hsh hset hgb
      go_wp2
      go_roundw
      case rel => exact ⟨k + 1, by omega, by go_num, by rw [HSH.out]; exact HA.out.set_other ⟨w.heap.size + 1, k, none⟩ _ HNE.out, by rw [HSH.out]; exact HS.out, by rw [HSH.out]; exact HGq.out.setCell (p := ⟨w.heap.size + 1, k, none⟩) (show w.heap.size ≤ w.heap.size + 1 by omega) _⟩
      case measure => simp [intOf]; omega
    · obtain rfl : k = 136 := by omega
      rw [giveTo_full] at hr
      go_wp2
      go_ret
      exact ⟨_, _, _, rfl, hr, hg⟩
end Go.Proofs.Sl

/- The plain law of a block's way into the state: mixTo st blk 136 = xorB st blk. -/
namespace Go.Proofs.Sl
open Go Go.RowKit Go.Proofs

def le64N (l : List UInt8) : Nat := l.foldr (fun c v => v * 256 + c.toNat) 0
theorem le64N_lt (l : List UInt8) : le64N l < 2 ^ (8 * l.length) := by
  induction l with
  | nil => simp [le64N]
  | cons c l ih =>
    have hc := c.toNat_lt
    have e : le64N (c :: l) = le64N l * 256 + c.toNat := rfl
    rw [e, List.length_cons, Nat.mul_add, Nat.pow_add]
    have : (2 : Nat) ^ (8 * 1) = 256 := by decide
    rw [this]
    omega
theorem le64N_snoc (l : List UInt8) (c : UInt8) : le64N (l ++ [c]) = 2 ^ (8 * l.length) * c.toNat + le64N l := by
  induction l with
  | nil => simp [le64N]
  | cons d l ih =>
    have e : le64N ((d :: l) ++ [c]) = le64N (l ++ [c]) * 256 + d.toNat := rfl
    have e2 : le64N (d :: l) = le64N l * 256 + d.toNat := rfl
    rw [e, e2, ih, List.length_cons, Nat.mul_add, Nat.pow_add]
    have : (2 : Nat) ^ (8 * 1) = 256 := by decide
    rw [this, Nat.add_mul, Nat.mul_right_comm]
    omega
theorem le64_toNat (l : List UInt8) (h : l.length ≤ 8) : (le64 l).toNat = le64N l := by
  induction l with
  | nil => rfl
  | cons c l ih =>
    have ih := ih (by simp at h; omega)
    have e : le64 (c :: l) = le64 l * 256 + c.toUInt64 := rfl
    have e2 : le64N (c :: l) = le64N l * 256 + c.toNat := rfl
    have hlt := le64N_lt (c :: l)
    have hp : (2 : Nat) ^ (8 * (c :: l).length) ≤ 2 ^ 64 := Nat.pow_le_pow_right (by omega) (by omega)
    rw [e2] at hlt
    rw [e, e2, UInt64.toNat_add, UInt64.toNat_mul, ih, UInt8.toNat_toUInt64]
    have : (256 : UInt64).toNat = 256 := rfl
    rw [this]
    omega
theorem xor_disj (a b i : Nat) (h : a < 2 ^ i) : a ^^^ (2 ^ i * b) = 2 ^ i * b + a := by
  apply Nat.eq_of_testBit_eq
  intro j
  rw [Nat.testBit_xor, Nat.testBit_two_pow_mul, Nat.testBit_two_pow_mul_add b h]
  by_cases hj : j < i
  · have : ¬ i ≤ j := by omega
    simp [hj, this]
  · have h2 : a.testBit j = false := Nat.testBit_lt_two_pow (Nat.lt_of_lt_of_le h (Nat.pow_le_pow_right (by omega) (by omega)))
    have : i ≤ j := by omega
    simp [hj, this, h2]
theorem le64_snoc (l : List UInt8) (c : UInt8) (h : l.length < 8) : le64 (l ++ [c]) = le64 l ^^^ (c.toUInt64 <<< UInt64.ofNat (8 * l.length)) := by
  apply UInt64.toNat_inj.1
  have e1 : (UInt64.ofNat (8 * l.length)).toNat % 64 = 8 * l.length := by rw [UInt64.toNat_ofNat_of_lt' (by show 8 * l.length < 2 ^ 64; omega)]; omega
  have hc := c.toNat_lt
  have hb : c.toNat * 2 ^ (8 * l.length) < 2 ^ 64 := by
    have h1 : c.toNat * 2 ^ (8 * l.length) < 2 ^ 8 * 2 ^ (8 * l.length) := Nat.mul_lt_mul_of_pos_right hc (Nat.two_pow_pos _)
    rw [← Nat.pow_add] at h1
    exact Nat.lt_of_lt_of_le h1 (Nat.pow_le_pow_right (by omega) (by omega))
  rw [le64_toNat _ (by simp; omega), le64N_snoc, UInt64.toNat_xor, le64_toNat _ (by omega), UInt64.toNat_shiftLeft, e1, Nat.shiftLeft_eq, UInt8.toNat_toUInt64, Nat.mod_eq_of_lt hb, Nat.mul_comm c.toNat, xor_disj _ _ _ (le64N_lt l)]
theorem lane_set (s : List UInt64) (j i : Nat) (v : UInt64) (hj : j < s.length) : lane (s.set j v) i = if j = i then v else lane s i := by
  unfold lane
  by_cases e : j = i
  · subst e; simp [List.getD, hj]
  · simp [List.getD, e]
theorem mixTo_lane (st : List UInt64) (blk : List UInt8) (hl : st.length = 25) (i : Nat) : ∀ k, k ≤ blk.length → k ≤ 136 → lane (mixTo st blk k) i = lane st i ^^^ le64 (((blk.take k).drop (8 * i)).take 8)
  | 0, _, _ => by simp [mixTo, le64]
  | k + 1, hk, h2 => by
    have ih := mixTo_lane st blk hl i k (by omega) (by omega)
    rw [mixTo, lane_set _ _ _ _ (by rw [mixTo_length st blk hl]; omega)]
    have hg : blk.getD k 0 = blk[k] := by simp [List.getD, show k < blk.length by omega]
    rw [List.take_succ_eq_append_getElem (show k < blk.length by omega), List.drop_append, List.length_take_of_le (by omega)]
    by_cases e : k / 8 = i
    · subst e
      rw [if_pos rfl, ih, hg]
      have e0 : 8 * (k / 8) - k = 0 := by omega
      have el : ((blk.take k).drop (8 * (k / 8))).length = k % 8 := by rw [List.length_drop, List.length_take_of_le (by omega)]; omega
      rw [e0, List.drop_zero]
      generalize (blk.take k).drop (8 * (k / 8)) = dd at *
      have t1 : dd.take 8 = dd := List.take_of_length_le (by omega)
      have t2 : (dd ++ [blk[k]]).take 8 = dd ++ [blk[k]] := List.take_of_length_le (by rw [List.length_append, el]; simp; omega)
      rw [t1, t2, le64_snoc _ _ (by omega), el, UInt64.xor_assoc]
    · rw [if_neg e, ih]
      by_cases hlt : i < k / 8
      · have : 8 * i - k = 0 := by omega
        rw [this, List.take_append_of_le_length (by rw [List.length_drop, List.length_take_of_le (by omega)]; omega)]
      · have e1 : (blk.take k).drop (8 * i) = [] := List.drop_of_length_le (by rw [List.length_take_of_le (by omega)]; omega)
        have e2 : ([blk[k]] : List UInt8).drop (8 * i - k) = [] := List.drop_of_length_le (by simp; omega)
        rw [e1, e2]
        rfl
theorem mixTo_full (st : List UInt64) (blk : List UInt8) (n : Nat) (hl : st.length = 25) (hb : blk.length = n) (hn : n = 136) : mixTo st blk n = xorB st blk := by
  have hlen := mixTo_length st blk hl n
  have h3 := fun i => mixTo_lane st blk hl i n (by omega) (by omega)
  generalize mixTo st blk n = m at *
  apply List.ext_getElem
  · rw [hlen]; simp [xorB]
  · intro i h1 h2
    have hi : i < 25 := by rw [hlen] at h1; exact h1
    have h4 : lane m i = m[i] := by simp [lane, List.getD, h1]
    rw [← h4, h3]
    simp only [xorB, List.getElem_map, List.getElem_range]
    have t1 : blk.take n = blk := List.take_of_length_le (by omega)
    rw [t1]
    by_cases h : i < 17
    · rw [if_pos h]
    · have t2 : blk.drop (8 * i) = [] := List.drop_of_length_le (by omega)
      rw [if_neg h, t2]
      simp [le64]
end Go.Proofs.Sl

/- octet: the first bytes, and the rest. -/
namespace Go.Proofs.Sl
open Go.RowKit Go.Proofs

theorem Rd.take {w : World} {A : Option Addr} {n : Nat} {l : List UInt8} (h : Rd eB w A n l) (k : Nat) (hk : k ≤ n) : Rd eB w A k (l.take k) :=
  ⟨by rw [List.length_take, h.len]; omega, by have := h.big; omega, fun j hj => by
    obtain ⟨ad, e, hc⟩ := h.cell j (by simp at hj; omega)
    exact ⟨ad, e, by rw [hc]; simp⟩⟩

theorem clone_all (A : Option Addr) (n c : Nat) (l : List UInt8) (w : World) (h : Rd eB w A n l) : Calls Tryz.prog 93 #[.slice A n c] w (RetOwn eB w l) := by
  cases A with
  | some ad => exact clone_any (some ad) n c l w h (by simp)
  | none =>
    have hl : l = [] := by
      cases l with
      | nil => rfl
      | cons x r => obtain ⟨ad, e, _⟩ := h.cell 0 (by simp); cases e
    subst hl
    obtain rfl : 0 = n := h.len
    refine (Tryz.bytes_Clone_nil 0 c w).mono ?_
    rintro e w' ⟨rfl, rfl⟩
    exact ⟨none, 0, 0, rfl, Own.nil _ _, Below.refl _ _⟩

set_option maxHeartbeats 2000000 in
theorem part_ok (A : Option Addr) (n c m : Nat) (l : List UInt8) (w : World) (hr : Rd eB w A n l) (hc : n ≤ c) (hcb : c ≤ maxLen) (hm : m ≤ n) :
    Calls Tryz.prog 88 #[.slice A n c, .int .i64 (m : Int)] w (fun e w' => ∃ A1 c1, e = .returned (.tuple #[.slice A1 m c1, .slice (cutAt A m c) (n - m) (c - m)]) ∧ Own eB w.heap.size w' A1 m c1 (l.take m) ∧ Grow w w') := by
  have HL := Lib.hid hr.len
  have HT : Hid (Rd eB w A m (l.take m)) := Lib.hid (by
    have := hr.cut 0 m c (Nat.zero_le _) hm hc
    unfold cutAt at this
    split at this
    · exact this
    · have e : A.map (·.add 0) = A := by cases A <;> simp [Addr.add]
      rw [e] at this; exact this)
  by_cases hcm : c = m
  · obtain rfl : n = c := by omega
    have hcm : n = m := hcm
    subst hcm
    have hcm : n = n := rfl
    rw [show cutAt A n n = A from if_pos rfl]
    clear hr
    go_enter Tryz.func88, Tryz.ntmps88
    go_wp2
    refine wp_region_rg Grow 25 9 8 [[], [], [], [], [], [], [], [3], []]
      [.still [] (.slice A n n), .still [] (.int .i64 (n : Int)), .still [] (.slice A n n), .grow [] (OwnV eB w.heap.size (l.take n)), .still [] (.slice A n n), .still [] (.int .i64 (n : Int)), .still [] (.slice A (n - n) (n - n)), .grow [3] (OwnV eB w.heap.size (l.take n)), .still [] (.slice A (n - n) (n - n))] (by kernel_rfl) (by kernel_rfl) rfl rfl rfl Grow.trans (Grow.refl _) ?_
    refine Obl.still (fun W hg _ => ?_) ?_
    · clear hg
      go_wp2
      exact ⟨rfl, rfl, rfl, Grow.refl _⟩
    simp only [Act.put, List.setIfInBounds_toArray, List.set_cons_zero, List.set_cons_succ]
    refine Obl.still (fun W hg _ => ?_) ?_
    · clear hg
      go_wp2
      exact ⟨rfl, rfl, rfl, Grow.refl _⟩
    simp only [Act.put, List.setIfInBounds_toArray, List.set_cons_zero, List.set_cons_succ]
    refine Obl.still (fun W hg _ => ?_) ?_
    · clear hg
      go_wp2
      exact ⟨rfl, rfl, rfl, Grow.refl _⟩
    simp only [Act.put, List.setIfInBounds_toArray, List.set_cons_zero, List.set_cons_succ]
    refine Obl.grow (OwnV.keep _ _ _) (fun W hg _ => ?_) (fun v3 => ?_)
    · have HC := Lib.hid (clone_all A n n (l.take n) W (HT.out.below ((Below.refl _ _).drew.trans hg)))
      have hsz : w.heap.size ≤ W.heap.size := ((Below.refl _ _).drew.trans hg : Below w.heap.size w W).size
      clear hg
      go_wp2_with fail
      refine (HC.out).mono ?_
      rintro e w' ⟨A1, n1, c1, rfl, h1, h2⟩
      go_wp2
      exact ⟨rfl, rfl, ⟨_, _, _, rfl, h1.mono hsz⟩, h2⟩
    simp only [Act.put, List.setIfInBounds_toArray, List.set_cons_zero, List.set_cons_succ]
    refine Obl.still (fun W hg _ => ?_) ?_
    · clear hg
      go_wp2
      exact ⟨rfl, rfl, rfl, Grow.refl _⟩
    simp only [Act.put, List.setIfInBounds_toArray, List.set_cons_zero, List.set_cons_succ]
    refine Obl.still (fun W hg _ => ?_) ?_
    · clear hg
      go_wp2
      exact ⟨rfl, rfl, rfl, Grow.refl _⟩
    simp only [Act.put, List.setIfInBounds_toArray, List.set_cons_zero, List.set_cons_succ]
    refine Obl.still (fun W hg _ => ?_) ?_
    · clear hg
      go_wp2
      exact ⟨rfl, rfl, rfl, Grow.refl _⟩
    simp only [Act.put, List.setIfInBounds_toArray, List.set_cons_zero, List.set_cons_succ]
    refine Obl.grow (OwnV.keep _ _ _) (fun W hg ⟨h3, _⟩ => ?_) (fun v7 => ?_)
    · obtain ⟨Ah3, nh3, ch3, rfl, h3⟩ := h3
      clear hg
      go_wp2
      exact ⟨rfl, rfl, ⟨_, _, _, rfl, h3⟩, Grow.refl _⟩
    simp only [Act.put, List.setIfInBounds_toArray, List.set_cons_zero, List.set_cons_succ]
    refine Obl.still (fun W hg _ => ?_) ?_
    · clear hg
      go_wp2
      exact ⟨rfl, rfl, rfl, Grow.refl _⟩
    simp only [Act.put, List.setIfInBounds_toArray, List.set_cons_zero, List.set_cons_succ]
    refine Obl.done (fun W hg hall => ?_)
    obtain ⟨h3, _, _⟩ := hall
    obtain ⟨A', n', c', rfl, h3⟩ := h3
    obtain rfl : n = n' := by rw [← h3.len, List.length_take, HL.out]; omega
    have hB : Grow w W := (Below.refl _ _).drew.trans hg
    clear hg
    go_wp2
    refine bodyPost_ret (v := .tuple #[_, _]) (by simp [results, Tryz.f88, go_sem]) rfl ⟨_, _, rfl, h3, hB⟩
  · rw [show cutAt A m c = Option.map (fun x => x.add m) A from if_neg hcm]
    clear hr
    go_enter Tryz.func88, Tryz.ntmps88
    go_wp2
    refine wp_region_rg Grow 25 9 8 [[], [], [], [], [], [], [], [3], []]
      [.still [] (.slice A n c), .still [] (.int .i64 (m : Int)), .still [] (.slice A m c), .grow [] (OwnV eB w.heap.size (l.take m)), .still [] (.slice A n c), .still [] (.int .i64 (m : Int)), .still [] (.slice (Option.map (fun x => x.add m) A) (n - m) (c - m)), .grow [3] (OwnV eB w.heap.size (l.take m)), .still [] (.slice (Option.map (fun x => x.add m) A) (n - m) (c - m))] (by kernel_rfl) (by kernel_rfl) rfl rfl rfl Grow.trans (Grow.refl _) ?_
    refine Obl.still (fun W hg _ => ?_) ?_
    · clear hg
      go_wp2
      exact ⟨rfl, rfl, rfl, Grow.refl _⟩
    simp only [Act.put, List.setIfInBounds_toArray, List.set_cons_zero, List.set_cons_succ]
    refine Obl.still (fun W hg _ => ?_) ?_
    · clear hg
      go_wp2
      exact ⟨rfl, rfl, rfl, Grow.refl _⟩
    simp only [Act.put, List.setIfInBounds_toArray, List.set_cons_zero, List.set_cons_succ]
    refine Obl.still (fun W hg _ => ?_) ?_
    · clear hg
      go_wp2
      exact ⟨rfl, rfl, rfl, Grow.refl _⟩
    simp only [Act.put, List.setIfInBounds_toArray, List.set_cons_zero, List.set_cons_succ]
    refine Obl.grow (OwnV.keep _ _ _) (fun W hg _ => ?_) (fun v3 => ?_)
    · have HC := Lib.hid (clone_all A m c (l.take m) W (HT.out.below ((Below.refl _ _).drew.trans hg)))
      have hsz : w.heap.size ≤ W.heap.size := ((Below.refl _ _).drew.trans hg : Below w.heap.size w W).size
      clear hg
      go_wp2_with fail
      refine (HC.out).mono ?_
      rintro e w' ⟨A1, n1, c1, rfl, h1, h2⟩
      go_wp2
      exact ⟨rfl, rfl, ⟨_, _, _, rfl, h1.mono hsz⟩, h2⟩
    simp only [Act.put, List.setIfInBounds_toArray, List.set_cons_zero, List.set_cons_succ]
    refine Obl.still (fun W hg _ => ?_) ?_
    · clear hg
      go_wp2
      exact ⟨rfl, rfl, rfl, Grow.refl _⟩
    simp only [Act.put, List.setIfInBounds_toArray, List.set_cons_zero, List.set_cons_succ]
    refine Obl.still (fun W hg _ => ?_) ?_
    · clear hg
      go_wp2
      exact ⟨rfl, rfl, rfl, Grow.refl _⟩
    simp only [Act.put, List.setIfInBounds_toArray, List.set_cons_zero, List.set_cons_succ]
    refine Obl.still (fun W hg _ => ?_) ?_
    · clear hg
      go_wp2
      exact ⟨rfl, rfl, rfl, Grow.refl _⟩
    simp only [Act.put, List.setIfInBounds_toArray, List.set_cons_zero, List.set_cons_succ]
    refine Obl.grow (OwnV.keep _ _ _) (fun W hg ⟨h3, _⟩ => ?_) (fun v7 => ?_)
    · obtain ⟨Ah3, nh3, ch3, rfl, h3⟩ := h3
      clear hg
      go_wp2
      exact ⟨rfl, rfl, ⟨_, _, _, rfl, h3⟩, Grow.refl _⟩
    simp only [Act.put, List.setIfInBounds_toArray, List.set_cons_zero, List.set_cons_succ]
    refine Obl.still (fun W hg _ => ?_) ?_
    · clear hg
      go_wp2
      exact ⟨rfl, rfl, rfl, Grow.refl _⟩
    simp only [Act.put, List.setIfInBounds_toArray, List.set_cons_zero, List.set_cons_succ]
    refine Obl.done (fun W hg hall => ?_)
    obtain ⟨h3, _, _⟩ := hall
    obtain ⟨A', n', c', rfl, h3⟩ := h3
    obtain rfl : m = n' := by rw [← h3.len, List.length_take, HL.out]; omega
    have hB : Grow w W := (Below.refl _ _).drew.trans hg
    clear hg
    go_wp2
    refine bodyPost_ret (v := .tuple #[_, _]) (by simp [results, Tryz.f88, go_sem]) rfl ⟨_, _, rfl, h3, hB⟩

theorem part_short (A : Option Addr) (n c m : Nat) (w : World) (hm : n < m) (_hb : m ≤ 1000000) :
    Calls Tryz.prog 88 #[.slice A n c, .int .i64 (m : Int)] w (fun e w' => e = .panicked [{ v := .iface 114 (.agg #[.int .i64 2]), recovered := false }] ∧ w' = w) := by
  go_enter Tryz.func88, Tryz.ntmps88
  go_wp2
  simp [bodyPost]
end Go.Proofs.Sl

/- shake.New (under way). -/
namespace Go.Proofs.Sl
open Go Go.RowKit Go.Proofs

def slLen : Value → Nat
  | .slice _ n _ => n
  | _ => 0
/-- What a Reader is: its state, and what it gave and did not yet hand out. -/
def Reader (B : Nat) (w : World) (b : Nat) (s : List UInt64) (o : List UInt8) : Prop :=
  Own eQ B w (some ⟨b, 0, none⟩) 25 26 s ∧ ∃ A n c, w.cell? ⟨b, 25, none⟩ = some (.slice A n c) ∧ Own eB B w A n c o

theorem reader_new {B : Nat} (w : World) (t : TypeId) (zs : List UInt64) (x : Value) (hz : zs.length = 25) (hB : B ≤ w.heap.size) :
    Own eQ B (w.alloc (.cells (zs.map eQ ++ [x]).toArray t)) (some ⟨w.heap.size, 0, none⟩) 25 26 zs ∧ (w.alloc (.cells (zs.map eQ ++ [x]).toArray t)).cell? ⟨w.heap.size, 25, none⟩ = some x := by
  have hc : ∀ i, (w.alloc (.cells (zs.map eQ ++ [x]).toArray t)).cell? ⟨w.heap.size, i, none⟩ = (zs.map eQ ++ [x])[i]? := fun i => by rw [cell_new]; simp
  refine ⟨⟨hz, by omega, by omega, by simp only [maxLen]; omega, .inr ⟨_, rfl, hB, by simp, fun i hi => ?_, fun i _ => frozen_new .., fun j hj => ?_⟩⟩, ?_⟩
  · rw [hc]; exact ⟨_, List.getElem?_eq_getElem (by simp [hz]; omega)⟩
  · rw [hc, List.getElem?_append_left (by simpa using hj)]; simp [hj]
  · rw [hc, List.getElem?_append_right (by simp [hz])]; simp [hz]
theorem range26 {B b c : Nat} {st : List UInt64} {w : World} (h : Own eQ B w (some ⟨b, 0, none⟩) 25 c st) : w.rangeAt b 0 (st.map eQ) := fun j v hv => by
  have hj : j < st.length := by have := (List.getElem?_eq_some_iff.1 hv).1; simpa using this
  rw [Nat.zero_add, h.cell_at j (by rw [← h.len]; exact hj)]
  simpa [hj] using hv
theorem there26 {B b c : Nat} {st : List UInt64} {w : World} (h : Own eQ B w (some ⟨b, 0, none⟩) 25 c st) {n : Nat} (hn : n = 25) : w.there b 0 n := fun j hj => by
  obtain ⟨v, hv⟩ := h.some_at j (by omega)
  rw [Nat.zero_add]
  exact ⟨by rw [hv]; rfl, h.free_at j (by omega)⟩
theorem xor80_all : ∀ n : Nat, n < 256 → bits .xor .u8 (n : Int) 128 = ((n ^^^ 128 : Nat) : Int) := by decide +kernel
theorem xor80 (x : UInt8) : bits .xor .u8 (x.toNat : Int) 128 = ((x ^^^ 128).toNat : Int) := by
  rw [UInt8.toNat_xor]
  exact xor80_all x.toNat x.toNat_lt
theorem rowB1 {w : World} {b : Nat} {x : UInt8} (h : w.cell? ⟨b, 0, none⟩ = some (eB x)) : Rd eB w (some ⟨b, 0, none⟩) 1 [x] :=
  ⟨rfl, by omega, fun j hj => by obtain rfl : j = 0 := by simp at hj; omega
                                 exact ⟨_, rfl, by rw [add_zero']; exact h⟩⟩

theorem zeros26 : ((List.replicate 25 (0 : UInt64)).map eQ ++ [Value.slice none 0 0]).toArray = #[.int .u64 0, .int .u64 0, .int .u64 0, .int .u64 0, .int .u64 0, .int .u64 0, .int .u64 0, .int .u64 0, .int .u64 0, .int .u64 0, .int .u64 0, .int .u64 0, .int .u64 0, .int .u64 0, .int .u64 0, .int .u64 0, .int .u64 0, .int .u64 0, .int .u64 0, .int .u64 0, .int .u64 0, .int .u64 0, .int .u64 0, .int .u64 0, .int .u64 0, .slice none 0 0] := rfl
theorem reader_zero {B b : Nat} (w : World) (hb : w.heap.size = b) (hB : B ≤ b) :
    Own eQ B (w.alloc (.cells #[.int .u64 0, .int .u64 0, .int .u64 0, .int .u64 0, .int .u64 0, .int .u64 0, .int .u64 0, .int .u64 0, .int .u64 0, .int .u64 0, .int .u64 0, .int .u64 0, .int .u64 0, .int .u64 0, .int .u64 0, .int .u64 0, .int .u64 0, .int .u64 0, .int .u64 0, .int .u64 0, .int .u64 0, .int .u64 0, .int .u64 0, .int .u64 0, .int .u64 0, .slice none 0 0] 120)) (some ⟨b, 0, none⟩) 25 26 (List.replicate 25 0) ∧ (w.alloc (.cells #[.int .u64 0, .int .u64 0, .int .u64 0, .int .u64 0, .int .u64 0, .int .u64 0, .int .u64 0, .int .u64 0, .int .u64 0, .int .u64 0, .int .u64 0, .int .u64 0, .int .u64 0, .int .u64 0, .int .u64 0, .int .u64 0, .int .u64 0, .int .u64 0, .int .u64 0, .int .u64 0, .int .u64 0, .int .u64 0, .int .u64 0, .int .u64 0, .int .u64 0, .slice none 0 0] 120)).cell? ⟨b, 25, none⟩ = some (.slice none 0 0) := by
  subst hb
  have := reader_new (B := B) w 120 (List.replicate 25 0) (.slice none 0 0) (by simp) hB
  rw [zeros26] at this
  exact this
theorem cell_setCells25 {b : Nat} {v : Value} : ∀ (vs : List Value) (o : Nat) (w : World), o + vs.length ≤ 25 → w.cell? ⟨b, 25, none⟩ = some v → (w.setCells b o vs).cell? ⟨b, 25, none⟩ = some v
  | [], _, _, _, h => h
  | x :: vs, o, w, hl, h => cell_setCells25 vs (o + 1) (w.setCell ⟨b, o, none⟩ x) (by simp at hl; omega) (by rw [cell_set_ne w b o 25 x (by simp at hl; omega)]; exact h)
theorem absorbL_length (t : List UInt8) : ∀ k, (absorbL t k).length = 25
  | 0 => by simp [absorbL]
  | k + 1 => permTo_length _ (by simp [xorB]) 24
theorem own26_free {B b : Nat} {st : List UInt64} {w : World} (h : Own eQ B w (some ⟨b, 0, none⟩) 25 26 st) : w.frozen? ⟨b, 25, none⟩ = false := by
  rcases h.at_ with ⟨e, _⟩ | ⟨g, e, _, _, _, hf, _⟩
  · cases e
  · cases e; exact hf 25 (by omega)
theorem own26_set {B b : Nat} {st : List UInt64} {w : World} (h : Own eQ B w (some ⟨b, 0, none⟩) 25 26 st) (v : Value) : Own eQ B (w.setCell ⟨b, 25, none⟩ v) (some ⟨b, 0, none⟩) 25 26 st := by
  have hl := h.len
  rcases h.at_ with ⟨e, _⟩ | ⟨g, e, h1, h2, h3, h4, h5⟩
  · cases e
  · cases e
    refine ⟨h.len, h.big, h.nc, h.cm, .inr ⟨b, rfl, h1, by simpa [World.setCell] using h2, fun i hi => ?_, fun i hi => by rw [frozen_set]; exact h4 i hi, fun j hj => by rw [cell_set_ne _ _ _ _ _ (by omega)]; exact h5 j hj⟩⟩
    by_cases e : i = 25
    · subst e
      obtain ⟨u, hu⟩ := h3 25 hi
      exact ⟨v, cell_set_eq _ _ _ _ _ hu⟩
    · rw [cell_set_ne _ _ _ _ _ (Ne.symm e)]; exact h3 i hi
/-- The text that is left, wherever it lies. -/
def Left (g N : Nat) (t : List UInt8) (k : Nat) (Ak : Option Addr) (nk ck : Nat) : Prop := nk = N - 136 * k ∧ nk ≤ ck ∧ 136 * k ≤ N ∧ ∀ W, Rd eB W (some ⟨g, 0, none⟩) N t → Rd eB W Ak nk (t.drop (136 * k))
theorem Left.next {g N : Nat} {t : List UInt8} {k : Nat} {Ak : Option Addr} {nk ck : Nat} (h : Left g N t k Ak nk ck) (h1 : 136 ≤ nk) : Left g N t (k + 1) (cutAt Ak 136 nk) (nk - 136) (nk - 136) := by
  obtain ⟨e1, e2, e3, e4⟩ := h
  refine ⟨by omega, by omega, by omega, fun W hr => ?_⟩
  have h5 := e4 W hr
  have := h5.cut 136 nk nk h1 (Nat.le_refl _) (Nat.le_refl _)
  rw [List.take_of_length_le (by rw [h5.len]; exact Nat.le_refl _), List.drop_drop] at this
  rw [show 136 * (k + 1) = 136 * k + 136 by omega]
  exact this

set_option maxHeartbeats 4000000 in
set_option maxRecDepth 20000 in
theorem new_any (A : Option Addr) (n c : Nat) (l : List UInt8) (w : World) (hL : Laid w) (h : Rd eB w A n l) (hn : n ≤ 1048576) :
    Calls Tryz.prog 58 #[.slice A n c] w (fun e w' => ∃ b, e = .returned (.pointer (some ⟨b, 0, none⟩)) ∧ Below w.heap.size w w' ∧ Reader w.heap.size w' b (absorbL (padL l) ((padL l).length / 136)) (giveL (absorbL (padL l) ((padL l).length / 136)))) := by
  have HC := Lib.hid (clone_all A n c l w h)
  have HL := Lib.hid hL
  have hlen := h.len
  clear hL h
  go_enter Tryz.func58, Tryz.ntmps58
  go_wp2_with fail
  refine HC.out.mono ?_
  rintro e w1 ⟨A1, n1, c1, rfl, h1, h2⟩
  have hn1 : n1 = n := by rw [← h1.len, hlen]
  subst hn1
  have HO := Lib.hid (h1.alloc (.cells #[Value.int .u8 31] 5))
  have hr : Rd eB (w1.alloc (.cells #[Value.int .u8 31] 5)) (some ⟨w1.heap.size, 0, none⟩) 1 [31] := rowB1 (cell_new ..)
  have HR := Lib.hid hr
  have hsz : w.heap.size ≤ (w1.alloc (.cells #[Value.int .u8 31] 5)).heap.size := by have := h2.size; simp; omega
  have HB := Lib.hid (h2.alloc h2.size (.cells #[Value.int .u8 31] 5))
  clear hr h1 h2
  go_wp2_with (at_builtin; refine wpList_append_sl rfl _ _ 24 5 (.int .u8 0) 1 rfl Tryz.underlying24 infoB rfl (fun _ => rfl) rfl rfl HO.out HR.out (by omega) (by omega) hsz ?_; intro A' c' w' h3 h4 h5; have H3 := Lib.hid h3; have H5 := Lib.hid (HB.out.trans h5); clear h3 h4 h5)
  clear HO HR HB hsz HC
  go_loopw [3] (fun v wr => ∃ (j : Nat) (A' : Option Addr) (c' : Nat), j ≤ zerosL l ∧ v = .slice A' (n1 + 1 + j) c' ∧ Own eB w.heap.size wr A' (n1 + 1 + j) c' (l ++ [31] ++ List.replicate j 0) ∧ Below w.heap.size w wr) (fun v _ => zerosL l + n1 + 1 - slLen v)
  case atStart => exact ⟨0, _, _, Nat.zero_le _, rfl, by simpa using H3.out, H5.out⟩
  case round =>
    clear H3 H5
    obtain ⟨j, A2, c2, hj, rfl, ho, hb⟩ := hrel
    have hzl : zerosL l = (136 - (n1 + 1) % 136) % 136 := by rw [zerosL, hlen]
    by_cases hlt : j < zerosL l
    · have hne : (((n1 : Int) + 1 + (j : Int)) % 136 != 0) = true := by simp only [bne_iff_ne]; omega
      have hz200 : zerosL l < 136 := by omega
      have HO := Lib.hid (ho.alloc (.cells #[Value.int .u8 0] 5))
      have hr : Rd eB (wr.alloc (.cells #[Value.int .u8 0] 5)) (some ⟨wr.heap.size, 0, none⟩) 1 [0] := rowB1 (cell_new ..)
      have HR := Lib.hid hr
      have hsz : w.heap.size ≤ (wr.alloc (.cells #[Value.int .u8 0] 5)).heap.size := by have := hb.size; simp; omega
      have HB := Lib.hid (hb.alloc hb.size (.cells #[Value.int .u8 0] 5))
      have HZ := Lib.hid hzl
      have HE : Hid (l ++ [31] ++ List.replicate j 0 ++ [0] = l ++ [31] ++ List.replicate (j + 1) 0) := Lib.hid (by rw [List.replicate_succ']; simp only [List.append_assoc])
      clear ho hb hzl hr
      go_wp2_with (at_builtin; refine wpList_append_sl rfl _ _ 24 5 (.int .u8 0) 1 rfl Tryz.underlying24 infoB rfl (fun _ => rfl) rfl rfl HO.out HR.out (by omega) (by omega) hsz ?_; intro A' c' w' h3 h4 h5; rw [HE.out] at h3; have H3 := Lib.hid h3; have H5 := Lib.hid (HB.out.trans h5); clear h3 h4 h5)
      exact ⟨⟨j + 1, _, _, by omega, rfl, H3.out, H5.out⟩, by simp only [slLen]; omega⟩
    · obtain rfl : j = zerosL l := by omega
      have hne : (((n1 : Int) + 1 + (zerosL l : Int)) % 136 != 0) = false := by simp only [bne_eq_false_iff_eq]; omega
      have hpl : (padL l).length = n1 + 1 + zerosL l := by simp [padL, hlen]; omega
      have hmod : (n1 + 1 + zerosL l) % 136 = 0 := by omega
      have hcast : ((n1 : Int) + 1 + (zerosL l : Int)) = ((n1 + 1 + zerosL l : Nat) : Int) := by omega
      rw [hcast] at hne
      have hz200 : zerosL l < 136 := by omega
      obtain ⟨N, hN⟩ : ∃ N, n1 + 1 + zerosL l = N := ⟨_, rfl⟩
      rw [hN] at hne hpl hmod ho
      have hN0 : 0 < N := by omega
      have hN9 : N ≤ 1048800 := by omega
      obtain ⟨g, rfl⟩ : ∃ g, A2 = some ⟨g, 0, none⟩ := by
        rcases ho.at_ with ⟨h1, h2⟩ | ⟨g, h1, _⟩
        · have := ho.nc; omega
        · exact ⟨g, h1⟩
      obtain ⟨lb, hlb, q0⟩ : ∃ lb, (l ++ [31] ++ List.replicate (zerosL l) 0).getD (N - 1) 0 = lb ∧ wr.cell? ⟨g, N - 1, none⟩ = some (eB lb) := by
        refine ⟨_, rfl, ?_⟩
        have hl2 : (l ++ [31] ++ List.replicate (zerosL l) (0 : UInt8)).length = N := ho.len
        rw [ho.cell_at (N - 1) (by omega)]
        generalize l ++ [31] ++ List.replicate (zerosL l) 0 = t at *
        simp [List.getD, show N - 1 < t.length by omega]
      have f0 := ho.free_at (N - 1) (by omega)
      have hpe : padL l = (l ++ [31] ++ List.replicate (zerosL l) 0).set (N - 1) ((l ++ [31] ++ List.replicate (zerosL l) 0).getD (N - 1) 0 ^^^ 128) := by
        have hl2 : (l ++ [31] ++ List.replicate (zerosL l) (0 : UInt8)).length = N := ho.len
        unfold padL
        simp only []
        rw [hl2]
      rw [hlb] at hpe
      rw [hN]
      have e1 : ((N : Int) - 1).toNat = N - 1 := by omega
      have HPE := Lib.hid hpe
      have HB := Lib.hid hb
      have HO := Lib.hid ho
      have HM := Lib.hid (And.intro hmod (And.intro hpl (And.intro hN hzl)))
      have hcN : ((n1 : Int) + 1 + (zerosL l : Int)) = (N : Int) := by omega
      clear hpe hb ho hmod hpl hN hcast hzl hlt hj hcN hlb
      go_wp2_with fail
      have hsz0 : (wr.setCell ⟨g, N - 1, none⟩ (.int .u8 (bits .xor .u8 (lb.toNat : Int) 128))).heap.size = wr.heap.size := by simp [World.setCell]
      obtain ⟨hRD, h25⟩ := reader_zero (B := w.heap.size) _ hsz0 HB.out.size
      have hx := xor80 lb
      have hset := HO.out.set (N - 1) (by omega) (lb ^^^ 128)
      rw [← HPE.out] at hset
      have hset' : Own eB w.heap.size (wr.setCell ⟨g, N - 1, none⟩ (.int .u8 (bits .xor .u8 (lb.toNat : Int) 128))) (some ⟨g, 0, none⟩) N c2 (padL l) := by rw [hx]; exact hset
      have hTX := hset'.alloc (.cells #[.int .u64 0, .int .u64 0, .int .u64 0, .int .u64 0, .int .u64 0, .int .u64 0, .int .u64 0, .int .u64 0, .int .u64 0, .int .u64 0, .int .u64 0, .int .u64 0, .int .u64 0, .int .u64 0, .int .u64 0, .int .u64 0, .int .u64 0, .int .u64 0, .int .u64 0, .int .u64 0, .int .u64 0, .int .u64 0, .int .u64 0, .int .u64 0, .int .u64 0, .slice none 0 0] 120)
      have hGB := HO.out.base
      have hB0 := (HB.out.setCell (p := ⟨g, N - 1, none⟩) hGB.1 (.int .u8 (bits .xor .u8 (lb.toNat : Int) 128))).alloc (by have := HB.out.size; rw [hsz0]; exact this) (.cells #[.int .u64 0, .int .u64 0, .int .u64 0, .int .u64 0, .int .u64 0, .int .u64 0, .int .u64 0, .int .u64 0, .int .u64 0, .int .u64 0, .int .u64 0, .int .u64 0, .int .u64 0, .int .u64 0, .int .u64 0, .int .u64 0, .int .u64 0, .int .u64 0, .int .u64 0, .int .u64 0, .int .u64 0, .int .u64 0, .int .u64 0, .int .u64 0, .int .u64 0, .slice none 0 0] 120)
      have hbB : w.heap.size ≤ wr.heap.size := HB.out.size
      have hgb : (some ⟨g, 0, none⟩ : Option Addr) ≠ some ⟨wr.heap.size, 0, none⟩ := by intro e; injection e with e; injection e with e; omega
      have HNE := Lib.hid hgb
      clear hset hset' hx hgb hGB
      obtain ⟨b, hb⟩ : ∃ b, wr.heap.size = b := ⟨_, rfl⟩
      rw [hb] at hRD h25 hbB HNE ⊢
      generalize World.alloc (World.setCell wr _ _) _ = w0 at *
      have H0 := Lib.hid (And.intro hRD (And.intro h25 (And.intro hTX hB0)))
      have hz := zero_of_info infoS
      obtain ⟨zs, hzs⟩ : ∃ zs, List.replicate 25 (0 : UInt64) = zs := ⟨_, rfl⟩
      rw [hzs] at hz
      unfold vSt at hz
      have HM' := HM.out
      have HHM := Lib.hid HM'
      obtain ⟨pt, hpt⟩ : ∃ pt, padL l = pt := ⟨_, rfl⟩
      have HPT := Lib.hid hpt
      rw [hpt] at H0 HHM
      have HHB := Lib.hid hb
      clear hRD h25 hTX hB0 HPE HB HO q0 f0 hne HM HM' hpt hzs hb hsz0 e1
      go_loopw [3] (fun v wr => ∃ (k : Nat) (Ak : Option Addr) (nk ck : Nat), v = .slice Ak nk ck ∧ Left g N pt k Ak nk ck ∧ Own eQ w.heap.size wr (some ⟨b, 0, none⟩) 25 26 (absorbL pt k) ∧ wr.cell? ⟨b, 25, none⟩ = some (.slice none 0 0) ∧ Own eB w.heap.size wr (some ⟨g, 0, none⟩) N c2 pt ∧ Below w.heap.size w wr) (fun v _ => slLen v)
      case atStart => exact ⟨0, _, _, _, rfl, ⟨by omega, H0.out.2.2.1.nc, by omega, fun W h => by simpa using h⟩, H0.out.1, H0.out.2.1, H0.out.2.2.1, H0.out.2.2.2⟩
      case round =>
        clear H0
        obtain ⟨k, Ak, nk, ck, rfl, hLf, hst, h25, hTX, hB0⟩ := hrel
        obtain ⟨q1, q2, q3, q4⟩ := hLf
        have hNk : N % 136 = 0 := HHM.out.1
        by_cases hlt : 0 < nk
        · have h136 : 136 ≤ nk := by omega
          have h136c : 136 ≤ ck := by omega
          obtain ⟨st, hst0⟩ : ∃ st, absorbL pt k = st := ⟨_, rfl⟩
          have hstl : st.length = 25 := by rw [← hst0]; exact absorbL_length _ _
          obtain ⟨blk, hblk⟩ : ∃ blk, (pt.drop (136 * k)).take 136 = blk := ⟨_, rfl⟩
          have hbk : Rd eB wr Ak 136 blk := by rw [← hblk]; exact (q4 wr hTX.rd).take 136 h136
          have hab : absorbL pt (k + 1) = permL (xorB st blk) := by rw [← hst0, ← hblk]; rfl
          obtain ⟨st2, hst2⟩ : ∃ st2, permL (xorB st blk) = st2 := ⟨_, rfl⟩
          rw [hst2] at hab
          have HMIX : Hid (permL (mixTo st blk 136) = st2) := Lib.hid (by rw [mixTo_full st blk 136 hstl hbk.len rfl, hst2])
          have HST2 : Hid (st2.length = 25) := Lib.hid (by rw [← hab]; exact absorbL_length _ _)
          have HSTL := Lib.hid hstl
          have HAB := Lib.hid hab
          have HSZ : Hid ((Tryz.prog.info? 100).map (·.size) = some (st.map eQ).length) := Lib.hid (by rw [hz.2, List.length_map, hstl])
          rw [hst0] at hst
          have HST := Lib.hid (hst.below (Below.refl _ _).drew)
          have HTX := Lib.hid (hTX.below (Below.refl _ _).drew)
          have HC25 := Lib.hid (cell_old (Below.refl _ _).drew h25)
          have HBK := Lib.hid (hbk.below (Below.refl _ _).drew)
          have HGq := Lib.hid hB0
          have HNXT := Lib.hid (Left.next ⟨q1, q2, q3, q4⟩ h136)
          have HQ4 := Lib.hid q4
          have HQ1 := Lib.hid q1
          clear hst0 hstl hblk hbk hab hst2 hst hTX h25 hB0 q1 q3 q4
          by_cases h0 : nk = 136
          · subst h0
            rw [show cutAt Ak 136 136 = Ak from if_pos rfl] at HNXT
            go_wp2
            refine wp_region_rg Grow 54 10 8 [[], [], [], [], [], [], [], [], [], []]
              [.still [] (.pointer (some ⟨b, 0, none⟩)), .still [] (.pointer (some ⟨b, 0, none⟩)), .still [] (.pointer (some ⟨b, 0, none⟩)), .still [] (.pointer (some ⟨b, 0, none⟩)), .still [] (.agg (st.map eQ).toArray), .still [] (.slice Ak 136 ck), .still [] (.slice Ak 136 136), .still [] (.agg (st2.map eQ).toArray), .still [] (.pointer (some ⟨b, 0, none⟩)), .still [] (.pointer (some ⟨b, 0, none⟩))] (by kernel_rfl) (by kernel_rfl) rfl rfl rfl Grow.trans (Grow.refl _) ?_
            iterate 4
              refine Obl.still (fun W hg _ => ?_) ?_
              · clear hg
                go_wp2
                exact ⟨rfl, rfl, rfl, Grow.refl _⟩
              simp only [Act.put, List.setIfInBounds_toArray, List.set_cons_zero, List.set_cons_succ]
            refine Obl.still (fun W hg _ => ?_) ?_
            · have HRG := Lib.hid (range26 (HST.out.below hg))
              clear hg
              go_wp2_with (refine wpList_load_mid rfl 100 (.tmp 38) rfl b 0 rfl (st.map eQ) _ HRG.out Tryz.underlying100 rfl HSZ.out ?_)
              exact ⟨rfl, rfl, rfl, Grow.refl _⟩
            simp only [Act.put, List.setIfInBounds_toArray, List.set_cons_zero, List.set_cons_succ]
            iterate 2
              refine Obl.still (fun W hg _ => ?_) ?_
              · clear hg
                go_wp2
                exact ⟨rfl, rfl, rfl, Grow.refl _⟩
              simp only [Act.put, List.setIfInBounds_toArray, List.set_cons_zero, List.set_cons_succ]
            refine Obl.still (fun W hg _ => ?_) ?_
            · have HC := Lib.hid (mix_any st Ak 136 136 blk W (HL.out.below (HGq.out.drew.trans (hg.mono HGq.out.size))) HSTL.out ((HBK.out.below hg)) (by omega))
              rw [HMIX.out] at HC
              unfold vSt at HC
              clear hg
              go_wp2_with fail
              refine (HC.out).mono ?_
              rintro e w' ⟨rfl, hB⟩
              have hG : Grow W w' := hB
              clear hB
              go_wp2
              exact ⟨rfl, rfl, rfl, hG⟩
            simp only [Act.put, List.setIfInBounds_toArray, List.set_cons_zero, List.set_cons_succ]
            iterate 2
              refine Obl.still (fun W hg _ => ?_) ?_
              · clear hg
                go_wp2
                exact ⟨rfl, rfl, rfl, Grow.refl _⟩
              simp only [Act.put, List.setIfInBounds_toArray, List.set_cons_zero, List.set_cons_succ]
            refine Obl.done (fun W hg hall => ?_)
            have hst := HST.out.below hg
            have hb2 := HGq.out.drew.trans (hg.mono HGq.out.size)
            have hTX := HTX.out.below hg
            have hC25 := cell_old hg HC25.out
            have HTR : Hid (W.there b 0 (st2.map eQ).toArray.size) := Lib.hid (there26 hst (by simp [HST2.out]))
            have HSA : Hid ((Tryz.prog.info? 100).map (·.size) = some (st2.map eQ).toArray.size) := Lib.hid (by rw [hz.2]; simp [HST2.out])
            have HONE := Lib.hid (one25 st2)
            have HS5 := Lib.hid (hst.setAll st2 HST2.out)
            have HT5 := Lib.hid (hTX.setAll_other (β := Unit) HNE.out (st2.map eQ) 0)
            have HB5 := Lib.hid (below_setCells hbB (st2.map eQ) 0 _ hb2)
            have H25 := Lib.hid (cell_setCells25 (st2.map eQ) 0 _ (by simp [HST2.out]) hC25)
            clear hg hst hb2 hTX hC25
            go_wp2_with (refine wpList_store_mid rfl 100 (.tmp 44) (.tmp 42) rfl b 0 (st2.map eQ).toArray rfl rfl HTR.out HSA.out HONE.out ?_)
            refine ⟨⟨k + 1, _, _, _, rfl, HNXT.out, ?_, H25.out, HT5.out, HB5.out⟩, by simp only [slLen]; omega⟩
            rw [HAB.out]
            exact HS5.out

          · rw [show cutAt Ak 136 nk = Option.map (fun x => x.add 136) Ak from if_neg h0] at HNXT
            go_wp2
            refine wp_region_rg Grow 54 10 8 [[], [], [], [], [], [], [], [], [], []]
              [.still [] (.pointer (some ⟨b, 0, none⟩)), .still [] (.pointer (some ⟨b, 0, none⟩)), .still [] (.pointer (some ⟨b, 0, none⟩)), .still [] (.pointer (some ⟨b, 0, none⟩)), .still [] (.agg (st.map eQ).toArray), .still [] (.slice Ak nk ck), .still [] (.slice Ak 136 136), .still [] (.agg (st2.map eQ).toArray), .still [] (.pointer (some ⟨b, 0, none⟩)), .still [] (.pointer (some ⟨b, 0, none⟩))] (by kernel_rfl) (by kernel_rfl) rfl rfl rfl Grow.trans (Grow.refl _) ?_
            iterate 4
              refine Obl.still (fun W hg _ => ?_) ?_
              · clear hg
                go_wp2
                exact ⟨rfl, rfl, rfl, Grow.refl _⟩
              simp only [Act.put, List.setIfInBounds_toArray, List.set_cons_zero, List.set_cons_succ]
            refine Obl.still (fun W hg _ => ?_) ?_
            · have HRG := Lib.hid (range26 (HST.out.below hg))
              clear hg
              go_wp2_with (refine wpList_load_mid rfl 100 (.tmp 38) rfl b 0 rfl (st.map eQ) _ HRG.out Tryz.underlying100 rfl HSZ.out ?_)
              exact ⟨rfl, rfl, rfl, Grow.refl _⟩
            simp only [Act.put, List.setIfInBounds_toArray, List.set_cons_zero, List.set_cons_succ]
            iterate 2
              refine Obl.still (fun W hg _ => ?_) ?_
              · clear hg
                go_wp2
                exact ⟨rfl, rfl, rfl, Grow.refl _⟩
              simp only [Act.put, List.setIfInBounds_toArray, List.set_cons_zero, List.set_cons_succ]
            refine Obl.still (fun W hg _ => ?_) ?_
            · have HC := Lib.hid (mix_any st Ak 136 136 blk W (HL.out.below (HGq.out.drew.trans (hg.mono HGq.out.size))) HSTL.out ((HBK.out.below hg)) (by omega))
              rw [HMIX.out] at HC
              unfold vSt at HC
              clear hg
              go_wp2_with fail
              refine (HC.out).mono ?_
              rintro e w' ⟨rfl, hB⟩
              have hG : Grow W w' := hB
              clear hB
              go_wp2
              exact ⟨rfl, rfl, rfl, hG⟩
            simp only [Act.put, List.setIfInBounds_toArray, List.set_cons_zero, List.set_cons_succ]
            iterate 2
              refine Obl.still (fun W hg _ => ?_) ?_
              · clear hg
                go_wp2
                exact ⟨rfl, rfl, rfl, Grow.refl _⟩
              simp only [Act.put, List.setIfInBounds_toArray, List.set_cons_zero, List.set_cons_succ]
            refine Obl.done (fun W hg hall => ?_)
            have hst := HST.out.below hg
            have hb2 := HGq.out.drew.trans (hg.mono HGq.out.size)
            have hTX := HTX.out.below hg
            have hC25 := cell_old hg HC25.out
            have HTR : Hid (W.there b 0 (st2.map eQ).toArray.size) := Lib.hid (there26 hst (by simp [HST2.out]))
            have HSA : Hid ((Tryz.prog.info? 100).map (·.size) = some (st2.map eQ).toArray.size) := Lib.hid (by rw [hz.2]; simp [HST2.out])
            have HONE := Lib.hid (one25 st2)
            have HS5 := Lib.hid (hst.setAll st2 HST2.out)
            have HT5 := Lib.hid (hTX.setAll_other (β := Unit) HNE.out (st2.map eQ) 0)
            have HB5 := Lib.hid (below_setCells hbB (st2.map eQ) 0 _ hb2)
            have H25 := Lib.hid (cell_setCells25 (st2.map eQ) 0 _ (by simp [HST2.out]) hC25)
            clear hg hst hb2 hTX hC25
            go_wp2_with (refine wpList_store_mid rfl 100 (.tmp 44) (.tmp 42) rfl b 0 (st2.map eQ).toArray rfl rfl HTR.out HSA.out HONE.out ?_)
            refine ⟨⟨k + 1, _, _, _, rfl, HNXT.out, ?_, H25.out, HT5.out, HB5.out⟩, by simp only [slLen]; omega⟩
            rw [HAB.out]
            exact HS5.out

        · obtain rfl : nk = 0 := by omega
          have hkN : k = N / 136 := by omega
          subst hkN
          have HRG := Lib.hid (range26 hst)
          have hstl := absorbL_length pt (N / 136)
          have HSZ : Hid ((Tryz.prog.info? 100).map (·.size) = some ((absorbL pt (N / 136)).map eQ).length) := Lib.hid (by rw [hz.2, List.length_map, hstl])
          have HGV := Lib.hid (give_any (absorbL pt (N / 136)) wr hstl)
          unfold vSt at HGV
          have HST := Lib.hid hst
          have HB := Lib.hid hB0
          have HC25 := Lib.hid h25
          have hf25 : wr.frozen? ⟨b, 25, none⟩ = false := own26_free hst
          have HF25 := Lib.hid hf25
          obtain ⟨st, hst0⟩ : ∃ st, absorbL pt (N / 136) = st := ⟨_, rfl⟩
          rw [hst0] at HRG HSZ HGV HST
          have HS0 := Lib.hid hst0
          clear hst hB0 h25 hf25 hst0 hTX q1 q2 q3 q4 hstl
          go_wp2_with (refine wpList_load_mid rfl 100 (.tmp 48) rfl b 0 rfl (st.map eQ) _ HRG.out Tryz.underlying100 rfl HSZ.out ?_)
          refine HGV.out.mono ?_
          rintro e w4 ⟨A4, n4, c4, rfl, h4, g4⟩
          have hb4 := HB.out.trans (g4.mono HB.out.size)
          have hst4 := HST.out.below g4
          have q25 := cell_old g4 HC25.out
          have f25 := (World.frozen?_of_block (a := ⟨b, 25, none⟩) (g4.block _ (World.block_lt_of_cell? _ _ HC25.out))).trans HF25.out
          have HFIN : Hid (Below w.heap.size w (w4.setCell ⟨b, 25, none⟩ (.slice A4 n4 c4)) ∧ Reader w.heap.size (w4.setCell ⟨b, 25, none⟩ (.slice A4 n4 c4)) b st (giveL st)) := Lib.hid
            ⟨hb4.setCell (p := ⟨b, 25, none⟩) hbB _, own26_set hst4 _, A4, n4, c4, cell_set_eq _ _ _ _ _ q25, (h4.mono HB.out.size).set_other ⟨b, 25, none⟩ _ (fun e => by have := h4.lt b e (by have := h4.nc; have := h4.len; rw [giveL_length] at this; omega); have := World.block_lt_of_cell? _ _ HC25.out; dsimp only at this; omega)⟩
          have HPP : Hid (absorbL (padL l) ((padL l).length / 136) = st) := Lib.hid (by rw [HPT.out, HHM.out.2.1, HS0.out])
          clear hb4 hst4 h4 g4
          go_wp2
          go_ret
          refine ⟨b, rfl, ?_⟩
          rw [HPP.out]
          exact HFIN.out
end Go.Proofs.Sl
