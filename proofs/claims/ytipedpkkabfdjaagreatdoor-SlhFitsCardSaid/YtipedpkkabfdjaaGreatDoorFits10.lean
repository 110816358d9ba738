/- digits: the widths; whether 4 is one; the digits one by one (an iterator). digits: those of bytes; what they lack. digits: what they lack. digits: how many there are; all of them. -/
import Derived.Test.YtipedpkkabfdjaaGreatDoorFits01
import Derived.Test.YtipedpkkabfdjaaGreatDoorFits04
import Derived.Test.YtipedpkkabfdjaaGreatDoorFits02
import Derived.Test.YtipedpkkabfdjaaGreatDoorFits09
import Derived.KernelRfl
/- digits: the widths; whether 4 is one; the digits one by one (an iterator). -/
namespace Go.Proofs.Sl
open Go.RowKit Go.Proofs
attribute [local go_sem] Oper.semAt_some

theorem widths_any (w : World) : Calls Tryz.prog 106 #[] w (RetV w (.agg #[.int .i64 1, .int .i64 2, .int .i64 4, .int .i64 8])) := by
  go_enter Tryz.func106, Tryz.ntmps106
  go_wp2
  refine bodyPost_ret (v := .agg #[.int .i64 1, .int .i64 2, .int .i64 4, .int .i64 8]) (by simp [results, Tryz.f106, go_sem]) rfl ⟨rfl, (Below.refl _ _).alloc (Nat.le_refl _) _⟩

theorem dmay_any (w : World) : Calls Tryz.prog 83 #[.int .i64 4] w (RetV w (.bool true)) := by
  go_enter Tryz.func83, Tryz.ntmps83
  go_wp2_with fail
  refine (widths_any w).mono ?_
  rintro e w1 ⟨rfl, hB⟩
  go_wp2_with fail
  have HC := Lib.hid (Tryz.slices_Contains_int w1.heap.size 0 4 4 [1, 2, 4, 8] 4 (w1.alloc (.cells #[.int .i64 1, .int .i64 2, .int .i64 4, .int .i64 8] 129)) (by simp) (by omega) (fun j hj => by
    rw [Nat.zero_add, cell_new]
    match j, hj with
    | 0, _ => rfl
    | 1, _ => rfl
    | 2, _ => rfl
    | 3, _ => rfl))
  have hb2 : Below w.heap.size w (w1.alloc (.cells #[.int .i64 1, .int .i64 2, .int .i64 4, .int .i64 8] 129)) := hB.alloc hB.size _
  clear hB
  refine HC.out.mono ?_
  rintro e w2 ⟨rfl, rfl⟩
  clear HC
  go_wp2
  go_ret
  exact ⟨by simp, hb2⟩

theorem nibs_length (b : List UInt8) : (nibs b).length = b.length * 2 := by
  induction b with
  | nil => rfl
  | cons c l ih => simp [nibs] at ih ⊢; omega
theorem nibs_cons (c : UInt8) (b : List UInt8) : nibs (c :: b) = (c.toNat / 16) :: (c.toNat % 16) :: nibs b := by simp [nibs]
theorem nibs_at (b : List UInt8) (k : Nat) (h : k < b.length) : (nibs b)[2 * k]'(by rw [nibs_length]; omega) = b[k].toNat / 16 ∧ (nibs b)[2 * k + 1]'(by rw [nibs_length]; omega) = b[k].toNat % 16 := by
  induction b generalizing k with
  | nil => simp at h
  | cons c l ih =>
    cases k with
    | zero => simp [nibs_cons]
    | succ k =>
      have := ih k (by simpa using h)
      simp only [nibs_cons, List.getElem_cons_succ, show 2 * (k + 1) = 2 * k + 1 + 1 by omega]
      exact this

def Kp2 (Bb Bw : Nat) (A : Option Addr) (n : Nat) (l : List UInt8) (W W' : World) : Prop :=
  KpBox eB Bb A n l W W' ∧ (∀ v, W.cell? ⟨Bw, 0, none⟩ = some v → W'.cell? ⟨Bw, 0, none⟩ = some v)
theorem Kp2.trans {Bb Bw : Nat} {A : Option Addr} {n : Nat} {l : List UInt8} {X Y Z : World} (h : Kp2 Bb Bw A n l X Y) (k : Kp2 Bb Bw A n l Y Z) : Kp2 Bb Bw A n l X Z := ⟨h.1.trans k.1, fun v hv => k.2 v (h.2 v hv)⟩
theorem Kp2.put {Bb Bw : Nat} {A : Option Addr} {n : Nat} {l : List UInt8} (W : World) (k : Nat) (o o' : Obj) (h : W.heap[k]? = some o) (ho : o.isCells = false) : Kp2 Bb Bw A n l W (W.putObj k o') :=
  ⟨KpBox.put W k o o' h ho, fun _ hv => cell_kept hv (grownBy_putObj' W k o') (fun r e => by cases e; exact ⟨o, h, ho⟩)⟩
theorem and15 (x : Nat) (h : x < 256) : bits .and .i64 (x : Int) 15 = ((x % 16 : Nat) : Int) := by
  have := bits_mask .i64 62 (by decide) (fun n h0 h1 => by rw [IntKind.wrap_i64]; omega) 4 (by decide) (x : Int) (by omega) (by omega)
  simpa using this
theorem take_next {α : Type} (l : List α) (k : Nat) (h : k < l.length) (x : α) (hx : l[k] = x) : l.take k ++ [x] = l.take (k + 1) := by
  rw [List.take_succ_eq_append_getElem h, hx]
abbrev encI (d : Nat) : Array Value := #[.int .i64 (d : Int)]

set_option maxHeartbeats 2000000 in
theorem each_seq (n1 : Nat) (hn1 : 1 ≤ n1) (Bb Bw : Nat) (A : Option Addr) (n c : Nat) (b : List UInt8) (w : World) (hb : w.cell? ⟨Bb, 0, none⟩ = some (.slice A n c)) (hw4 : w.cell? ⟨Bw, 0, none⟩ = some (.int .i64 4)) (hr : Rd eB w A n b) (hn : n ≤ 1048576) :
    SeqSt Fence.wide n1 Tryz.prog 122 #[.pointer (some ⟨Bb, 0, none⟩), .pointer (some ⟨Bw, 0, none⟩)] encI (Kp2 Bb Bw A n b) (fun W W' => W' = W.drew) (nibs b) w := by
  intro l J Jx W hW hJst hY h0
  have h1 := cell_old hW hb
  have h3 := cell_old hW hw4
  have h2 := hr.below hW
  have hl := hr.len
  clear hb hr hW hw4
  refine callsIn_of_wp Tryz.func122 rfl trivial ?_ rfl
  simp only [Tryz.ntmps122, List.size_toArray, List.length_cons, List.length_nil, Nat.reduceAdd, Nat.reduceSub, Array.replicate_succ, Array.replicate_zero, List.push_toArray, List.append_toArray, List.nil_append, List.cons_append]
  gi_wp2
  gi_loopw [9] (fun p wr => ∃ k : Nat, k ≤ n ∧ p = .int .i64 (k : Int) ∧ J ((nibs b).take (2 * k)) wr ∧ wr.cell? ⟨Bb, 0, none⟩ = some (.slice A n c) ∧ wr.cell? ⟨Bw, 0, none⟩ = some (.int .i64 4) ∧ Rd eB wr A n b) (fun p _ => n - (intOf p).toNat)
  case atStart => exact ⟨0, Nat.zero_le _, rfl, by simpa using h0, h1, h3, h2⟩
  case round =>
    obtain ⟨k, hk, rfl, hJ, hcb, hcw, hR⟩ := hrel
    by_cases hlt : k < n
    · obtain ⟨ad, rfl, hx⟩ := hR.at k hlt
      have hkl : k < b.length := by rw [hl]; exact hlt
      obtain ⟨ha1, ha2⟩ := nibs_at b k hkl
      have hc8 := (b[k]).toNat_lt
      generalize hbk : b[k] = ch at *
      gi_wp2
      gi_loopw [6] (fun p wr => ∃ j : Nat, ((j = 0 ∧ p = .int .i64 4) ∨ (j = 1 ∧ p = .int .i64 0) ∨ (j = 2 ∧ p = .int .i64 (-4))) ∧ J ((nibs b).take (2 * k + j)) wr ∧ wr.cell? ⟨Bb, 0, none⟩ = some (.slice (some ad) n c) ∧ wr.cell? ⟨Bw, 0, none⟩ = some (.int .i64 4) ∧ Rd eB wr (some ad) n b) (fun p _ => (intOf p + 4).toNat)
      case atStart => exact ⟨0, .inl ⟨rfl, rfl⟩, hJ, hcb, hcw, hR⟩
      case round =>
        clear hJ hcb hcw hR h0 h1 h3 h2
        obtain ⟨j, hj, hJ', hcb', hcw', hR'⟩ := hrel
        rcases hj with ⟨rfl, rfl⟩ | ⟨rfl, rfl⟩ | ⟨rfl, rfl⟩
        · have hpre : (nibs b).take (2 * k + 0) ++ [ch.toNat / 16] = (nibs b).take (2 * k + 0 + 1) := take_next _ _ (by rw [nibs_length]; omega) _ ha1
          obtain ⟨fn, tmps, assign, body, hy, hRo⟩ := hY ((nibs b).take (2 * k + 0)) (ch.toNat / 16) wr.drew (hJst _ _ _ hJ' rfl) (by rw [hpre]; exact List.take_prefix _ _)
          rw [hpre] at hRo
          have hbit : bits .and .i64 (((ch.toNat : Int) / 16)) 15 = ((ch.toNat / 16 : Nat) : Int) := by rw [show (ch.toNat : Int) / 16 = ((ch.toNat / 16 : Nat) : Int) by omega, and15 _ (by omega)]; omega
          generalize hd : ch.toNat / 16 = d at *
          have hcd : wr.drew.cell? ⟨Bw, 0, none⟩ = some (.int .i64 4) := hcw'
          dsimp only [encI] at hy
          clear hd hpre
          gi_wp2_with fail
          refine wpIn_region_wide (fun x y : World => x = y) 32 9 8 [[], [], [], [], [], [], [], [], []]
            [.still [] (.func (.yield l) #[] #[]), .still [] (.int .u8 (ch.toNat : Int)), .still [] (.int .i64 (ch.toNat : Int)), .still [] (.int .i64 4), .still [] (.int .i64 ((ch.toNat : Int) / 16)), .still [] (.int .i64 4), .still [] (.int .i64 16), .still [] (.int .i64 15), .still [] (.int .i64 (d : Int))] (by kernel_rfl) (by kernel_rfl) rfl rfl rfl (fun _ _ _ h k => h.trans k) rfl ?_
          refine Obl.still (fun W' hg _ => ?_) ?_
          · subst hg; clear hcw' hcb' hRo hy
            go_wp2
            exact ⟨rfl, rfl, rfl, rfl⟩
          simp only [Act.put, List.setIfInBounds_toArray, List.set_cons_zero, List.set_cons_succ]
          refine Obl.still (fun W' hg _ => ?_) ?_
          · subst hg; clear hcw' hcb' hRo hy
            go_wp2
            exact ⟨rfl, rfl, rfl, rfl⟩
          simp only [Act.put, List.setIfInBounds_toArray, List.set_cons_zero, List.set_cons_succ]
          refine Obl.still (fun W' hg _ => ?_) ?_
          · subst hg; clear hcw' hcb' hRo hy
            go_wp2
            exact ⟨rfl, rfl, rfl, rfl⟩
          simp only [Act.put, List.setIfInBounds_toArray, List.set_cons_zero, List.set_cons_succ]
          refine Obl.still (fun W' hg _ => ?_) ?_
          · subst hg; clear hcw' hcb' hRo hy
            go_wp2
            exact ⟨rfl, rfl, rfl, rfl⟩
          simp only [Act.put, List.setIfInBounds_toArray, List.set_cons_zero, List.set_cons_succ]
          refine Obl.still (fun W' hg _ => ?_) ?_
          · subst hg; clear hcw' hcb' hRo hy
            go_wp2
            exact ⟨rfl, rfl, rfl, rfl⟩
          simp only [Act.put, List.setIfInBounds_toArray, List.set_cons_zero, List.set_cons_succ]
          refine Obl.still (fun W' hg _ => ?_) ?_
          · subst hg; clear hcw' hcb' hRo hy
            go_wp2
            exact ⟨rfl, rfl, rfl, rfl⟩
          simp only [Act.put, List.setIfInBounds_toArray, List.set_cons_zero, List.set_cons_succ]
          refine Obl.still (fun W' hg _ => ?_) ?_
          · subst hg; clear hcw' hcb' hRo hy
            go_wp2
            exact ⟨rfl, rfl, rfl, rfl⟩
          simp only [Act.put, List.setIfInBounds_toArray, List.set_cons_zero, List.set_cons_succ]
          refine Obl.still (fun W' hg _ => ?_) ?_
          · subst hg; clear hcw' hcb' hRo hy
            go_wp2
            exact ⟨rfl, rfl, rfl, rfl⟩
          simp only [Act.put, List.setIfInBounds_toArray, List.set_cons_zero, List.set_cons_succ]
          refine Obl.still (fun W' hg _ => ?_) ?_
          · subst hg; clear hcw' hcb' hRo hy
            go_wp2
            exact ⟨rfl, rfl, rfl, rfl⟩
          simp only [Act.put, List.setIfInBounds_toArray, List.set_cons_zero, List.set_cons_succ]
          refine Obl.done (fun W' hg hall => ?_)
          subst hg
          have hk1 : wr.drew.cell? ⟨Bb, 0, none⟩ = some (.slice (some ad) n c) := hcb'
          have hR1 := hR'.drew
          clear hall
          gi_wp2
          refine hRo.mono ?_
          rintro e W3 (⟨rfl, hJ3, hk3⟩ | ⟨rfl, hJx3⟩)
          · have hc3 := hk3.1.1 _ hk1
            have hw3 := hk3.2 _ hcd
            have hR3 := hk3.1.2 hR1
            clear hk3 hbit hy hRo hcb' hcw' hR' hR1 hk1 hcd
            gi_wp2
            go_roundw
            case rel => exact ⟨1, .inr (.inl ⟨rfl, rfl⟩), hJ3, hc3, hw3, hR3⟩
            case measure => simp [intOf]
          · gi_wp2
            refine bodyPost_ret (results_none rfl _ _ _) rfl ?_
            exact ⟨⟨_, rfl⟩, .inr ⟨_, List.take_prefix _ _, hJx3⟩⟩
        · have hpre : (nibs b).take (2 * k + 1) ++ [ch.toNat % 16] = (nibs b).take (2 * k + 1 + 1) := take_next _ _ (by rw [nibs_length]; omega) _ ha2
          obtain ⟨fn, tmps, assign, body, hy, hRo⟩ := hY ((nibs b).take (2 * k + 1)) (ch.toNat % 16) wr.drew (hJst _ _ _ hJ' rfl) (by rw [hpre]; exact List.take_prefix _ _)
          rw [hpre] at hRo
          have hbit : bits .and .i64 ((ch.toNat : Int)) 15 = ((ch.toNat % 16 : Nat) : Int) := by rw [and15 _ (by omega)]
          generalize hd : ch.toNat % 16 = d at *
          have hcd : wr.drew.cell? ⟨Bw, 0, none⟩ = some (.int .i64 4) := hcw'
          dsimp only [encI] at hy
          clear hd hpre
          gi_wp2_with fail
          refine wpIn_region_wide (fun x y : World => x = y) 32 9 8 [[], [], [], [], [], [], [], [], []]
            [.still [] (.func (.yield l) #[] #[]), .still [] (.int .u8 (ch.toNat : Int)), .still [] (.int .i64 (ch.toNat : Int)), .still [] (.int .i64 0), .still [] (.int .i64 (ch.toNat : Int)), .still [] (.int .i64 4), .still [] (.int .i64 16), .still [] (.int .i64 15), .still [] (.int .i64 (d : Int))] (by kernel_rfl) (by kernel_rfl) rfl rfl rfl (fun _ _ _ h k => h.trans k) rfl ?_
          refine Obl.still (fun W' hg _ => ?_) ?_
          · subst hg; clear hcw' hcb' hRo hy
            go_wp2
            exact ⟨rfl, rfl, rfl, rfl⟩
          simp only [Act.put, List.setIfInBounds_toArray, List.set_cons_zero, List.set_cons_succ]
          refine Obl.still (fun W' hg _ => ?_) ?_
          · subst hg; clear hcw' hcb' hRo hy
            go_wp2
            exact ⟨rfl, rfl, rfl, rfl⟩
          simp only [Act.put, List.setIfInBounds_toArray, List.set_cons_zero, List.set_cons_succ]
          refine Obl.still (fun W' hg _ => ?_) ?_
          · subst hg; clear hcw' hcb' hRo hy
            go_wp2
            exact ⟨rfl, rfl, rfl, rfl⟩
          simp only [Act.put, List.setIfInBounds_toArray, List.set_cons_zero, List.set_cons_succ]
          refine Obl.still (fun W' hg _ => ?_) ?_
          · subst hg; clear hcw' hcb' hRo hy
            go_wp2
            exact ⟨rfl, rfl, rfl, rfl⟩
          simp only [Act.put, List.setIfInBounds_toArray, List.set_cons_zero, List.set_cons_succ]
          refine Obl.still (fun W' hg _ => ?_) ?_
          · subst hg; clear hcw' hcb' hRo hy
            go_wp2
            exact ⟨rfl, rfl, rfl, rfl⟩
          simp only [Act.put, List.setIfInBounds_toArray, List.set_cons_zero, List.set_cons_succ]
          refine Obl.still (fun W' hg _ => ?_) ?_
          · subst hg; clear hcw' hcb' hRo hy
            go_wp2
            exact ⟨rfl, rfl, rfl, rfl⟩
          simp only [Act.put, List.setIfInBounds_toArray, List.set_cons_zero, List.set_cons_succ]
          refine Obl.still (fun W' hg _ => ?_) ?_
          · subst hg; clear hcw' hcb' hRo hy
            go_wp2
            exact ⟨rfl, rfl, rfl, rfl⟩
          simp only [Act.put, List.setIfInBounds_toArray, List.set_cons_zero, List.set_cons_succ]
          refine Obl.still (fun W' hg _ => ?_) ?_
          · subst hg; clear hcw' hcb' hRo hy
            go_wp2
            exact ⟨rfl, rfl, rfl, rfl⟩
          simp only [Act.put, List.setIfInBounds_toArray, List.set_cons_zero, List.set_cons_succ]
          refine Obl.still (fun W' hg _ => ?_) ?_
          · subst hg; clear hcw' hcb' hRo hy
            go_wp2
            exact ⟨rfl, rfl, rfl, rfl⟩
          simp only [Act.put, List.setIfInBounds_toArray, List.set_cons_zero, List.set_cons_succ]
          refine Obl.done (fun W' hg hall => ?_)
          subst hg
          have hk1 : wr.drew.cell? ⟨Bb, 0, none⟩ = some (.slice (some ad) n c) := hcb'
          have hR1 := hR'.drew
          clear hall
          gi_wp2
          refine hRo.mono ?_
          rintro e W3 (⟨rfl, hJ3, hk3⟩ | ⟨rfl, hJx3⟩)
          · have hc3 := hk3.1.1 _ hk1
            have hw3 := hk3.2 _ hcd
            have hR3 := hk3.1.2 hR1
            clear hk3 hbit hy hRo hcb' hcw' hR' hR1 hk1 hcd
            gi_wp2
            go_roundw
            case rel => exact ⟨2, .inr (.inr ⟨rfl, rfl⟩), hJ3, hc3, hw3, hR3⟩
            case measure => simp [intOf]
          · gi_wp2
            refine bodyPost_ret (results_none rfl _ _ _) rfl ?_
            exact ⟨⟨_, rfl⟩, .inr ⟨_, List.take_prefix _ _, hJx3⟩⟩
        · gi_wp2
          go_roundw
          case rel => exact ⟨k + 1, by omega, by go_num, hJ', hcb', hcw', hR'⟩
          case measure => simp [intOf]; omega
    · obtain rfl : k = n := by omega
      gi_wp2
      go_end0
      exact ⟨⟨_, rfl⟩, .inl (by rw [List.take_of_length_le (by rw [nibs_length, hl]; omega)] at hJ; exact hJ)⟩
end Go.Proofs.Sl

/- digits: those of bytes; what they lack. -/
namespace Go.Proofs.Sl
open Go.RowKit Go.Proofs
attribute [local go_sem] Oper.semAt_some

theorem Own.keepsO {α : Type} {enc : α → Value} {B : Nat} {w w' : World} {A : Option Addr} {n c : Nat} {l : List α} (h : Own enc B w A n c l) (h0 : A = none ∨ 0 < c) (hg : w.grownBy w' (A.map (·.block))) : KeepsOthers w w' :=
  ⟨hg.size, fun k o hk ho => by
    refine (hg.block k (Array.getElem?_eq_some_iff.1 hk).1 fun e => ?_).trans hk
    rcases h.at_ with ⟨rfl, _⟩ | ⟨g, rfl, _, _, h4, _, _⟩
    · simp at e
    · rcases h0 with h0 | h0
      · cases h0
      · simp at e
        subst e
        obtain ⟨v, hv⟩ := h4 0 h0
        unfold World.cell? at hv
        dsimp only at hv
        rw [hk] at hv
        cases o <;> simp [Obj.isCells] at ho hv⟩

theorem each_any (A : Option Addr) (n c : Nat) (w : World) :
    Calls Tryz.prog 116 #[.slice A n c, .int .i64 4] w (fun e w' => ∃ Bb Bw, e = .returned (.func (.func 122) #[] #[.pointer (some ⟨Bb, 0, none⟩), .pointer (some ⟨Bw, 0, none⟩)]) ∧ w.heap.size ≤ Bb ∧ w.heap.size ≤ Bw ∧ w'.cell? ⟨Bb, 0, none⟩ = some (.slice A n c) ∧ w'.cell? ⟨Bw, 0, none⟩ = some (.int .i64 4) ∧ Grow w w') := by
  go_enter Tryz.func116, Tryz.ntmps116
  go_wp2
  go_ret
  exact ⟨_, _, rfl, Nat.le_refl _, by omega, by go_simp, by go_simp, ((Below.refl _ _).alloc (Nat.le_refl _) _).alloc (by simp) _⟩

set_option maxHeartbeats 4000000 in
theorem of_any (A : Option Addr) (n c : Nat) (b : List UInt8) (w : World) (hr : Rd eB w A n b) (hn : n ≤ 65536) :
    Calls Tryz.prog 101 #[.slice A n c, .int .i64 4] w (RetOwn eN w (nibs b)) := by
  have HR := Lib.hid hr
  have hbl := Lib.hid hr.len
  clear hr
  refine (callsIn_wide (n := 3)).1 ?_
  refine callsIn_of_wp_marks Tryz.func101 rfl trivial ?_ rfl
  simp only [Tryz.ntmps101, List.size_toArray, List.length_cons, List.length_nil, Nat.reduceAdd, Nat.reduceSub, Array.replicate_succ, Array.replicate_zero, List.push_toArray, List.append_toArray, List.nil_append, List.cons_append]
  gi_wp2_with fail
  refine ⟨trivial, ?_⟩
  refine (callsIn_wide.2 (dmay_any w)).mono ?_
  rintro e w1 ⟨rfl, g1⟩
  gi_wp2_with fail
  refine ⟨trivial, ?_⟩
  generalize hW2 : World.alloc w1 _ = w2
  have g2 : Below w1.heap.size w1 w2 := by rw [← hW2]; exact (Below.refl _ _).alloc (Nat.le_refl _) _
  have hc2 : w2.cell? ⟨w1.heap.size, 0, none⟩ = some (.slice none 0 0) := by subst hW2; go_simp
  have hf2 : w2.frozen? ⟨w1.heap.size, 0, none⟩ = false := by subst hW2; go_simp
  have hz2 : w1.heap.size < w2.heap.size := by rw [← hW2]; simp
  clear hW2
  refine (callsIn_wide.2 (each_any A n c w2)).mono ?_
  rintro e w3 ⟨Bb, Bw, rfl, hBb, hBw, hcb, hcw, g3⟩
  have hc3 := cell_old g3 hc2
  have hf3 : w3.frozen? ⟨w1.heap.size, 0, none⟩ = false := by rw [World.frozen?_of_block (w := w2) (a := ⟨w1.heap.size, 0, none⟩) (g3.block _ hz2)]; exact hf2
  have gg : Below w.heap.size w w3 := Below.trans g1 ((Below.trans g2 (g3.mono g2.size)).mono g1.size)
  have hz3 : w2.heap.size ≤ w3.heap.size := g3.size
  have hlb : Bb < w3.heap.size := World.block_lt_of_cell? w3 _ hcb
  have hlw : Bw < w3.heap.size := World.block_lt_of_cell? w3 _ hcw
  have hz1 : w.heap.size ≤ w1.heap.size := g1.size
  clear hc2 hf2 g3 g1 g2
  gi_wp2_with fail
  refine wpIn_rangeFunc_st (Kp := Kp2 Bb Bw A n b) (St := fun W W' => W' = W.drew) (xs := nibs b) rfl (by omega) (gf := 122) (lb := #[.pointer (some ⟨Bb, 0, none⟩), .pointer (some ⟨Bw, 0, none⟩)]) rfl trivial (enters_of Tryz.func122 (by kernel_rfl) rfl)
    (each_seq 2 (by omega) Bb Bw A n c b w3 hcb hcw (HR.out.below gg) (by omega)) (fun W W' h => by subst h; exact KeepsOthers.drew W) (fun h k => h.trans k) (fun W l o o' _ h ho _ => Kp2.put W l o o' h ho) (fun _ => rfl)
    (fun pre W => (∃ (Ao : Option Addr) (co : Nat), W.cell? ⟨w1.heap.size, 0, none⟩ = some (.slice Ao pre.length co) ∧ W.frozen? ⟨w1.heap.size, 0, none⟩ = false ∧ Own eN w3.heap.size W Ao pre.length co pre ∧ (Ao = none ∨ 0 < co) ∧ w3.heap.size ≤ W.heap.size) ∧ Below w.heap.size w W)
    (fun _ _ _ => False)
    (OwnFrom.and (Own.from (fun s A B row hs hg hr => by
      obtain ⟨Ao, co, h1, h2, h3, h4, h5⟩ := hs
      exact ⟨Ao, co, cell_kept h1 hg hr, (frozen_kept h1 hg hr).trans h2, h3.kept hg hr, h4, Nat.le_trans h5 hg.size⟩) _) (ownFrom_below (by omega) (by omega)))
    (fun _ _ _ _ _ hs _ _ => hs)
    (fun pre W W' h hst => by subst hst; obtain ⟨⟨Ao, co, h1, h2, h3, h4, h6⟩, h5⟩ := h; exact ⟨⟨Ao, co, h1, h2, h3.drew, h4, h6⟩, h5.drew⟩)
    ⟨⟨none, 0, hc3, hf3, Own.nil _ _, .inl rfl, Nat.le_refl _⟩, gg⟩
    (fun x => { tmps := #[.slice A n c, .int .i64 4, undef, undef, .slice none 0 0, .pointer (some ⟨w1.heap.size, 0, none⟩), .int .i64 (x : Int), .int .i64 4, .bool true, .bool false, .slice A n c, .int .i64 4, .func (.func 122) #[] #[.pointer (some ⟨Bb, 0, none⟩), .pointer (some ⟨Bw, 0, none⟩)], .int .i64 (x : Int), undef, undef, undef, undef, undef], defers := [] }) ?assign ?body ?done ?stop
  case assign =>
    intro l x W K hK
    gi_wp2
    exact hK
  case body =>
    rintro l pre x W ⟨⟨Ao, co, hc, hf, ho, h4, hzW⟩, hB⟩ hpre
    have hlen : pre.length + 1 ≤ 131072 := by have h1 := hpre.length_le; rw [nibs_length, hbl.out] at h1; simp at h1; omega
    have hA := ho.alloc (.cells #[.int .i64 (x : Int)] 3)
    have HO := Lib.hid hA
    have HX : Hid (Rd eN (W.alloc (.cells #[.int .i64 (x : Int)] 3)) (some ⟨W.heap.size, 0, none⟩) 1 [x]) := Lib.hid (Own.new (enc := eN) (B := 0) W 3 [x] (Nat.zero_le _) (by simp)).rd
    have HB := Lib.hid hB
    have hw3 : w1.heap.size < w3.heap.size := by omega
    have hca : (W.alloc (.cells #[.int .i64 (x : Int)] 3)).cell? ⟨w1.heap.size, 0, none⟩ = some (.slice Ao pre.length co) := cell_old ((Below.refl _ W).alloc (Nat.le_refl _) _) hc
    have hfa : (W.alloc (.cells #[.int .i64 (x : Int)] 3)).frozen? ⟨w1.heap.size, 0, none⟩ = false := by
      rw [World.frozen?_of_block (w := W) (a := ⟨w1.heap.size, 0, none⟩) (Below.heap_alloc W _ _ (show w1.heap.size < W.heap.size by omega))]; exact hf
    have HCA := Lib.hid (And.intro hca hfa)
    have HH := Lib.hid (And.intro hf h4)
    have hcW := Lib.hid hc
    clear ho hA hB hpre h4 hca hfa hf
    gi_wp2_with (gi_at_builtin; refine wpListIn_append_sl rfl _ _ 65 3 (.int .i64 0) 8 rfl Tryz.underlying65 infoI rfl (fun _ => rfl) rfl rfl HO.out HX.out (by omega) (by omega) (by simp; omega) ?_; intro A' c' w' h5 h6 h7; have hcx := (h7.cell (p := ⟨w1.heap.size, 0, none⟩) hw3).trans HCA.out.1; have hfx : w'.frozen? ⟨w1.heap.size, 0, none⟩ = false := (World.frozen?_of_block (w := (W.alloc (.cells #[.int .i64 (x : Int)] 3))) (a := ⟨w1.heap.size, 0, none⟩) (h7.block _ hw3)).trans HCA.out.2; have H5 := Lib.hid h5; have H6 := Lib.hid h6; have H7 := Lib.hid h7; clear h5 h6 h7)
    have hAl : Below w.heap.size w (W.alloc (.cells #[.int .i64 (x : Int)] 3)) := HB.out.alloc HB.out.size _
    have hB2 := (hAl.trans (H7.out.mono (by omega))).setCell (p := ⟨w1.heap.size, 0, none⟩) hz1 (.slice A' (pre.length + 1) c')
    have hk1 := ((KeepsOthers.alloc W _).trans (HO.out.keepsO HH.out.2 H6.out)).trans (KeepsOthers.setCell w' ⟨w1.heap.size, 0, none⟩ (.slice A' (pre.length + 1) c'))
    have hsm : ∀ k, k < w3.heap.size → k ≠ w1.heap.size → (w'.setCell ⟨w1.heap.size, 0, none⟩ (.slice A' (pre.length + 1) c')).heap[k]? = W.heap[k]? := fun k hk hne =>
      (block_set _ _ _ _ hne).trans ((H7.out.block k hk).trans (Below.heap_alloc W _ _ (by omega)))
    refine ⟨hk1, ⟨⟨fun v hv => ?_, fun _ => HR.out.below hB2⟩, fun v hv => ?_⟩, ⟨A', c', ?_, ?_, ?_, .inr ?_, ?_⟩, hB2⟩
    · exact (World.cell?_of_block (w := W) (a := ⟨Bb, 0, none⟩) (hsm Bb hlb (by omega))).trans hv
    · exact (World.cell?_of_block (w := W) (a := ⟨Bw, 0, none⟩) (hsm Bw hlw (by omega))).trans hv
    · rw [List.length_append]; exact cell_set_eq _ _ _ _ _ hcx
    · rw [frozen_set]; exact hfx
    · rw [List.length_append]; exact H5.out.set_other _ _ (fun e => by
        have := H5.out.lt w1.heap.size e (by have := H5.out.nc; omega)
        omega)
    · have := H5.out.nc; omega
    · have := H7.out.size; simp at this; simp [World.setCell]; omega
  case done =>
    rintro D W hD ⟨⟨Ao, co, hc, hf, ho, h4, hzW⟩, hB⟩ hK
    gi_wp2
    refine ⟨by simp, .inl ⟨_, _, rfl, run_takeDeferred hK, ?_⟩⟩
    exact ⟨_, results_tmp rfl _ _ _, _, _, _, rfl, (by rw [nibs_length] at *; exact (ho.kept (grownBy_putObj' W D _) (fun r e => by cases e; exact ⟨_, hK, rfl⟩)).mono (by omega)), hB.trans (belowK_b (w := w) (Nat.le_refl _) W D _ _ (by omega) hK rfl rfl)⟩
  case stop =>
    rintro D c pre W _ _ h _
    exact h.elim
end Go.Proofs.Sl

/- digits: what they lack. -/
namespace Go.Proofs.Sl
open Go.RowKit Go.Proofs
attribute [local go_sem] Oper.semAt_some

theorem nibs_lt (b : List UInt8) : ∀ x ∈ nibs b, x < 16 := by
  intro x hx
  simp only [nibs, List.mem_flatMap] at hx
  obtain ⟨c, _, h⟩ := hx
  have := c.toNat_lt
  simp at h
  omega
theorem lackOf_snoc (l : List Nat) (x : Nat) : lackOf (l ++ [x]) = lackOf l + (15 - x) := by simp [lackOf]
theorem lackOf_le (l : List Nat) : lackOf l ≤ 15 * l.length := by
  induction l with
  | nil => simp [lackOf]
  | cons a l ih => simp [lackOf] at ih ⊢; omega

set_option maxHeartbeats 4000000 in
theorem lack_any (A : Option Addr) (n c : Nat) (b : List UInt8) (w : World) (hr : Rd eB w A n b) (hn : n ≤ 65536) :
    Calls Tryz.prog 103 #[.slice A n c, .int .i64 4] w (RetV w (.int .i64 (lackOf (nibs b) : Int))) := by
  have HR := Lib.hid hr
  have hbl := Lib.hid hr.len
  clear hr
  refine (callsIn_wide (n := 3)).1 ?_
  refine callsIn_of_wp_marks Tryz.func103 rfl trivial ?_ rfl
  simp only [Tryz.ntmps103, List.size_toArray, List.length_cons, List.length_nil, Nat.reduceAdd, Nat.reduceSub, Array.replicate_succ, Array.replicate_zero, List.push_toArray, List.append_toArray, List.nil_append, List.cons_append]
  gi_wp2_with fail
  refine ⟨trivial, ?_⟩
  refine (callsIn_wide.2 (dmay_any _)).mono ?_
  rintro e w1 ⟨rfl, g1⟩
  have k0 : w1.cell? ⟨w.heap.size, 0, none⟩ = some (.int .i64 4) := (g1.cell (by simp)).trans (by go_simp)
  have hz1 : w.heap.size < w1.heap.size := by have := g1.size; simp at this; omega
  have hz1' : (w1.heap.size == w.heap.size) = false := by simp; omega
  have g1' : Below w.heap.size w w1 := ((Below.refl _ w).alloc (Nat.le_refl _) _).trans (g1.mono (by simp))
  clear g1
  gi_wp2_with fail
  refine ⟨trivial, ?_⟩
  generalize hW2 : World.alloc w1 _ = w2
  have g2 : Below w1.heap.size w1 w2 := by rw [← hW2]; exact (Below.refl _ _).alloc (Nat.le_refl _) _
  have hc2 : w2.cell? ⟨w1.heap.size, 0, none⟩ = some (.int .i64 0) := by subst hW2; go_simp
  have hf2 : w2.frozen? ⟨w1.heap.size, 0, none⟩ = false := by subst hW2; go_simp
  have hz2 : w1.heap.size < w2.heap.size := by rw [← hW2]; simp
  clear hW2
  refine (callsIn_wide.2 (each_any A n c w2)).mono ?_
  rintro e w3 ⟨Bb, Bw, rfl, hBb, hBw, hcb, hcw, g3⟩
  have hc3 := cell_old g3 hc2
  have hf3 : w3.frozen? ⟨w1.heap.size, 0, none⟩ = false := by rw [World.frozen?_of_block (w := w2) (a := ⟨w1.heap.size, 0, none⟩) (g3.block _ hz2)]; exact hf2
  have g23 : Below w1.heap.size w1 w3 := Below.trans g2 (g3.mono g2.size)
  have k3 := cell_old g23 k0
  have gg : Below w.heap.size w w3 := Below.trans g1' (g23.mono g1'.size)
  have hz3 : w2.heap.size ≤ w3.heap.size := g3.size
  have hlb : Bb < w3.heap.size := World.block_lt_of_cell? w3 _ hcb
  have hlw : Bw < w3.heap.size := World.block_lt_of_cell? w3 _ hcw
  clear hc2 hf2 g3 g1' g2 g23 k0
  gi_wp2_with fail
  refine wpIn_rangeFunc_st (Kp := Kp2 Bb Bw A n b) (St := fun W W' => W' = W.drew) (xs := nibs b) rfl (by omega) (gf := 122) (lb := #[.pointer (some ⟨Bb, 0, none⟩), .pointer (some ⟨Bw, 0, none⟩)]) rfl trivial (enters_of Tryz.func122 (by kernel_rfl) rfl)
    (each_seq 2 (by omega) Bb Bw A n c b w3 hcb hcw (HR.out.below gg) (by omega)) (fun W W' h => by subst h; exact KeepsOthers.drew W) (fun h k => h.trans k) (fun W l o o' _ h ho _ => Kp2.put W l o o' h ho) (fun _ => rfl)
    (fun pre W => (W.cell? ⟨w1.heap.size, 0, none⟩ = some (.int .i64 (lackOf pre : Int)) ∧ W.frozen? ⟨w1.heap.size, 0, none⟩ = false ∧ W.cell? ⟨w.heap.size, 0, none⟩ = some (.int .i64 4)) ∧ Below w.heap.size w W)
    (fun _ _ _ => False)
    (OwnFrom.and (Own.from (fun s A B row hs hg hr => ⟨cell_kept hs.1 hg hr, (frozen_kept hs.1 hg hr).trans hs.2.1, cell_kept hs.2.2 hg hr⟩) _) (ownFrom_below (by omega) (by omega)))
    (fun _ _ _ _ _ hs _ _ => hs)
    (fun pre W W' h hst => by subst hst; exact ⟨h.1, h.2.drew⟩)
    ⟨⟨hc3, hf3, k3⟩, gg⟩
    (fun x => { tmps := #[.slice A n c, .int .i64 4, undef, .pointer (some ⟨w.heap.size, 0, none⟩), .int .i64 0, .pointer (some ⟨w1.heap.size, 0, none⟩), .int .i64 (x : Int), .int .i64 4, .bool true, .bool false, .slice A n c, .int .i64 4, .func (.func 122) #[] #[.pointer (some ⟨Bb, 0, none⟩), .pointer (some ⟨Bw, 0, none⟩)], .int .i64 (x : Int), undef, undef, undef, undef, undef, undef, undef, undef], defers := [] }) ?assign ?body ?done ?stop
  case assign =>
    intro l x W K hK
    gi_wp2
    exact hK
  case body =>
    rintro l pre x W ⟨⟨hc, hf, hk⟩, hB⟩ hpre
    have hlen : pre.length + 1 ≤ 131072 := by have h1 := hpre.length_le; rw [nibs_length, hbl.out] at h1; simp at h1; omega
    have hx : x < 16 := nibs_lt b x (hpre.subset (by simp))
    have hle := lackOf_le pre
    have HS : Hid (lackOf (pre ++ [x]) = lackOf pre + (15 - x)) := Lib.hid (lackOf_snoc pre x)
    generalize hs : lackOf pre = s at *
    have hcd : W.drew.cell? ⟨w1.heap.size, 0, none⟩ = some (.int .i64 (s : Int)) := hc
    have hkd : W.drew.cell? ⟨w.heap.size, 0, none⟩ = some (.int .i64 4) := hk
    have hfd : W.drew.frozen? ⟨w1.heap.size, 0, none⟩ = false := hf
    have HB := Lib.hid hB
    clear hpre hB hs
    gi_wp2_with fail
    refine wpIn_region_rg (fun ⟨_, _, h⟩ => h) (by kernel_rfl) (fun x y : World => x = y) 22 7 8 [[], [], [], [], [], [], []]
      [.still [] (.int .i64 (s : Int)), .still [] (.int .i64 4), .still [] (.int .i64 16), .still [] (.int .i64 15), .still [] (.int .i64 (x : Int)), .still [] (.int .i64 (15 - (x : Int))), .still [] (.int .i64 ((s : Int) + (15 - (x : Int))))] (by kernel_rfl) (by kernel_rfl) rfl rfl rfl (fun _ _ _ h k => h.trans k) rfl ?_
    refine Obl.still (fun W' hg _ => ?_) ?_
    · subst hg
      go_wp2
      exact ⟨rfl, rfl, rfl, rfl⟩
    simp only [Act.put, List.setIfInBounds_toArray, List.set_cons_zero, List.set_cons_succ]
    refine Obl.still (fun W' hg _ => ?_) ?_
    · subst hg
      go_wp2
      exact ⟨rfl, rfl, rfl, rfl⟩
    simp only [Act.put, List.setIfInBounds_toArray, List.set_cons_zero, List.set_cons_succ]
    refine Obl.still (fun W' hg _ => ?_) ?_
    · subst hg
      go_wp2
      exact ⟨rfl, rfl, rfl, rfl⟩
    simp only [Act.put, List.setIfInBounds_toArray, List.set_cons_zero, List.set_cons_succ]
    refine Obl.still (fun W' hg _ => ?_) ?_
    · subst hg
      go_wp2
      exact ⟨rfl, rfl, rfl, rfl⟩
    simp only [Act.put, List.setIfInBounds_toArray, List.set_cons_zero, List.set_cons_succ]
    refine Obl.still (fun W' hg _ => ?_) ?_
    · subst hg
      go_wp2
      exact ⟨rfl, rfl, rfl, rfl⟩
    simp only [Act.put, List.setIfInBounds_toArray, List.set_cons_zero, List.set_cons_succ]
    refine Obl.still (fun W' hg _ => ?_) ?_
    · subst hg
      go_wp2
      exact ⟨rfl, rfl, rfl, rfl⟩
    simp only [Act.put, List.setIfInBounds_toArray, List.set_cons_zero, List.set_cons_succ]
    refine Obl.still (fun W' hg _ => ?_) ?_
    · subst hg
      go_wp2
      exact ⟨rfl, rfl, rfl, rfl⟩
    simp only [Act.put, List.setIfInBounds_toArray, List.set_cons_zero, List.set_cons_succ]
    refine Obl.done (fun W' hg hall => ?_)
    subst hg
    clear hall
    have hB2 := HB.out.drew.setCell (p := ⟨w1.heap.size, 0, none⟩) (show w.heap.size ≤ w1.heap.size by omega) (.int .i64 ((s : Int) + (15 - (x : Int))))
    have hk1 := (KeepsOthers.drew W).trans (KeepsOthers.setCell W.drew ⟨w1.heap.size, 0, none⟩ (.int .i64 ((s : Int) + (15 - (x : Int)))))
    have hsm : ∀ k, k ≠ w1.heap.size → (W.drew.setCell ⟨w1.heap.size, 0, none⟩ (.int .i64 ((s : Int) + (15 - (x : Int))))).heap[k]? = W.heap[k]? := fun k hne => block_set _ _ _ _ hne
    have HF := Lib.hid (And.intro hB2 (And.intro hk1 hsm))
    clear hB2 hk1 hsm
    go_wp2
    obtain ⟨hB2, hk1, hsm⟩ := HF.out
    refine ⟨hk1, ⟨⟨fun v hv => ?_, fun _ => HR.out.below hB2⟩, fun v hv => ?_⟩, ⟨?_, ?_, ?_⟩, hB2⟩
    · exact (World.cell?_of_block (w := W) (a := ⟨Bb, 0, none⟩) (hsm Bb (by omega))).trans hv
    · exact (World.cell?_of_block (w := W) (a := ⟨Bw, 0, none⟩) (hsm Bw (by omega))).trans hv
    · rw [HS.out, show ((s + (15 - x) : Nat) : Int) = (s : Int) + (15 - (x : Int)) by omega]
      exact cell_set_eq _ _ _ _ _ hcd
    · exact (frozen_set W.drew _ _ _).trans hfd
    · exact (World.cell?_of_block (w := W) (a := ⟨w.heap.size, 0, none⟩) (hsm w.heap.size (by omega))).trans hk
  case done =>
    rintro D W hD ⟨⟨hc, hf, hk⟩, hB⟩ hK
    gi_wp2
    refine ⟨by simp, .inl ⟨_, _, rfl, run_takeDeferred hK, ?_⟩⟩
    exact ⟨_, results_tmp rfl _ _ _, rfl, hB.trans (belowK_b (w := w) (Nat.le_refl _) W D _ _ (by omega) hK rfl rfl)⟩
  case stop =>
    rintro D c pre W _ _ h _
    exact h.elim
end Go.Proofs.Sl

/- digits: how many there are; all of them. -/
namespace Go.Proofs.Sl
open Go.RowKit Go.Proofs

theorem NOk.pos' {n : Nat} (h : NOk n) : 16 ≤ n := by rcases h with h | h | h <;> omega
theorem NOk.le' {n : Nat} (h : NOk n) : n ≤ 32 := by rcases h with h | h | h <;> omega

theorem bl480 : Lib.bitLen 480 = 9 := by kernel_rfl
theorem bl720 : Lib.bitLen 720 = 10 := by kernel_rfl
theorem bl960 : Lib.bitLen 960 = 10 := by kernel_rfl
set_option maxHeartbeats 1000000 in
theorem shape_any (N : Nat) (hN : NOk N) (w : World) : Calls Tryz.prog 46 #[.int .i64 (N : Int), .int .i64 4] w (RetV w (.tuple #[.int .i64 ((2 * N : Nat) : Int), .int .i64 3, .int .i64 4])) := by
  rcases hN with rfl | rfl | rfl
  all_goals
    go_enter Tryz.func46, Tryz.ntmps46
    go_wp2_with (first | (go_at_call 83; refine (dmay_any _).mono ?_; rintro e w1 ⟨rfl, hB⟩) | (go_at_call 84; refine (Tryz.bits_Len _ _ (by decide) (by decide)).mono ?_; rintro e w2 ⟨rfl, rfl⟩))
    refine bodyPost_ret (v := .tuple #[_, _, _]) (by simp [results, Tryz.f46, go_sem]; (first | rw [bl480] | rw [bl720] | rw [bl960]); exact ⟨by kernel_rfl, by kernel_rfl⟩) rfl ⟨rfl, hB⟩

theorem digAll_length (b : List UInt8) : (digAll b).length = b.length * 2 + 3 := by
  unfold digAll
  rw [List.length_append, List.length_take, nibs_length, nibs_length, putBE_length]
  omega

set_option maxHeartbeats 4000000 in
theorem dall_any (A : Option Addr) (n c : Nat) (b : List UInt8) (w : World) (hr : Rd eB w A n b) (hN : NOk n) :
    Calls Tryz.prog 66 #[.slice A n c, .int .i64 4] w (RetOwn eN w (digAll b)) := by
  have hn1 := hN.pos'
  have hn2 := hN.le'
  have HR := Lib.hid hr
  have hbl := Lib.hid hr.len
  have hlk : lackOf (nibs b) ≤ 15 * 64 := by
    have := lackOf_le (nibs b)
    rw [nibs_length, hr.len] at this
    omega
  clear hr
  go_enter Tryz.func66, Tryz.ntmps66
  go_wp2_with fail
  refine (shape_any n hN w).mono ?_
  rintro e w1 ⟨rfl, g1⟩
  clear hN
  have h0 : ((2 * (n : Int)) == 0) = false := by simp; omega
  have g1' : Grow w w1 := g1
  have HC := Lib.hid (lack_any A n c b w1 (HR.out.below g1) (by omega))
  generalize hlv : lackOf (nibs b) = lk at *
  clear g1
  go_wp2_with fail
  refine HC.out.mono ?_
  rintro e w2 ⟨rfl, g2⟩
  have g2' := g1'.trans _ _ _ g2
  clear HC g2 g1'
  have hsh : (lk : Int) * 16 % 18446744073709551616 = ((lk * 16 : Nat) : Int) := by omega
  have hsh1 : (lk : Int) % 18446744073709551616 = (lk : Int) := by omega
  have HC := Lib.hid (put_any (lk * 16) 2 w2 (by omega))
  rw [show ((lk * 16 : Nat) : Int) = (lk : Int) * 16 by omega, show ((2 : Nat) : Int) = 2 by rfl] at HC
  go_wp2_with fail
  refine HC.out.mono ?_
  rintro e w3 ⟨A3, n3, c3, rfl, h3, g3⟩
  obtain rfl : 2 = n3 := by rw [← h3.len, putBE_length]
  have g3' := g2'.trans _ _ _ g3
  clear HC g3 g2' hsh hsh1
  have HC := Lib.hid (of_any A3 2 c3 (putBE (lk * 16) 2) w3 h3.rd (by omega))
  clear h3
  go_wp2_with fail
  refine HC.out.mono ?_
  rintro e w4 ⟨A4, n4, c8, rfl, h4, g4⟩
  obtain rfl : 4 = n4 := by rw [← h4.len, nibs_length, putBE_length]
  have gg : Grow w w4 := g3'.trans _ _ _ g4
  clear HC g4 g3'
  have h4nc := h4.nc
  rcases h4.at_ with ⟨_, hz⟩ | ⟨g8, rfl, _⟩
  · omega
  have H4 := Lib.hid h4
  clear h4
  go_wp2_with fail
  refine wp_region_rg Grow 36 7 8 [[], [], [], [], [], [], []]
    [.still [] (.slice A n c), .still [] (.int .i64 4), .grow [] (OwnV eN w.heap.size (nibs b)), .still [] (.slice (some ⟨g8, 0, none⟩) 4 c8), .still [] (.int .i64 3), .still [] (.int .i64 3), .still [] (.slice (some ⟨g8, 0, none⟩) 3 3)] (by kernel_rfl) (by kernel_rfl) rfl rfl rfl Grow.trans (Grow.refl _) ?_
  refine Obl.still (fun W hg _ => ?_) ?_
  · clear hg
    go_wp2
    exact ⟨rfl, rfl, rfl, Grow.refl _⟩
  simp only [Act.put, List.setIfInBounds_toArray, List.set_cons_zero, List.set_cons_succ]
  refine Obl.still (fun W hg _ => ?_) ?_
  · clear hg
    go_wp2
    exact ⟨rfl, rfl, rfl, Grow.refl _⟩
  simp only [Act.put, List.setIfInBounds_toArray, List.set_cons_zero, List.set_cons_succ]
  refine Obl.grow (OwnV.keep _ _ _) (fun W hg _ => ?_) (fun v2 => ?_)
  · have HC := Lib.hid (of_any A n c b W (HR.out.below (gg.trans _ _ _ ((Below.refl _ _).drew.trans hg))) (by omega))
    have hsz : w.heap.size ≤ W.heap.size := (gg.trans _ _ _ ((Below.refl _ _).drew.trans hg)).size
    clear hg
    go_wp2_with fail
    refine (HC.out).mono ?_
    rintro e w' ⟨A1, n1, c1, rfl, h1, h2⟩
    go_wp2
    exact ⟨rfl, rfl, ⟨_, _, _, rfl, h1.mono hsz⟩, h2⟩
  simp only [Act.put, List.setIfInBounds_toArray, List.set_cons_zero, List.set_cons_succ]
  refine Obl.still (fun W hg _ => ?_) ?_
  · clear hg
    go_wp2
    exact ⟨rfl, rfl, rfl, Grow.refl _⟩
  simp only [Act.put, List.setIfInBounds_toArray, List.set_cons_zero, List.set_cons_succ]
  refine Obl.still (fun W hg _ => ?_) ?_
  · clear hg
    go_wp2
    exact ⟨rfl, rfl, rfl, Grow.refl _⟩
  simp only [Act.put, List.setIfInBounds_toArray, List.set_cons_zero, List.set_cons_succ]
  refine Obl.still (fun W hg _ => ?_) ?_
  · clear hg
    go_wp2
    exact ⟨rfl, rfl, rfl, Grow.refl _⟩
  simp only [Act.put, List.setIfInBounds_toArray, List.set_cons_zero, List.set_cons_succ]
  refine Obl.still (fun W hg _ => ?_) ?_
  · clear hg
    go_wp2
    exact ⟨rfl, rfl, rfl, Grow.refl _⟩
  simp only [Act.put, List.setIfInBounds_toArray, List.set_cons_zero, List.set_cons_succ]
  refine Obl.done (fun W hg hall => ?_)
  obtain ⟨h2, _⟩ := hall
  obtain ⟨A5, n5, c5, rfl, h5⟩ := h2
  obtain rfl : n * 2 = n5 := by rw [← h5.len, nibs_length, hbl.out]
  have gW : Grow w W := gg.trans _ _ _ ((Below.refl _ _).drew.trans hg)
  have H5 := Lib.hid h5
  have HX : Hid (Rd eN W (some ⟨g8, 0, none⟩) 3 ((nibs (putBE (lk * 16) 2)).take 3)) := Lib.hid (by
    have := (H4.out.rd.below ((Below.refl _ _).drew.trans hg)).sub 0 3 (by omega) (by omega)
    rw [show Option.map (fun x : Addr => x.add 0) (some ⟨g8, 0, none⟩) = some ⟨g8, 0, none⟩ by simp [Addr.add]] at this
    simpa using this)
  have hsz := gW.size
  have GW := Lib.hid gW
  clear hg h5 gW
  go_wp2_with (at_builtin; refine wpList_append_sl rfl _ _ 65 3 (.int .i64 0) 8 rfl Tryz.underlying65 infoI rfl (fun _ => rfl) rfl rfl H5.out HX.out (by omega) (by omega) hsz ?_; intro A' c' w' h6 h7 h8; have H6 := Lib.hid h6; have H8 := Lib.hid (Below.trans GW.out h8); clear h6 h7 h8)
  go_ret
  refine ⟨_, _, _, rfl, ?_, H8.out⟩
  have := H6.out
  unfold digAll
  rw [hlv]
  exact this
end Go.Proofs.Sl
