/- A range over a function: a law of this claim's own, where the iterator may turn cells of its own between two rounds (St), and the body keeps what the iterator reads (Kp). adrs.Plain and the document's Plain: an address as bytes. bits.RotateLeft64. -/
import Derived.Test.YtipedpkkabfdjaaGreatDoorFits03
import Derived.RangeFuncNested
import Derived.RangeFuncBound
import Derived.RangeFuncCalls
import Derived.RangeFuncLeaves
import Derived.TacticsInMore
import Derived.LoopNIn
import Derived.LoopIn
import Derived.OrdersIn
import Derived.Test.YtipedpkkabfdjaaGreatDoorFits01
/- A range over a function: a law of this claim's own, where the iterator may turn cells of its own between two rounds (St), and the body keeps what the iterator reads (Kp). -/
namespace Go.Proofs.Sl
open Go Go.RowKit

/-- What an iterator does: it hands out xs in their order, until a round says 'no more'. -/
def SeqSt {α : Type} (F : Fence) (n : Nat) (P : Program) (g : Nat) (lb : Array Value) (encs : α → Array Value) (Kp St : World → World → Prop) (xs : List α) (w : World) : Prop :=
  ∀ (l : Nat) (J Jx : List α → World → Prop) (W : World), Below w.heap.size w W → (∀ pre W W', J pre W → St W W' → J pre W') →
    (∀ pre x W1, J pre W1 → pre ++ [x] <+: xs → YieldAt F (n - 1) P l (encs x) W1 fun e W' =>
      (e = .returned (.bool true) ∧ J (pre ++ [x]) W' ∧ Kp W1 W') ∨ (e = .returned (.bool false) ∧ Jx (pre ++ [x]) W')) →
    J [] W →
    CallsIn F n P g (#[.func (.yield l) #[] #[]] ++ lb) W fun e W' => (∃ v, e = .returned v) ∧ (J xs W' ∨ ∃ pre, pre <+: xs ∧ Jx pre W')

variable {F : Fence} {n : Nat} {P : Program}

theorem wpIn_rangeFunc_st {α : Type} {g : Operand} {ps : Array Tmp} {assign body : Code} {Q : Exit → Act → World → Prop} {a : Act} {w : World}
    (hro : F.round = none) (h1 : 1 ≤ n) {gf : Nat} {lb : Array Value} (hg : a.eval g = .func (.func gf) #[] lb) (hFg : F.fn gf) (eg : ∀ args w, (callFunc gf args).run P w = .ok (.enter gf args) w)
    {encs : α → Array Value} {Kp St : World → World → Prop} {xs : List α} (hseq : SeqSt F (n - 1) P gf lb encs Kp St xs w) (hStK : ∀ W W', St W W' → KeepsOthers W W')
    (hKt : ∀ {A B C : World}, Kp A B → Kp B C → Kp A C) (hKb : ∀ (W : World) (l : Nat) (o o' : Obj), w.heap.size ≤ l → W.heap[l]? = some o → o.isCells = false → o.isWalk = false → Kp W (W.putObj l o')) (hps : ∀ x, (encs x).size = ps.size)
    (I : List α → World → Prop) (Ix : Code → List α → World → Prop) (hI : OwnFrom w.heap.size I) (hIx : ∀ c, OwnFrom w.heap.size (Ix c)) (hISt : ∀ pre W W', I pre W → St W W' → I pre W') (h0 : I [] w) (a₁ : α → Act)
    (hassign : ∀ (l : Nat) (x : α) (W : World) (K : Act → World → Prop), K (a₁ x) W →
      assign.wpIn (F.inRound l) (n - 1 - 1) P (Exit.then K (fun _ _ _ => False)) { tmps := (ps.zip (encs x)).foldl (fun t (p, v) => t.setIfInBounds p v) a.tmps, defers := [] } W)
    (hbody : ∀ (l : Nat) (pre : List α) (x : α) (W : World), I pre W → pre ++ [x] <+: xs → body.wpIn (F.inRound l) (n - 1 - 1) P (ownPostK Kp I Ix (pre ++ [x]) W) (a₁ x) W)
    (hdone : ∀ (D : Nat) (W : World), w.heap.size ≤ D → I xs W → W.heap[D]? = some (.deferred (some [])) → Q .normal { a with defers := { target := .collected D, args := #[] } :: a.defers } W)
    (hstop : ∀ (D : Nat) (c : Code) (pre : List α) (W : World), w.heap.size ≤ D → pre <+: xs → Ix c pre W → W.heap[D]? = some (.deferred (some [])) → c.wpIn F n P Q { a with defers := { target := .collected D, args := #[] } :: a.defers } W) :
    (Code.rangeFunc g ps assign body).wpIn F n P Q a w := by
  refine wpIn_rangeFunc ?_
  intro fn hfn
  rw [hro]
  obtain ⟨rec, hrec⟩ : ∃ rec : LoopState → Option Code → Loop, rec = fun st pe => { state := st, pending := pe, fn, tmps := a.tmps, params := ps, assign, body, defers := w.heap.size } := ⟨_, rfl⟩
  generalize hW1 : (w.alloc (.deferred (some []))).alloc (.loop (rec .ready none)) = W1
  have hL1 : W1.heap[w.heap.size + 1]? = some (.loop (rec .ready none)) := by
    rw [← hW1]; have := World.alloc_heap_new (w.alloc (.deferred (some []))) (.loop (rec .ready none)); rwa [World.size_alloc] at this
  have hK1 : W1.heap[w.heap.size]? = some (.deferred (some [])) := by
    rw [← hW1]; exact (Below.heap_alloc _ _ _ (by simp)).trans (World.alloc_heap_new w _)
  have hI1 : I [] W1 := by rw [← hW1]; exact hI.alloc _ (hI.alloc _ h0)
  have hb1 : Below w.heap.size w W1 := by
    rw [← hW1]; exact ((Below.refl _ w).alloc (Nat.le_refl _) _).alloc (by simp) _
  refine ⟨w.heap.size + 1, [{ target := .collected w.heap.size, args := #[] }], W1, { target := .fn (.func gf) lb, args := #[.func (.yield (w.heap.size + 1)) #[] #[]] }, W1, gf,
    #[.func (.yield (w.heap.size + 1)) #[] #[]] ++ lb, W1, ?_, ?_, ?_, ?_, fun _ => h1, ?_⟩
  · rw [← hW1, hrec]; exact run_enterLoop_outer _ _ _ _ _
  · simp only [resolve, hg]
    simp [go_sem]
  · intro f' hf'; simp [Target.leads] at hf'; subst hf'; exact hFg
  · simp [invoke, go_sem, eg]
  refine (hseq (w.heap.size + 1)
    (fun pre W => I pre W ∧ W.heap[w.heap.size + 1]? = some (.loop (rec .ready none)) ∧ W.heap[w.heap.size]? = some (.deferred (some [])))
    (fun pre W => ∃ c, Ix c pre W ∧ W.heap[w.heap.size + 1]? = some (.loop (rec .done (some c))) ∧ W.heap[w.heap.size]? = some (.deferred (some [])))
    W1 hb1
    (fun pre A B hs hst => ⟨hISt pre A B hs.1 hst, (hStK _ _ hst).same _ _ hs.2.1 rfl, (hStK _ _ hst).same _ _ hs.2.2 rfl⟩)
    ?_ ⟨hI1, hL1, hK1⟩).mono ?_
  · rintro pre x W ⟨hi, hl, hk⟩ hpre
    have hlt : w.heap.size + 1 < W.heap.size := (Array.getElem?_eq_some_iff.1 hl).1
    have hy := run_yield (P := P) (args := encs x) hl (by rw [hrec]; exact hps x)
    rw [hrec] at hy
    refine ⟨fn, _, assign, body, hy, roundIn_of_wpIn hfn (hassign _ x W _ ⟨_, run_beginRound hl (by rw [hrec]), ?_⟩)⟩
    have hl2 : (W.putObj (w.heap.size + 1) (.loop { rec .ready none with state := .busy })).heap[w.heap.size + 1]? = some (.loop { rec .ready none with state := .busy }) := World.putObj_heap_same hlt
    have hk2 : (W.putObj (w.heap.size + 1) (.loop { rec .ready none with state := .busy })).heap[w.heap.size]? = some (.deferred (some [])) := (World.putObj_heap_other (by omega)).trans hk
    have hw2 : Kp W (W.putObj (w.heap.size + 1) (.loop { rec .ready none with state := .busy })) := hKb _ _ _ _ (by omega) hl rfl rfl
    refine wpIn_mono (hbody _ pre x _ (hI.putObj _ hi (by omega) hl rfl) hpre) ?_
    have fin : ∀ (jump : Option Code) (W3 : World), KeepsOthers (W.putObj (w.heap.size + 1) (.loop { rec .ready none with state := .busy })) W3 →
        (Instr.endRound (w.heap.size + 1) jump).run P W3 = .ok (.bool jump.isNone) (W3.putObj (w.heap.size + 1) (.loop (rec (if jump.isNone then .ready else .done) jump))) ∧
        W3.heap[w.heap.size + 1]? = some (.loop { rec .ready none with state := .busy }) ∧
        (W3.putObj (w.heap.size + 1) (.loop (rec (if jump.isNone then .ready else .done) jump))).heap[w.heap.size + 1]? = some (.loop (rec (if jump.isNone then .ready else .done) jump)) ∧
        (W3.putObj (w.heap.size + 1) (.loop (rec (if jump.isNone then .ready else .done) jump))).heap[w.heap.size]? = some (.deferred (some [])) := fun jump W3 hk3 => by
      have hl3 := hk3.same _ _ hl2 rfl
      have := run_endRound (P := P) jump hl3
      rw [hrec] at this ⊢
      exact ⟨this, by rw [hrec] at hl3; exact hl3, World.putObj_heap_same (Array.getElem?_eq_some_iff.1 hl3).1, (World.putObj_heap_other (by omega)).trans (hk3.same _ _ hk2 rfl)⟩
    rintro e a3 W3 hp
    cases e with
    | normal =>
      obtain ⟨hk3, hkp3, hi3⟩ := hp
      obtain ⟨hr, hl3, hl4, hk4⟩ := fin none W3 hk3
      exact ⟨_, _, hr, .inl ⟨rfl, ⟨hI.putObj _ hi3 (by omega) hl3 rfl, hl4, hk4⟩, hKt (hKt hw2 hkp3) (hKb _ _ _ _ (by omega) hl3 rfl rfl)⟩⟩
    | ret =>
      obtain ⟨hk3, hi3⟩ := hp
      obtain ⟨hr, hl3, hl4, hk4⟩ := fin (some .ret) W3 hk3
      exact ⟨_, _, hr, .inr ⟨rfl, .ret, (hIx _).putObj _ hi3 (by omega) hl3 rfl, hl4, hk4⟩⟩
    | exit id =>
      obtain ⟨hk3, hi3⟩ := hp
      obtain ⟨hr, hl3, hl4, hk4⟩ := fin (some (.exit id)) W3 hk3
      exact ⟨_, _, hr, .inr ⟨rfl, .exit id, (hIx _).putObj _ hi3 (by omega) hl3 rfl, hl4, hk4⟩⟩
    | goto t =>
      obtain ⟨hk3, hi3⟩ := hp
      obtain ⟨hr, hl3, hl4, hk4⟩ := fin (some (.goto t)) W3 hk3
      exact ⟨_, _, hr, .inr ⟨rfl, .goto t, (hIx _).putObj _ hi3 (by omega) hl3 rfl, hl4, hk4⟩⟩
    | panic ch => exact hp.elim
    | outgrown => exact hp.elim
  · rintro e W2 ⟨⟨v, rfl⟩, (⟨hi, hl, hk⟩ | ⟨pre, hSp, c, hi, hl, hk⟩)⟩
    · exact ⟨none, _, by have := run_endLoop (P := P) hl (by rw [hrec]; simp); rw [hrec] at this; exact this, hdone _ _ (Nat.le_refl _) (hI.putObj _ hi (by omega) hl rfl) ((World.putObj_heap_other (by omega)).trans hk)⟩
    · exact ⟨some c, _, by have := run_endLoop (P := P) hl (by rw [hrec]; simp); rw [hrec] at this; exact this, hstop _ c pre _ (Nat.le_refl _) hSp ((hIx c).putObj _ hi (by omega) hl rfl) ((World.putObj_heap_other (by omega)).trans hk)⟩

/-! ### A region that draws its order, in a round of a range over a function -/
theorem wpIn_of_wp_op {l m : Nat} {P : Program} {o : Oper} {a : Act} {w : World} {K : Act → World → Prop} {Q : Exit → Act → World → Prop} (hd : ∀ c, o.op ≠ .defer c) (h : o.wp P a w K Q) : o.wpIn (Fence.wide.inRound l) m P a w K Q := by
  refine ⟨fun _ _ => trivial, ?_⟩
  rw [Fence.inRound_round, Oper.semAt_some l _ _ hd]
  unfold Oper.wp at h
  generalize (execOp a.eval o).run P w = r at *
  cases r with
  | ok x w' =>
    cases x <;> simp only [Oper.upon] at h
    all_goals simp only [Oper.uponIn]
    all_goals first
      | exact h
      | exact ⟨fun h' => (by simp [Fence.wide] at h'), CallsIn.inRound l (callsIn_wide.2 h)⟩
      | exact ⟨fun h' => (by simp [Fence.wide] at h'), fun c cs _ => let ⟨v, w', r, s⟩ := h c cs; ⟨v, w', r, stepsIn_wide.2 s⟩⟩
      | exact h.elim
  | halt x w' => cases x <;> simp only [Oper.upon] at h <;> simp only [Oper.uponIn] <;> first | exact h | exact h.elim

theorem wpAnyIn_of_wpAny {l m : Nat} {P : Program} {md : Region.Mode} {ops : Array Oper} {Q : Exit → Act → World → Prop} (hQ : ¬LetsOut Q) (hd : ∀ (i : Nat) (o : Oper), ops[i]? = some o → ∀ c, o.op ≠ .defer c) :
    ∀ (fuel : Nat) (listed : Array Bool) (a : Act) (w : World), wpAny P md ops Q fuel listed a w → wpAnyIn (Fence.wide.inRound l) m P md ops Q fuel listed a w
  | 0, _, _, _, h => h
  | fuel + 1, listed, a, w, h => ⟨h.1, fun i hi => by
    have hi' := h.2 i hi
    unfold wpOp at hi'
    unfold wpOpIn
    cases ho : ops[i]? with
    | none =>
      simp only [ho] at hi'
      exact wpAnyIn_of_wpAny hQ hd fuel _ _ _ hi'
    | some o =>
      simp only [ho] at hi'
      dsimp only
      split
      · rename_i hw
        rw [if_pos hw] at hi'
        rcases hi' with h1 | h1
        · exact Oper.wpIn_mono (fun a w => wpAnyIn_of_wpAny hQ hd fuel _ a w) (wpIn_of_wp_op (hd i o ho) h1)
        · exact absurd h1.2 hQ
      · rename_i hw
        rw [if_neg hw] at hi'
        exact ⟨fun _ _ => trivial, wpAnyIn_of_wpAny hQ hd fuel _ _ _ hi'⟩⟩

def noDeferB (ops : List Oper) : Bool := ops.all fun o => match o.op with | .defer _ => false | _ => true
theorem noDefer_spec {ops : List Oper} (h : noDeferB ops = true) (i : Nat) (o : Oper) (ho : ops.toArray[i]? = some o) : ∀ c, o.op ≠ .defer c := by
  intro c e
  have hm : o ∈ ops := by
    have : ops[i]? = some o := by simpa using ho
    exact List.mem_of_getElem? this
  have := List.all_eq_true.1 h o hm
  rw [e] at this
  cases this

/-- The drawn region's one walk, in a round. -/
theorem wpIn_region_rg {P : Program} {lr m : Nat} {id : Nat} {l : List Oper} {Q : Exit → Act → World → Prop} {a0 : Act} {w : World} (hQ : ¬LetsOut Q) (hdf : noDeferB l = true) (G : World → World → Prop) (nt N F : Nat) (needs : List (List Nat)) (ss : List St) (hm : P.follows .mixedOrders = true) (hB : (headB .any l.toArray nt N F needs && tailB .any l.toArray N) = true)
    (hN : ss.length = N) (hneeds : ss.map St.needs = needs) (hnt : a0.tmps.size = nt) (htrans : ∀ x y z, G x y → G y z → G x z) (h0 : G w.drew w.drew)
    (hO : Obl P l.toArray G (wpList P l.toArray Q) w.drew ss 0 [] l a0) : (Code.region id l.toArray true).wpIn (Fence.wide.inRound lr) m P Q a0 w :=
  wpIn_region_any hm (wpAnyIn_of_wpAny hQ (fun i o ho => noDefer_spec hdf i o ho) _ _ _ _ (wpAny_region_rg G nt N F needs ss hB hN hneeds hnt htrans h0 hO))

/-! ### The same outside a round, the tail carried out inside the fence (a round is begun in it) -/
theorem wpIn_of_wp_wide {m : Nat} {P : Program} {o : Oper} {a : Act} {w : World} {K : Act → World → Prop} {Q : Exit → Act → World → Prop} (h : o.wp P a w K Q) : o.wpIn Fence.wide m P a w K Q := by
  refine ⟨fun _ _ => trivial, ?_⟩
  have hs : Oper.semAt Fence.wide.round a.eval o = execOp a.eval o := rfl
  rw [hs]
  unfold Oper.wp at h
  generalize (execOp a.eval o).run P w = r at *
  cases r with
  | ok x w' =>
    cases x <;> simp only [Oper.upon] at h
    all_goals simp only [Oper.uponIn]
    all_goals first
      | exact h
      | exact ⟨fun h' => (by simp [Fence.wide] at h'), callsIn_wide.2 h⟩
      | exact ⟨fun h' => (by simp [Fence.wide] at h'), fun c cs _ => let ⟨v, w', r, s⟩ := h c cs; ⟨v, w', r, stepsIn_wide.2 s⟩⟩
      | exact h.elim
  | halt x w' => cases x <;> simp only [Oper.upon] at h <;> simp only [Oper.uponIn] <;> first | exact h | exact h.elim
theorem wpOpIn_wide {m : Nat} {P : Program} {ops : Array Oper} {i : Nat} {a : Act} {w : World} {K : Act → World → Prop} {Q : Exit → Act → World → Prop} (h : wpOp P ops (fun _ _ _ => False) i K a w) : wpOpIn Fence.wide m P ops Q i K a w := by
  unfold wpOp at h
  unfold wpOpIn
  cases ho : ops[i]? with
  | none => simp only [ho] at h; exact h
  | some o =>
    simp only [ho] at h
    dsimp only
    split
    · rename_i hw
      rw [if_pos hw] at h
      rcases h with h | h
      · exact wpIn_of_wp_wide (wp_exit_any h)
      · obtain ⟨_, _, _, h'⟩ := h; exact h'.elim
    · rename_i hw
      rw [if_neg hw] at h
      exact ⟨fun _ _ => trivial, h⟩
theorem wpAnyIn_of_seq {m : Nat} {P : Program} {md : Region.Mode} {ops : Array Oper} {Q : Exit → Act → World → Prop} : ∀ (l : List Oper) (k : Nat) (listed : Array Bool) (a : Act) (w : World), (∀ j, l[j]? = ops[k + j]?) →
    Region.seqB md ops l.length k listed = true → wpListIn Fence.wide m P ops Q l a w → wpAnyIn Fence.wide m P md ops Q l.length listed a w
  | [], _, _, _, _, _, hB, h => ⟨by simpa [Region.seqB] using hB, h⟩
  | o :: l, k, listed, a, w, hl, hB, h => by
    have h0 : ops[k]? = some o := by simpa using (hl 0).symm
    simp only [List.length_cons, Region.seqB, Bool.and_eq_true, decide_eq_true_eq] at hB
    refine ⟨fun h1 => (by rw [hB.1] at h1; cases h1), fun i hi => ?_⟩
    rw [hB.1] at hi
    have hik : i = k := by simpa using hi
    subst hik
    have hw : wpOpIn Fence.wide m P ops Q i (wpListIn Fence.wide m P ops Q l) a w := by unfold wpOpIn; simp only [h0]; exact h
    exact wpOpIn_mono (fun a' w' h' => wpAnyIn_of_seq l (i + 1) _ a' w' (fun j => by have := hl (j + 1); simpa [Nat.add_assoc, Nat.add_comm 1 j] using this) hB.2 h') hw

theorem wpIn_region_wide {P : Program} {m : Nat} {id : Nat} {l : List Oper} {Q : Exit → Act → World → Prop} {a0 : Act} {w : World} (G : World → World → Prop) (nt N F : Nat) (needs : List (List Nat)) (ss : List St) (hm : P.follows .mixedOrders = true) (hB : (headB .any l.toArray nt N F needs && tailB .any l.toArray N) = true)
    (hN : ss.length = N) (hneeds : ss.map St.needs = needs) (hnt : a0.tmps.size = nt) (htrans : ∀ x y z, G x y → G y z → G x z) (h0 : G w.drew w.drew)
    (hO : Obl P l.toArray G (wpListIn Fence.wide m P l.toArray Q) w.drew ss 0 [] l a0) : (Code.region id l.toArray true).wpIn Fence.wide m P Q a0 w :=
  wpIn_region_any hm (rg_region (Any := wpAnyIn Fence.wide m P .any l.toArray Q) G nt N F needs ss hB hN hneeds hnt htrans h0 hO (fun _ _ _ _ hne h => ⟨fun h' => absurd h' hne, fun i hi => wpOpIn_wide (h i hi)⟩) (fun listed a w hs h => by
      have h' := wpAnyIn_of_seq (m := m) (P := P) (md := .any) (Q := Q) (l.toArray.toList.drop N) N listed a w (fun j => by simp [List.getElem?_drop]) (by simpa using hs) h
      simpa using h'))

/-! ### What a round keeps -/
theorem Rd.kept {α : Type} {enc : α → Value} {w w' : World} {A : Option Addr} {n : Nat} {l : List α} {row : Option Nat} (h : Rd enc w A n l) (hg : w.grownBy w' row) (hr : ∀ r, row = some r → ∃ o : Obj, w.heap[r]? = some o ∧ o.isCells = false) : Rd enc w' A n l :=
  ⟨h.len, h.big, fun j hj => by
    obtain ⟨ad, e, hc⟩ := h.cell j hj
    exact ⟨ad, e, cell_kept hc hg hr⟩⟩
theorem Own.kept {α : Type} {enc : α → Value} {B : Nat} {w w' : World} {A : Option Addr} {n c : Nat} {l : List α} {row : Option Nat} (h : Own enc B w A n c l) (hg : w.grownBy w' row) (hr : ∀ r, row = some r → ∃ o : Obj, w.heap[r]? = some o ∧ o.isCells = false) : Own enc B w' A n c l := by
  by_cases hc : c = 0
  · have h1 := h.len
    have h2 := h.nc
    rcases h.at_ with h0 | ⟨g, e1, e2, e3, e4, e5, e6⟩
    · exact ⟨h.len, h.big, h.nc, h.cm, .inl h0⟩
    · exact ⟨h.len, h.big, h.nc, h.cm, .inr ⟨g, e1, e2, Nat.lt_of_lt_of_le e3 hg.size, fun i hi => by omega, fun i hi => by omega, fun j hj => by omega⟩⟩
  · refine h.other hg fun g hA e => ?_
    rcases h.at_ with h0 | ⟨g', e1, e2, e3, e4, e5, e6⟩
    · exact hc h0.2
    · rw [hA] at e1
      cases e1
      obtain ⟨o, ho, hn⟩ := hr g e
      obtain ⟨v, hv⟩ := e4 0 (by omega)
      unfold World.cell? at hv
      dsimp only at hv
      rw [ho] at hv
      cases o <;> simp [Obj.isCells] at hn hv

/-- What a round must keep: the bytes, and the variable that holds them. -/
def KpBox {α : Type} (enc : α → Value) (Bb : Nat) (A : Option Addr) (n : Nat) (l : List α) (W W' : World) : Prop :=
  (∀ v, W.cell? ⟨Bb, 0, none⟩ = some v → W'.cell? ⟨Bb, 0, none⟩ = some v) ∧ (Rd enc W A n l → Rd enc W' A n l)
theorem KpBox.trans {α : Type} {enc : α → Value} {Bb : Nat} {A : Option Addr} {n : Nat} {l : List α} {X Y Z : World} (h : KpBox enc Bb A n l X Y) (k : KpBox enc Bb A n l Y Z) : KpBox enc Bb A n l X Z := ⟨fun v hv => k.1 v (h.1 v hv), fun hr => k.2 (h.2 hr)⟩
theorem KpBox.put {α : Type} {enc : α → Value} {Bb : Nat} {A : Option Addr} {n : Nat} {l : List α} (W : World) (k : Nat) (o o' : Obj) (h : W.heap[k]? = some o) (ho : o.isCells = false) : KpBox enc Bb A n l W (W.putObj k o') :=
  ⟨fun _ hv => cell_kept hv (grownBy_putObj' W k o') (fun r e => by cases e; exact ⟨o, h, ho⟩), fun hr => hr.kept (grownBy_putObj' W k o') (fun r e => by cases e; exact ⟨o, h, ho⟩)⟩

theorem keeps_below {W W' : World} (h : Below W.heap.size W W') : KeepsOthers W W' := ⟨h.size, fun k _ hk _ => (h.block k (Array.getElem?_eq_some_iff.1 hk).1).trans hk⟩
end Go.Proofs.Sl

/- adrs.Plain and the document's Plain: an address as bytes. -/
namespace Go.Proofs.Sl
open Go.RowKit Go.Proofs

def vAd (x : Ad) : Value := .agg #[.int .u32 (x.layer : Int), .int .u64 (x.tree : Int), .int .u32 (x.kind : Int), .int .u32 (x.a : Int), .int .u32 (x.b : Int), .int .u32 (x.c : Int)]

theorem plainL_length (x : Ad) : (plainL x).length = 32 := by simp [plainL, putBE_length]

theorem u32_of {x : Nat} (h : x < 4294967296) : U32s [x, 0] := by
  intro y hy
  simp at hy
  omega
theorem u32_4 {x y z t : Nat} (h1 : x < 4294967296) (h2 : y < 4294967296) (h3 : z < 4294967296) (h4 : t < 4294967296) : U32s [x, y, z, t] := by
  intro u hu
  simp at hu
  omega
set_option maxHeartbeats 2000000 in
theorem plain_any (x : Ad) (w : World) (hx : x.Ok) :
    Calls Tryz.prog 115 #[vAd x] w (RetOwn eB w (plainL x)) := by
  unfold vAd
  go_enter Tryz.func115, Tryz.ntmps115
  go_wp2
  obtain ⟨W0, hW0⟩ : ∃ W0, W0 = w.alloc (.cells #[.int .u32 (x.layer : Int), .int .u64 (x.tree : Int), .int .u32 (x.kind : Int), .int .u32 (x.a : Int), .int .u32 (x.b : Int), .int .u32 (x.c : Int)] 64) := ⟨_, rfl⟩
  rw [← hW0]
  have hb0 : Below w.heap.size w W0.drew := by rw [hW0]; exact ((Below.refl _ _).alloc (Nat.le_refl _) _).drew
  have k0 : W0.drew.cell? ⟨w.heap.size, 0, none⟩ = some (.int .u32 (x.layer : Int)) := by rw [hW0]; exact cell_new ..
  have k1 : W0.drew.cell? ⟨w.heap.size, 1, none⟩ = some (.int .u64 (x.tree : Int)) := by rw [hW0]; exact cell_new ..
  have k2 : W0.drew.cell? ⟨w.heap.size, 2, none⟩ = some (.int .u32 (x.kind : Int)) := by rw [hW0]; exact cell_new ..
  have k3 : W0.drew.cell? ⟨w.heap.size, 3, none⟩ = some (.int .u32 (x.a : Int)) := by rw [hW0]; exact cell_new ..
  have k4 : W0.drew.cell? ⟨w.heap.size, 4, none⟩ = some (.int .u32 (x.b : Int)) := by rw [hW0]; exact cell_new ..
  have k5 : W0.drew.cell? ⟨w.heap.size, 5, none⟩ = some (.int .u32 (x.c : Int)) := by rw [hW0]; exact cell_new ..
  clear hW0
  refine wp_region_rg Grow 22 19 3 [[], [], [], [2], [], [], [], [], [], [], [], [], [], [], [], [], [15], [3, 6, 16], [17]]
    [.still [] (.pointer (some ⟨w.heap.size, 0, none⟩)), .still [] (.int .u32 (x.layer : Int)), .grow [] (RdV eU [x.layer, 0]), .grow [2] (OwnV eB 0 (wordsL [x.layer, 0])), .still [] (.pointer (some ⟨w.heap.size, 1, none⟩)), .still [] (.int .u64 (x.tree : Int)), .grow [] (OwnV eB 0 (putBE x.tree 8)),
      .still [] (.pointer (some ⟨w.heap.size, 2, none⟩)), .still [] (.int .u32 (x.kind : Int)), .still [] (.pointer (some ⟨w.heap.size, 3, none⟩)), .still [] (.int .u32 (x.a : Int)), .still [] (.pointer (some ⟨w.heap.size, 4, none⟩)), .still [] (.int .u32 (x.b : Int)), .still [] (.pointer (some ⟨w.heap.size, 5, none⟩)), .still [] (.int .u32 (x.c : Int)), .grow [] (RdV eU [x.kind, x.a, x.b, x.c]), .grow [15] (OwnV eB 0 (wordsL [x.kind, x.a, x.b, x.c])),
      .grow [3, 6, 16] (PartsV [wordsL [x.layer, 0], putBE x.tree 8, wordsL [x.kind, x.a, x.b, x.c]]), .grow [17] (OwnV eB w.heap.size (plainL x))] (by kernel_rfl) (by kernel_rfl) rfl rfl rfl Grow.trans (Grow.refl _) ?_
  refine Obl.still (fun W hg _ => ?_) ?_
  · have c0 := cell_old hg k0; have c1 := cell_old hg k1; have c2 := cell_old hg k2; have c3 := cell_old hg k3; have c4 := cell_old hg k4; have c5 := cell_old hg k5; clear hg k0 k1 k2 k3 k4 k5
    go_wp2
    exact ⟨rfl, rfl, rfl, Grow.refl _⟩
  simp only [Act.put, List.setIfInBounds_toArray, List.set_cons_zero, List.set_cons_succ]
  refine Obl.still (fun W hg _ => ?_) ?_
  · have c0 := cell_old hg k0; have c1 := cell_old hg k1; have c2 := cell_old hg k2; have c3 := cell_old hg k3; have c4 := cell_old hg k4; have c5 := cell_old hg k5; clear hg k0 k1 k2 k3 k4 k5
    go_wp2
    exact ⟨rfl, rfl, rfl, Grow.refl _⟩
  simp only [Act.put, List.setIfInBounds_toArray, List.set_cons_zero, List.set_cons_succ]
  refine Obl.grow (RdV.keep _ _) (fun W hg _ => ?_) (fun v2 => ?_)
  · clear hg k0 k1 k2 k3 k4 k5
    go_wp2
    exact ⟨rfl, rfl, ⟨_, _, _, rfl, rowU2 (cell_new ..) (cell_new ..)⟩, (Below.refl _ _).alloc (Nat.le_refl _) _⟩
  simp only [Act.put, List.setIfInBounds_toArray, List.set_cons_zero, List.set_cons_succ]
  refine Obl.grow (OwnV.keep _ _ _) (fun W hg ⟨h2, _⟩ => ?_) (fun v3 => ?_)
  · obtain ⟨A, n, c, rfl, hr⟩ := h2
    clear hg k0 k1 k2 k3 k4 k5
    go_wp2_with fail
    refine (words_any A n c [x.layer, 0] W hr (by rw [← hr.len]; simp) (u32_of hx.layer)).mono ?_
    rintro e w' ⟨A1, n1, c1, rfl, h1, h2⟩
    go_wp2
    exact ⟨rfl, rfl, ⟨_, _, _, rfl, h1.mono (Nat.zero_le _)⟩, h2⟩
  simp only [Act.put, List.setIfInBounds_toArray, List.set_cons_zero, List.set_cons_succ]
  refine Obl.still (fun W hg _ => ?_) ?_
  · have c0 := cell_old hg k0; have c1 := cell_old hg k1; have c2 := cell_old hg k2; have c3 := cell_old hg k3; have c4 := cell_old hg k4; have c5 := cell_old hg k5; clear hg k0 k1 k2 k3 k4 k5
    go_wp2
    exact ⟨rfl, rfl, rfl, Grow.refl _⟩
  simp only [Act.put, List.setIfInBounds_toArray, List.set_cons_zero, List.set_cons_succ]
  refine Obl.still (fun W hg _ => ?_) ?_
  · have c0 := cell_old hg k0; have c1 := cell_old hg k1; have c2 := cell_old hg k2; have c3 := cell_old hg k3; have c4 := cell_old hg k4; have c5 := cell_old hg k5; clear hg k0 k1 k2 k3 k4 k5
    go_wp2
    exact ⟨rfl, rfl, rfl, Grow.refl _⟩
  simp only [Act.put, List.setIfInBounds_toArray, List.set_cons_zero, List.set_cons_succ]
  refine Obl.grow (OwnV.keep _ _ _) (fun W hg _ => ?_) (fun v6 => ?_)
  · clear hg k0 k1 k2 k3 k4 k5
    go_wp2_with fail
    refine (put_any x.tree 8 W (by omega)).mono ?_
    rintro e w' ⟨A1, n1, c1, rfl, h1, h2⟩
    go_wp2
    exact ⟨rfl, rfl, ⟨_, _, _, rfl, h1.mono (Nat.zero_le _)⟩, h2⟩
  simp only [Act.put, List.setIfInBounds_toArray, List.set_cons_zero, List.set_cons_succ]
  refine Obl.still (fun W hg _ => ?_) ?_
  · have c0 := cell_old hg k0; have c1 := cell_old hg k1; have c2 := cell_old hg k2; have c3 := cell_old hg k3; have c4 := cell_old hg k4; have c5 := cell_old hg k5; clear hg k0 k1 k2 k3 k4 k5
    go_wp2
    exact ⟨rfl, rfl, rfl, Grow.refl _⟩
  simp only [Act.put, List.setIfInBounds_toArray, List.set_cons_zero, List.set_cons_succ]
  refine Obl.still (fun W hg _ => ?_) ?_
  · have c0 := cell_old hg k0; have c1 := cell_old hg k1; have c2 := cell_old hg k2; have c3 := cell_old hg k3; have c4 := cell_old hg k4; have c5 := cell_old hg k5; clear hg k0 k1 k2 k3 k4 k5
    go_wp2
    exact ⟨rfl, rfl, rfl, Grow.refl _⟩
  simp only [Act.put, List.setIfInBounds_toArray, List.set_cons_zero, List.set_cons_succ]
  refine Obl.still (fun W hg _ => ?_) ?_
  · have c0 := cell_old hg k0; have c1 := cell_old hg k1; have c2 := cell_old hg k2; have c3 := cell_old hg k3; have c4 := cell_old hg k4; have c5 := cell_old hg k5; clear hg k0 k1 k2 k3 k4 k5
    go_wp2
    exact ⟨rfl, rfl, rfl, Grow.refl _⟩
  simp only [Act.put, List.setIfInBounds_toArray, List.set_cons_zero, List.set_cons_succ]
  refine Obl.still (fun W hg _ => ?_) ?_
  · have c0 := cell_old hg k0; have c1 := cell_old hg k1; have c2 := cell_old hg k2; have c3 := cell_old hg k3; have c4 := cell_old hg k4; have c5 := cell_old hg k5; clear hg k0 k1 k2 k3 k4 k5
    go_wp2
    exact ⟨rfl, rfl, rfl, Grow.refl _⟩
  simp only [Act.put, List.setIfInBounds_toArray, List.set_cons_zero, List.set_cons_succ]
  refine Obl.still (fun W hg _ => ?_) ?_
  · have c0 := cell_old hg k0; have c1 := cell_old hg k1; have c2 := cell_old hg k2; have c3 := cell_old hg k3; have c4 := cell_old hg k4; have c5 := cell_old hg k5; clear hg k0 k1 k2 k3 k4 k5
    go_wp2
    exact ⟨rfl, rfl, rfl, Grow.refl _⟩
  simp only [Act.put, List.setIfInBounds_toArray, List.set_cons_zero, List.set_cons_succ]
  refine Obl.still (fun W hg _ => ?_) ?_
  · have c0 := cell_old hg k0; have c1 := cell_old hg k1; have c2 := cell_old hg k2; have c3 := cell_old hg k3; have c4 := cell_old hg k4; have c5 := cell_old hg k5; clear hg k0 k1 k2 k3 k4 k5
    go_wp2
    exact ⟨rfl, rfl, rfl, Grow.refl _⟩
  simp only [Act.put, List.setIfInBounds_toArray, List.set_cons_zero, List.set_cons_succ]
  refine Obl.still (fun W hg _ => ?_) ?_
  · have c0 := cell_old hg k0; have c1 := cell_old hg k1; have c2 := cell_old hg k2; have c3 := cell_old hg k3; have c4 := cell_old hg k4; have c5 := cell_old hg k5; clear hg k0 k1 k2 k3 k4 k5
    go_wp2
    exact ⟨rfl, rfl, rfl, Grow.refl _⟩
  simp only [Act.put, List.setIfInBounds_toArray, List.set_cons_zero, List.set_cons_succ]
  refine Obl.still (fun W hg _ => ?_) ?_
  · have c0 := cell_old hg k0; have c1 := cell_old hg k1; have c2 := cell_old hg k2; have c3 := cell_old hg k3; have c4 := cell_old hg k4; have c5 := cell_old hg k5; clear hg k0 k1 k2 k3 k4 k5
    go_wp2
    exact ⟨rfl, rfl, rfl, Grow.refl _⟩
  simp only [Act.put, List.setIfInBounds_toArray, List.set_cons_zero, List.set_cons_succ]
  refine Obl.grow (RdV.keep _ _) (fun W hg _ => ?_) (fun v15 => ?_)
  · clear hg k0 k1 k2 k3 k4 k5
    go_wp2
    exact ⟨rfl, rfl, ⟨_, _, _, rfl, rowU4 (cell_new ..) (cell_new ..) (cell_new ..) (cell_new ..)⟩, (Below.refl _ _).alloc (Nat.le_refl _) _⟩
  simp only [Act.put, List.setIfInBounds_toArray, List.set_cons_zero, List.set_cons_succ]
  refine Obl.grow (OwnV.keep _ _ _) (fun W hg ⟨h2, _⟩ => ?_) (fun v16 => ?_)
  · obtain ⟨A, n, c, rfl, hr⟩ := h2
    clear hg k0 k1 k2 k3 k4 k5
    go_wp2_with fail
    refine (words_any A n c [x.kind, x.a, x.b, x.c] W hr (by rw [← hr.len]; simp) (u32_4 hx.kind hx.a hx.b hx.c)).mono ?_
    rintro e w' ⟨A1, n1, c1, rfl, h1, h2⟩
    go_wp2
    exact ⟨rfl, rfl, ⟨_, _, _, rfl, h1.mono (Nat.zero_le _)⟩, h2⟩
  simp only [Act.put, List.setIfInBounds_toArray, List.set_cons_zero, List.set_cons_succ]
  refine Obl.grow (PartsV.keep _) (fun W hg ⟨h3, h6, h16, _⟩ => ?_) (fun v17 => ?_)
  · obtain ⟨A, n, c, rfl, h3⟩ := h3
    obtain ⟨A', n', c', rfl, h6⟩ := h6
    obtain ⟨A'', n'', c'', rfl, h16⟩ := h16
    clear hg k0 k1 k2 k3 k4 k5
    go_wp2
    exact ⟨rfl, rfl, ⟨_, _, rfl, parts3 (cell_new ..) (cell_new ..) (cell_new ..) (h3.rd.alloc _) (h6.rd.alloc _) (h16.rd.alloc _)⟩, (Below.refl _ _).alloc (Nat.le_refl _) _⟩
  simp only [Act.put, List.setIfInBounds_toArray, List.set_cons_zero, List.set_cons_succ]
  refine Obl.grow (OwnV.keep _ _ _) (fun W hg ⟨h17, _⟩ => ?_) (fun v18 => ?_)
  · obtain ⟨b, n, rfl, h17⟩ := h17
    have hsz : w.heap.size ≤ W.heap.size := Nat.le_trans hb0.size hg.size
    clear hg k0 k1 k2 k3 k4 k5 hb0
    have hn : n = 3 := by rw [← h17.len]; rfl
    have hl : [wordsL [x.layer, 0], putBE x.tree 8, wordsL [x.kind, x.a, x.b, x.c]].flatten = plainL x := by simp [wordsL, plainL]
    have HC := Lib.hid (cat_any b 0 n n _ W h17 (by omega) (Nat.le_refl _) (by rw [hl, plainL_length]; omega) (by rw [hl, plainL_length]; omega))
    rw [hl] at HC
    clear hn hl
    go_wp2_with fail
    refine HC.out.mono ?_
    rintro e w' ⟨A1, n1, c1, rfl, h1, h2⟩
    go_wp2
    exact ⟨rfl, rfl, ⟨_, _, _, rfl, h1.mono hsz⟩, h2⟩
  simp only [Act.put, List.setIfInBounds_toArray, List.set_cons_zero, List.set_cons_succ]
  refine Obl.done (fun W hg hall => ?_)
  obtain ⟨h18, _⟩ := hall
  obtain ⟨A, n, c, rfl, h18⟩ := h18
  have hB := hb0.trans (hg.mono hb0.size)
  clear hg k0 k1 k2 k3 k4 k5 hb0
  go_wp2
  go_ret
  exact ⟨_, _, _, rfl, h18, hB⟩

theorem parts7 {w : World} {B : Nat} {A0 A1 A2 A3 A4 A5 A6 : Option Addr} {n0 n1 n2 n3 n4 n5 n6 c0 c1 c2 c3 c4 c5 c6 : Nat} {l0 l1 l2 l3 l4 l5 l6 : List UInt8}
    (h0 : w.cell? ⟨B, 0, none⟩ = some (.slice A0 n0 c0)) (h1 : w.cell? ⟨B, 1, none⟩ = some (.slice A1 n1 c1)) (h2 : w.cell? ⟨B, 2, none⟩ = some (.slice A2 n2 c2)) (h3 : w.cell? ⟨B, 3, none⟩ = some (.slice A3 n3 c3)) (h4 : w.cell? ⟨B, 4, none⟩ = some (.slice A4 n4 c4)) (h5 : w.cell? ⟨B, 5, none⟩ = some (.slice A5 n5 c5)) (h6 : w.cell? ⟨B, 6, none⟩ = some (.slice A6 n6 c6))
    (r0 : Rd eB w A0 n0 l0) (r1 : Rd eB w A1 n1 l1) (r2 : Rd eB w A2 n2 l2) (r3 : Rd eB w A3 n3 l3) (r4 : Rd eB w A4 n4 l4) (r5 : Rd eB w A5 n5 l5) (r6 : Rd eB w A6 n6 l6) : Parts w (some ⟨B, 0, none⟩) 7 [l0, l1, l2, l3, l4, l5, l6] :=
  ⟨rfl, by omega, fun i hi => by
    match i, hi with
    | 0, _ => exact ⟨_, A0, n0, c0, rfl, by rw [add_zero']; exact h0, r0⟩
    | 1, _ => exact ⟨_, A1, n1, c1, rfl, by rw [add_zero']; exact h1, r1⟩
    | 2, _ => exact ⟨_, A2, n2, c2, rfl, by rw [add_zero']; exact h2, r2⟩
    | 3, _ => exact ⟨_, A3, n3, c3, rfl, by rw [add_zero']; exact h3, r3⟩
    | 4, _ => exact ⟨_, A4, n4, c4, rfl, by rw [add_zero']; exact h4, r4⟩
    | 5, _ => exact ⟨_, A5, n5, c5, rfl, by rw [add_zero']; exact h5, r5⟩
    | 6, _ => exact ⟨_, A6, n6, c6, rfl, by rw [add_zero']; exact h6, r6⟩⟩

set_option maxHeartbeats 2000000 in
theorem rplain_any (x : Ad) (w : World) (hx : x.Ok) :
    Calls Tryz.prog 92 #[vAd x] w (RetOwn eB w (plainL x)) := by
  unfold vAd
  go_enter Tryz.func92, Tryz.ntmps92
  go_wp2
  obtain ⟨W0, hW0⟩ : ∃ W0, W0 = w.alloc (.cells #[.int .u32 (x.layer : Int), .int .u64 (x.tree : Int), .int .u32 (x.kind : Int), .int .u32 (x.a : Int), .int .u32 (x.b : Int), .int .u32 (x.c : Int)] 64) := ⟨_, rfl⟩
  rw [← hW0]
  have hb0 : Below w.heap.size w W0.drew := by rw [hW0]; exact ((Below.refl _ _).alloc (Nat.le_refl _) _).drew
  have k0 : W0.drew.cell? ⟨w.heap.size, 0, none⟩ = some (.int .u32 (x.layer : Int)) := by rw [hW0]; exact cell_new ..
  have k1 : W0.drew.cell? ⟨w.heap.size, 1, none⟩ = some (.int .u64 (x.tree : Int)) := by rw [hW0]; exact cell_new ..
  have k2 : W0.drew.cell? ⟨w.heap.size, 2, none⟩ = some (.int .u32 (x.kind : Int)) := by rw [hW0]; exact cell_new ..
  have k3 : W0.drew.cell? ⟨w.heap.size, 3, none⟩ = some (.int .u32 (x.a : Int)) := by rw [hW0]; exact cell_new ..
  have k4 : W0.drew.cell? ⟨w.heap.size, 4, none⟩ = some (.int .u32 (x.b : Int)) := by rw [hW0]; exact cell_new ..
  have k5 : W0.drew.cell? ⟨w.heap.size, 5, none⟩ = some (.int .u32 (x.c : Int)) := by rw [hW0]; exact cell_new ..
  clear hW0
  refine wp_region_rg Grow 24 21 3 [[], [], [], [], [], [], [], [], [], [], [], [], [], [], [], [], [], [], [], [2, 3, 6, 9, 12, 15, 18], [19]]
    [.still [] (.pointer (some ⟨w.heap.size, 0, none⟩)), .still [] (.int .u32 (x.layer : Int)), .grow [] (OwnV eB 0 (putBE x.layer 4)), .grow [] (OwnV eB 0 (putBE 0 4)), .still [] (.pointer (some ⟨w.heap.size, 1, none⟩)), .still [] (.int .u64 (x.tree : Int)), .grow [] (OwnV eB 0 (putBE x.tree 8)), .still [] (.pointer (some ⟨w.heap.size, 2, none⟩)), .still [] (.int .u32 (x.kind : Int)), .grow [] (OwnV eB 0 (putBE x.kind 4)), .still [] (.pointer (some ⟨w.heap.size, 3, none⟩)), .still [] (.int .u32 (x.a : Int)), .grow [] (OwnV eB 0 (putBE x.a 4)), .still [] (.pointer (some ⟨w.heap.size, 4, none⟩)), .still [] (.int .u32 (x.b : Int)), .grow [] (OwnV eB 0 (putBE x.b 4)), .still [] (.pointer (some ⟨w.heap.size, 5, none⟩)), .still [] (.int .u32 (x.c : Int)), .grow [] (OwnV eB 0 (putBE x.c 4)), .grow [2, 3, 6, 9, 12, 15, 18] (PartsV [putBE x.layer 4, putBE 0 4, putBE x.tree 8, putBE x.kind 4, putBE x.a 4, putBE x.b 4, putBE x.c 4]), .grow [19] (OwnV eB w.heap.size (plainL x))] (by kernel_rfl) (by kernel_rfl) rfl rfl rfl Grow.trans (Grow.refl _) ?_
  refine Obl.still (fun W hg _ => ?_) ?_
  · have c0 := cell_old hg k0; have c1 := cell_old hg k1; have c2 := cell_old hg k2; have c3 := cell_old hg k3; have c4 := cell_old hg k4; have c5 := cell_old hg k5; clear hg k0 k1 k2 k3 k4 k5
    go_wp2
    exact ⟨rfl, rfl, rfl, Grow.refl _⟩
  simp only [Act.put, List.setIfInBounds_toArray, List.set_cons_zero, List.set_cons_succ]
  refine Obl.still (fun W hg _ => ?_) ?_
  · have c0 := cell_old hg k0; have c1 := cell_old hg k1; have c2 := cell_old hg k2; have c3 := cell_old hg k3; have c4 := cell_old hg k4; have c5 := cell_old hg k5; clear hg k0 k1 k2 k3 k4 k5
    go_wp2
    exact ⟨rfl, rfl, rfl, Grow.refl _⟩
  simp only [Act.put, List.setIfInBounds_toArray, List.set_cons_zero, List.set_cons_succ]
  refine Obl.grow (OwnV.keep _ _ _) (fun W hg _ => ?_) (fun v => ?_)
  · clear hg k0 k1 k2 k3 k4 k5
    go_wp2_with fail
    refine (word_any x.layer W hx.layer).mono ?_
    rintro e w' ⟨A1, n1, c1, rfl, h1, h2⟩
    go_wp2
    exact ⟨rfl, rfl, ⟨_, _, _, rfl, h1.mono (Nat.zero_le _)⟩, h2⟩
  simp only [Act.put, List.setIfInBounds_toArray, List.set_cons_zero, List.set_cons_succ]
  refine Obl.grow (OwnV.keep _ _ _) (fun W hg _ => ?_) (fun v => ?_)
  · clear hg k0 k1 k2 k3 k4 k5
    go_wp2_with fail
    refine (word_any 0 W (by omega)).mono ?_
    rintro e w' ⟨A1, n1, c1, rfl, h1, h2⟩
    go_wp2
    exact ⟨rfl, rfl, ⟨_, _, _, rfl, h1.mono (Nat.zero_le _)⟩, h2⟩
  simp only [Act.put, List.setIfInBounds_toArray, List.set_cons_zero, List.set_cons_succ]
  refine Obl.still (fun W hg _ => ?_) ?_
  · have c0 := cell_old hg k0; have c1 := cell_old hg k1; have c2 := cell_old hg k2; have c3 := cell_old hg k3; have c4 := cell_old hg k4; have c5 := cell_old hg k5; clear hg k0 k1 k2 k3 k4 k5
    go_wp2
    exact ⟨rfl, rfl, rfl, Grow.refl _⟩
  simp only [Act.put, List.setIfInBounds_toArray, List.set_cons_zero, List.set_cons_succ]
  refine Obl.still (fun W hg _ => ?_) ?_
  · have c0 := cell_old hg k0; have c1 := cell_old hg k1; have c2 := cell_old hg k2; have c3 := cell_old hg k3; have c4 := cell_old hg k4; have c5 := cell_old hg k5; clear hg k0 k1 k2 k3 k4 k5
    go_wp2
    exact ⟨rfl, rfl, rfl, Grow.refl _⟩
  simp only [Act.put, List.setIfInBounds_toArray, List.set_cons_zero, List.set_cons_succ]
  refine Obl.grow (OwnV.keep _ _ _) (fun W hg _ => ?_) (fun v6 => ?_)
  · clear hg k0 k1 k2 k3 k4 k5
    go_wp2_with fail
    refine (rput_any x.tree 8 W hx.tree (by omega)).mono ?_
    rintro e w' ⟨A1, n1, c1, rfl, h1, h2⟩
    go_wp2
    exact ⟨rfl, rfl, ⟨_, _, _, rfl, h1.mono (Nat.zero_le _)⟩, h2⟩
  simp only [Act.put, List.setIfInBounds_toArray, List.set_cons_zero, List.set_cons_succ]
  refine Obl.still (fun W hg _ => ?_) ?_
  · have c0 := cell_old hg k0; have c1 := cell_old hg k1; have c2 := cell_old hg k2; have c3 := cell_old hg k3; have c4 := cell_old hg k4; have c5 := cell_old hg k5; clear hg k0 k1 k2 k3 k4 k5
    go_wp2
    exact ⟨rfl, rfl, rfl, Grow.refl _⟩
  simp only [Act.put, List.setIfInBounds_toArray, List.set_cons_zero, List.set_cons_succ]
  refine Obl.still (fun W hg _ => ?_) ?_
  · have c0 := cell_old hg k0; have c1 := cell_old hg k1; have c2 := cell_old hg k2; have c3 := cell_old hg k3; have c4 := cell_old hg k4; have c5 := cell_old hg k5; clear hg k0 k1 k2 k3 k4 k5
    go_wp2
    exact ⟨rfl, rfl, rfl, Grow.refl _⟩
  simp only [Act.put, List.setIfInBounds_toArray, List.set_cons_zero, List.set_cons_succ]
  refine Obl.grow (OwnV.keep _ _ _) (fun W hg _ => ?_) (fun v => ?_)
  · clear hg k0 k1 k2 k3 k4 k5
    go_wp2_with fail
    refine (word_any x.kind W hx.kind).mono ?_
    rintro e w' ⟨A1, n1, c1, rfl, h1, h2⟩
    go_wp2
    exact ⟨rfl, rfl, ⟨_, _, _, rfl, h1.mono (Nat.zero_le _)⟩, h2⟩
  simp only [Act.put, List.setIfInBounds_toArray, List.set_cons_zero, List.set_cons_succ]
  refine Obl.still (fun W hg _ => ?_) ?_
  · have c0 := cell_old hg k0; have c1 := cell_old hg k1; have c2 := cell_old hg k2; have c3 := cell_old hg k3; have c4 := cell_old hg k4; have c5 := cell_old hg k5; clear hg k0 k1 k2 k3 k4 k5
    go_wp2
    exact ⟨rfl, rfl, rfl, Grow.refl _⟩
  simp only [Act.put, List.setIfInBounds_toArray, List.set_cons_zero, List.set_cons_succ]
  refine Obl.still (fun W hg _ => ?_) ?_
  · have c0 := cell_old hg k0; have c1 := cell_old hg k1; have c2 := cell_old hg k2; have c3 := cell_old hg k3; have c4 := cell_old hg k4; have c5 := cell_old hg k5; clear hg k0 k1 k2 k3 k4 k5
    go_wp2
    exact ⟨rfl, rfl, rfl, Grow.refl _⟩
  simp only [Act.put, List.setIfInBounds_toArray, List.set_cons_zero, List.set_cons_succ]
  refine Obl.grow (OwnV.keep _ _ _) (fun W hg _ => ?_) (fun v => ?_)
  · clear hg k0 k1 k2 k3 k4 k5
    go_wp2_with fail
    refine (word_any x.a W hx.a).mono ?_
    rintro e w' ⟨A1, n1, c1, rfl, h1, h2⟩
    go_wp2
    exact ⟨rfl, rfl, ⟨_, _, _, rfl, h1.mono (Nat.zero_le _)⟩, h2⟩
  simp only [Act.put, List.setIfInBounds_toArray, List.set_cons_zero, List.set_cons_succ]
  refine Obl.still (fun W hg _ => ?_) ?_
  · have c0 := cell_old hg k0; have c1 := cell_old hg k1; have c2 := cell_old hg k2; have c3 := cell_old hg k3; have c4 := cell_old hg k4; have c5 := cell_old hg k5; clear hg k0 k1 k2 k3 k4 k5
    go_wp2
    exact ⟨rfl, rfl, rfl, Grow.refl _⟩
  simp only [Act.put, List.setIfInBounds_toArray, List.set_cons_zero, List.set_cons_succ]
  refine Obl.still (fun W hg _ => ?_) ?_
  · have c0 := cell_old hg k0; have c1 := cell_old hg k1; have c2 := cell_old hg k2; have c3 := cell_old hg k3; have c4 := cell_old hg k4; have c5 := cell_old hg k5; clear hg k0 k1 k2 k3 k4 k5
    go_wp2
    exact ⟨rfl, rfl, rfl, Grow.refl _⟩
  simp only [Act.put, List.setIfInBounds_toArray, List.set_cons_zero, List.set_cons_succ]
  refine Obl.grow (OwnV.keep _ _ _) (fun W hg _ => ?_) (fun v => ?_)
  · clear hg k0 k1 k2 k3 k4 k5
    go_wp2_with fail
    refine (word_any x.b W hx.b).mono ?_
    rintro e w' ⟨A1, n1, c1, rfl, h1, h2⟩
    go_wp2
    exact ⟨rfl, rfl, ⟨_, _, _, rfl, h1.mono (Nat.zero_le _)⟩, h2⟩
  simp only [Act.put, List.setIfInBounds_toArray, List.set_cons_zero, List.set_cons_succ]
  refine Obl.still (fun W hg _ => ?_) ?_
  · have c0 := cell_old hg k0; have c1 := cell_old hg k1; have c2 := cell_old hg k2; have c3 := cell_old hg k3; have c4 := cell_old hg k4; have c5 := cell_old hg k5; clear hg k0 k1 k2 k3 k4 k5
    go_wp2
    exact ⟨rfl, rfl, rfl, Grow.refl _⟩
  simp only [Act.put, List.setIfInBounds_toArray, List.set_cons_zero, List.set_cons_succ]
  refine Obl.still (fun W hg _ => ?_) ?_
  · have c0 := cell_old hg k0; have c1 := cell_old hg k1; have c2 := cell_old hg k2; have c3 := cell_old hg k3; have c4 := cell_old hg k4; have c5 := cell_old hg k5; clear hg k0 k1 k2 k3 k4 k5
    go_wp2
    exact ⟨rfl, rfl, rfl, Grow.refl _⟩
  simp only [Act.put, List.setIfInBounds_toArray, List.set_cons_zero, List.set_cons_succ]
  refine Obl.grow (OwnV.keep _ _ _) (fun W hg _ => ?_) (fun v => ?_)
  · clear hg k0 k1 k2 k3 k4 k5
    go_wp2_with fail
    refine (word_any x.c W hx.c).mono ?_
    rintro e w' ⟨A1, n1, c1, rfl, h1, h2⟩
    go_wp2
    exact ⟨rfl, rfl, ⟨_, _, _, rfl, h1.mono (Nat.zero_le _)⟩, h2⟩
  simp only [Act.put, List.setIfInBounds_toArray, List.set_cons_zero, List.set_cons_succ]
  refine Obl.grow (PartsV.keep _) (fun W hg ⟨h2, h3, h6, h9, h12, h15, h18, _⟩ => ?_) (fun v19 => ?_)
  · obtain ⟨A0, n0, c0, rfl, h2⟩ := h2
    obtain ⟨A1, n1, c1, rfl, h3⟩ := h3
    obtain ⟨A2, n2, c2, rfl, h6⟩ := h6
    obtain ⟨A3, n3, c3, rfl, h9⟩ := h9
    obtain ⟨A4, n4, c4, rfl, h12⟩ := h12
    obtain ⟨A5, n5, c5, rfl, h15⟩ := h15
    obtain ⟨A6, n6, c6, rfl, h18⟩ := h18
    clear hg k0 k1 k2 k3 k4 k5
    go_wp2
    exact ⟨rfl, rfl, ⟨_, _, rfl, parts7 (cell_new ..) (cell_new ..) (cell_new ..) (cell_new ..) (cell_new ..) (cell_new ..) (cell_new ..) (h2.rd.alloc _) (h3.rd.alloc _) (h6.rd.alloc _) (h9.rd.alloc _) (h12.rd.alloc _) (h15.rd.alloc _) (h18.rd.alloc _)⟩, (Below.refl _ _).alloc (Nat.le_refl _) _⟩
  simp only [Act.put, List.setIfInBounds_toArray, List.set_cons_zero, List.set_cons_succ]
  refine Obl.grow (OwnV.keep _ _ _) (fun W hg ⟨h19, _⟩ => ?_) (fun v20 => ?_)
  · obtain ⟨b, n, rfl, h19⟩ := h19
    have hsz : w.heap.size ≤ W.heap.size := Nat.le_trans hb0.size hg.size
    clear hg k0 k1 k2 k3 k4 k5 hb0
    have hl : [putBE x.layer 4, putBE 0 4, putBE x.tree 8, putBE x.kind 4, putBE x.a 4, putBE x.b 4, putBE x.c 4].flatten = plainL x := by simp [plainL]
    have HC := Lib.hid (rcat_any (some ⟨b, 0, none⟩) n n _ W h19 (by rw [hl, plainL_length]; omega))
    rw [hl] at HC
    clear hl
    go_wp2_with fail
    refine HC.out.mono ?_
    rintro e w' ⟨A1, n1, c1, rfl, h1, h2⟩
    go_wp2
    exact ⟨rfl, rfl, ⟨_, _, _, rfl, h1.mono hsz⟩, h2⟩
  simp only [Act.put, List.setIfInBounds_toArray, List.set_cons_zero, List.set_cons_succ]
  refine Obl.done (fun W hg hall => ?_)
  obtain ⟨h20, _⟩ := hall
  obtain ⟨A, n, c, rfl, h20⟩ := h20
  have hB := hb0.trans (hg.mono hb0.size)
  clear hg k0 k1 k2 k3 k4 k5 hb0
  go_wp2
  go_ret
  exact ⟨_, _, _, rfl, h20, hB⟩
end Go.Proofs.Sl

/- bits.RotateLeft64. -/
namespace Go.Proofs.Sl
open Go Go.RowKit Go.Proofs

theorem or_u64 (a b : Nat) (ha : a < 2 ^ 64) (hb : b < 2 ^ 64) : bits .or .u64 (a : Int) (b : Int) = ((a ||| b : Nat) : Int) := (bits_nat .u64 64 (by decide) wraps_u64 a b ha hb).2
theorem rotl_toNat (x : UInt64) (k : Nat) (hk : k < 64) : (rotl x k).toNat = (x.toNat * 2 ^ k % 2 ^ 64) ||| (x.toNat / 2 ^ (64 - k)) := by
  unfold rotl
  rw [UInt64.toNat_or, UInt64.toNat_shiftLeft, UInt64.toNat_shiftRight]
  have hx := x.toNat_lt
  have e1 : (UInt64.ofNat k).toNat % 64 = k := by rw [UInt64.toNat_ofNat_of_lt' (by show k < 2 ^ 64; omega)]; omega
  rw [e1, Nat.shiftLeft_eq]
  by_cases h0 : k = 0
  · subst h0
    have e2 : (UInt64.ofNat (64 - 0)).toNat % 64 = 0 := by decide
    rw [e2]
    simp
    rw [Nat.div_eq_of_lt hx]
    simp
  · have e2 : (UInt64.ofNat (64 - k)).toNat % 64 = 64 - k := by rw [UInt64.toNat_ofNat_of_lt' (by show 64 - k < 2 ^ 64; omega)]; omega
    rw [e2, Nat.shiftRight_eq_div_pow]

set_option maxHeartbeats 1000000 in
theorem rot_any (x : UInt64) (k : Nat) (w : World) (hk : k < 64) : Calls Tryz.prog 120 #[.int .u64 (x.toNat : Int), .int .i64 (k : Int)] w (fun e w' => e = .returned (.int .u64 ((rotl x k).toNat : Int)) ∧ w = w') := by
  have hr := rotl_toNat x k hk
  have hx := x.toNat_lt
  have hm : bits .and .u64 (k : Int) 63 = (k : Int) := by
    have := mask_u64 k 6 (by omega) (by omega)
    rw [Nat.mod_eq_of_lt (by omega)] at this
    exact this
  have ho := or_u64 (x.toNat * 2 ^ k % 2 ^ 64) (x.toNat / 2 ^ (64 - k)) (Nat.mod_lt _ (Nat.two_pow_pos _)) (Nat.lt_of_le_of_lt (Nat.div_le_self _ _) hx)
  rw [← hr] at ho
  have HO := Lib.hid ho
  clear hr ho hx
  generalize hn : x.toNat = xn at *
  generalize hrr : (rotl x k).toNat = rr at *
  go_enter Tryz.func120, Tryz.ntmps120
  go_wp2
  have hw : IntKind.u64.wrap ((xn : Int) * 2 ^ k) = ((xn * 2 ^ k % 2 ^ 64 : Nat) : Int) := by
    rw [wrap_u64x, Int.natCast_emod, Int.natCast_mul, Int.natCast_pow]
    rfl
  go_ret
  refine ⟨?_, rfl⟩
  show Ending.returned (.int .u64 (bits .or .u64 (IntKind.u64.wrap ((xn : Int) * 2 ^ k)) ((xn : Int) / 2 ^ (64 - k)))) = Ending.returned (.int .u64 (rr : Int))
  rw [hw, pow_cast, HO.out]
end Go.Proofs.Sl
