/- A region that draws its order, walked once in the order of the text: each operation's result is told by a relation that a growing world keeps. Relations that a growing world keeps, for the drawn regions; rows in new blocks; what the package-level variables hold. -/
import Derived.Test.YtipedpkkabfdjaaGreatDoorFits01
import Derived.StillTail
import Derived.Test.YtipedpkkabfdjaaGreatDoorFits02
/- A region that draws its order, walked once in the order of the text: each operation's result is told by a relation that a growing world keeps. -/
namespace Go.Proofs.Sl
open Go

section
variable {P : Program} {ops : Array Oper} {md : Region.Mode}

def reachB (md : Region.Mode) (ops : Array Oper) : Nat → Nat → Nat → Bool
  | 0, _, _ => false
  | f + 1, j, k => match ops[k]? with
    | some o => o.after.any fun e => Region.binds md e && (e.on == j || reachB md ops f j e.on)
    | none => false

def dstOf (ops : Array Oper) (k : Nat) : Option Tmp := (ops[k]?).bind (·.dst)

def Closed (md : Region.Mode) (ops : Array Oper) (listed : Array Bool) : Prop :=
  ∀ j oj, ops[j]? = some oj → listed.getD j false = true → ∀ e ∈ oj.after, Region.binds md e = true → listed.getD e.on false = true

theorem reach_listed {listed : Array Bool} (hc : Closed md ops listed) : ∀ (f j k : Nat), reachB md ops f j k = true →
    (∀ o, ops[k]? = some o → ∀ e ∈ o.after, Region.binds md e = true → listed.getD e.on false = true) → listed.getD j false = true
  | 0, j, k, h, _ => by simp [reachB] at h
  | f + 1, j, k, h, hk => by
    unfold reachB at h
    split at h
    · rename_i o ho
      obtain ⟨e, he, hb⟩ := Array.any_eq_true'.1 h
      simp only [Bool.and_eq_true, Bool.or_eq_true, beq_iff_eq] at hb
      have hl := hk o ho e he hb.1
      rcases hb.2 with h1 | h1
      · rw [← h1]; exact hl
      · exact reach_listed hc f j e.on h1 fun o' ho' e' he' hb' => hc e.on o' ho' hl e' he' hb'
    · cases h

/-- What is told of an operation: it yields just c; or a value of which r holds, and goes on to hold. -/
inductive St where
  | still (needs : List Nat) (c : Value)
  | grow (needs : List Nat) (r : Value → World → Prop)

def St.rel : St → Value → World → Prop
  | .still _ c => fun v _ => v = c
  | .grow _ r => r
def St.needs : St → List Nat
  | .still n _ => n
  | .grow n _ => n

/-- An operation of the head: it writes a slot of its own, it is no select or defer. -/
def opOk (o : Oper) (nt : Nat) : Bool :=
  (match o.dst with | some d => decide (d < nt) | none => false) && (match o.op with | .select .. => false | .defer _ => false | .go _ => false | _ => true)

def headB (md : Region.Mode) (ops : Array Oper) (nt N F : Nat) (needs : List (List Nat)) : Bool :=
  decide (N ≤ ops.size) && decide (needs.length = N) &&
  (List.range N).all (fun k => match ops[k]? with
    | some o => opOk o nt && o.after.all (fun e => !Region.binds md e || decide (e.on < k)) &&
      (List.range N).all (fun j => (j == k || dstOf ops j != o.dst)) &&
      (o.looksAt ops).all (fun t => (List.range N).all fun j => dstOf ops j != some t || (decide (j < k) && reachB md ops F j k) || (decide (k < j) && reachB md ops F k j) || j == k) &&
      (needs.getD k []).all (fun j => decide (j < k) && reachB md ops F j k)
    | none => false)

def tailB (md : Region.Mode) (ops : Array Oper) (N : Nat) : Bool :=
  (decide (N = ops.size) || (Region.sinkB md ops N && Region.chainB md ops N)) && Region.seqB md ops (ops.size - N) N ((Array.range ops.size).map fun i => decide (i < N))

/-- The frame in which the operations of p have been carried out. -/
def actP (ops : Array Oper) (p : Nat → Bool) (vals : Nat → Value) (a0 : Act) : Nat → Act
  | 0 => a0
  | k + 1 => if p k then (actP ops p vals a0 k).put (dstOf ops k) (vals k) else actP ops p vals a0 k

theorem put_size (a : Act) (d : Option Tmp) (v : Value) : (a.put d v).tmps.size = a.tmps.size := by cases d <;> simp [Act.put]
theorem put_defers (a : Act) (d : Option Tmp) (v : Value) : (a.put d v).defers = a.defers := by cases d <;> rfl
theorem put_at (a : Act) (t : Tmp) (v : Value) (h : t < a.tmps.size) : (a.put (some t) v).tmps.getD t undef = v := by simp [Act.put, h]
theorem put_ne (a : Act) (d : Option Tmp) (t : Tmp) (v : Value) (h : d ≠ some t) : (a.put d v).tmps.getD t undef = a.tmps.getD t undef := by
  cases d with
  | none => rfl
  | some e =>
    have : e ≠ t := fun he => h (by rw [he])
    simp [Act.put, Array.getElem?_setIfInBounds_ne this]

variable {p : Nat → Bool} {vals : Nat → Value} {a0 : Act}

theorem actP_size : ∀ k, (actP ops p vals a0 k).tmps.size = a0.tmps.size
  | 0 => rfl
  | k + 1 => by
    unfold actP
    split
    · rw [put_size, actP_size k]
    · exact actP_size k
theorem actP_defers : ∀ k, (actP ops p vals a0 k).defers = a0.defers
  | 0 => rfl
  | k + 1 => by
    unfold actP
    split
    · rw [put_defers, actP_defers k]
    · exact actP_defers k

theorem actP_out (t : Tmp) : ∀ k, (∀ j, j < k → p j = true → dstOf ops j ≠ some t) → (actP ops p vals a0 k).tmps.getD t undef = a0.tmps.getD t undef
  | 0, _ => rfl
  | k + 1, h => by
    unfold actP
    split
    · rename_i hp
      rw [put_ne _ _ _ _ (h k (by omega) hp)]
      exact actP_out t k fun j hj => h j (by omega)
    · exact actP_out t k fun j hj => h j (by omega)

theorem actP_in (N : Nat) (hd : ∀ i j, i < N → j < N → i ≠ j → ∀ t, dstOf ops i = some t → dstOf ops j ≠ some t) (t : Tmp) (ht : t < a0.tmps.size) (j : Nat) (hj : dstOf ops j = some t) (hp : p j = true) :
    ∀ k, k ≤ N → j < k → (actP ops p vals a0 k).tmps.getD t undef = vals j
  | 0, _, h => by omega
  | k + 1, hk, h => by
    unfold actP
    by_cases e : j = k
    · subst e
      rw [if_pos hp, hj, put_at _ _ _ (by rw [actP_size]; exact ht)]
    · have ih := actP_in N hd t ht j hj hp k (by omega) (by omega)
      split
      · rw [put_ne _ _ _ _ (hd j k (by omega) (by omega) e t hj)]
        exact ih
      · exact ih

theorem act_ext {a b : Act} (hd : a.defers = b.defers) (hs : a.tmps.size = b.tmps.size) (h : ∀ t, t < a.tmps.size → a.tmps.getD t undef = b.tmps.getD t undef) : a = b := by
  obtain ⟨at_, ad⟩ := a
  obtain ⟨bt, bd⟩ := b
  dsimp only at hd hs h
  subst hd
  congr 1
  apply Array.ext hs
  intro i h1 h2
  have := h i h1
  simpa [h1, h2] using this

/-- One more operation carried out. -/
theorem actP_set (N : Nat) (hd : ∀ i j, i < N → j < N → i ≠ j → ∀ t, dstOf ops i = some t → dstOf ops j ≠ some t) (k : Nat) (hk : k < N) (hp : p k = false) (v : Value) :
    (actP ops p vals a0 N).put (dstOf ops k) v = actP ops (fun j => p j || j == k) (fun j => if j = k then v else vals j) a0 N := by
  refine act_ext (by rw [put_defers, actP_defers, actP_defers]) (by rw [put_size, actP_size, actP_size]) fun t ht => ?_
  rw [put_size, actP_size] at ht
  by_cases hk' : dstOf ops k = some t
  · rw [hk', put_at _ _ _ (by rw [actP_size]; exact ht), actP_in N hd t ht k hk' (by simp) N (Nat.le_refl _) hk]
    simp
  · rw [put_ne _ _ _ _ hk']
    by_cases hx : ∃ j, j < N ∧ p j = true ∧ dstOf ops j = some t
    · obtain ⟨j, h1, h2, h3⟩ := hx
      have hjk : j ≠ k := fun e => hk' (by rw [← e]; exact h3)
      rw [actP_in N hd t ht j h3 h2 N (Nat.le_refl _) h1, actP_in N hd t ht j h3 (by simp [h2]) N (Nat.le_refl _) h1]
      simp [hjk]
    · rw [actP_out t N fun j h1 h2 h3 => hx ⟨j, h1, h2, h3⟩, actP_out t N fun j h1 h2 h3 => ?_]
      simp only [Bool.or_eq_true, beq_iff_eq] at h2
      rcases h2 with h2 | h2
      · exact hx ⟨j, h1, h2, h3⟩
      · subst h2; exact hk' h3

theorem looks_same {a b : Act} (o : Oper) (hs : a.tmps.size = b.tmps.size) (hsel : ∀ cs b, o.op ≠ .select cs b) (h : ∀ t ∈ o.looksAt ops, a.tmps.getD t undef = b.tmps.getD t undef) :
    execOp a.eval o = execOp b.eval o ∧ Region.wanted o (yielded ops a.tmps) = Region.wanted o (yielded ops b.tmps) := by
  refine ⟨execOp_congr o hsel fun x hx => ?_, ?_⟩
  · cases x with
    | tmp t => exact h t (List.mem_append_left _ (List.mem_filterMap.2 ⟨.tmp t, by simpa using hx, rfl⟩))
    | _ => rfl
  · unfold Region.wanted
    cases hg : o.guard with
    | none => rfl
    | some gw =>
      obtain ⟨g, want⟩ := gw
      dsimp only
      have : yielded ops a.tmps g = yielded ops b.tmps g := by
        unfold yielded
        cases ht : (ops[g]?).bind (·.dst) with
        | none => rfl
        | some t =>
          have h1 := h t (List.mem_append_right _ (by rw [hg]; simp [ht]))
          have h2 : a.tmps[t]? = b.tmps[t]? := by
            by_cases hl : t < a.tmps.size
            · have hl' : t < b.tmps.size := hs ▸ hl
              simp [hl, hl'] at h1 ⊢
              exact h1
            · rw [Array.getElem?_eq_none (Nat.le_of_not_lt hl), Array.getElem?_eq_none (hs ▸ Nat.le_of_not_lt hl)]
          simp [h2]
      rw [this]

/-- What is asked behind one operation of the head. -/
def postG (G : World → World → Prop) (ds : List Deferred) (dst : Option Tmp) (r : Value → World → Prop) (w : World) : Exit → Act → World → Prop :=
  fun e a' w' => e = .normal ∧ a'.defers = ds ∧ r (a'.tmps.getD (dst.getD 0) undef) w' ∧ G w w'

theorem step_conv {G : World → World → Prop} {Q : Exit → Act → World → Prop} {o : Oper} {r : Value → World → Prop} {k : Nat} {a b : Act} {w : World} {K : Act → World → Prop} (ho : ops[k]? = some o) (d : Nat) (hd : o.dst = some d) (hda : d < a.tmps.size)
    (hx : execOp a.eval o = execOp b.eval o) (hw : Region.wanted o (yielded ops a.tmps) = Region.wanted o (yielded ops b.tmps))
    (h : wpList P ops (postG G a.defers o.dst r w) [o] a w) (hK : ∀ v w', r v w' → G w w' → K (b.put o.dst v) w') : wpOp P ops Q k K b w := by
  have slot : ∀ v, (a.put o.dst v).tmps.getD (o.dst.getD 0) undef = v := fun v => by rw [hd]; exact put_at a d v hda
  unfold wpOp
  simp only [ho]
  unfold wpList at h
  rw [hw] at h
  split
  · rename_i hwt
    rw [if_pos hwt] at h
    left
    rcases h with h | ⟨_, a1, w1, h1, _⟩
    · unfold Oper.wp at *
      rw [← hx]
      generalize hr : (execOp a.eval o).run P w = res at *
      cases res with
      | ok n w' =>
        cases n with
        | value v =>
          simp only [Oper.upon, wpList, postG, slot] at h ⊢
          exact hK _ _ h.2.2.1 h.2.2.2
        | skip =>
          simp only [Oper.upon, wpList, postG, slot] at h ⊢
          exact hK _ _ h.2.2.1 h.2.2.2
        | enter f args =>
          simp only [Oper.upon] at h ⊢
          refine Calls.mono h fun e w'' he => ?_
          cases e with
          | returned v =>
            simp only [wpList, postG, slot] at he ⊢
            exact hK _ _ he.2.2.1 he.2.2.2
          | panicked c => simp only [postG] at he; cases he.1
          | outgrown =>
            obtain ⟨a2, w2, h2, _⟩ := he
            cases h2
        | row row args =>
          simp only [Oper.upon] at h ⊢
          refine Rows.mono h fun v w'' he => ?_
          simp only [wpList, postG, slot] at he ⊢
          exact hK _ _ he.2.2.1 he.2.2.2
        | defer d' =>
          exfalso
          simp only [Oper.upon, wpList, postG, put_defers] at h
          have h2 := congrArg List.length h.2.1
          simp at h2
        | _ => simp only [Oper.upon] at h
      | halt x w' =>
        cases x <;> simp only [Oper.upon] at h
        all_goals first | exact h.elim | (simp only [postG] at h; cases h.1)
    · cases h1
  · rename_i hwt
    rw [if_neg (by simpa using hwt)] at h
    simp only [wpList, postG, slot] at h
    exact hK _ _ h.2.2.1 h.2.2.2

def lookF : List (Nat × (World → Prop)) → Nat → World → Prop
  | [], _ => fun _ => True
  | (i, q) :: r, j => bif i == j then q else lookF r j
def needsP (fs : List (Nat × (World → Prop))) : List Nat → World → Prop
  | [], _ => True
  | j :: r, w => lookF fs j w ∧ needsP fs r w
def allP : List (Nat × (World → Prop)) → World → Prop
  | [], _ => True
  | (_, q) :: r, w => q w ∧ allP r w

/-- What is owed: each operation of the head once, in the order of the text, in any world that has grown; then the tail. -/
def Obl (P : Program) (ops : Array Oper) (G : World → World → Prop) (T : List Oper → Act → World → Prop) (w0 : World) : List St → Nat → List (Nat × (World → Prop)) → List Oper → Act → Prop
  | [], _, fs, os, a => ∀ w, G w0 w → allP fs w → T os a w
  | _ :: _, _, _, [], _ => False
  | .still needs c :: ss, k, fs, o :: os, a =>
    (∀ w, G w0 w → needsP fs needs w → wpList P ops (postG G a.defers o.dst (fun v _ => v = c) w) [o] a w) ∧ Obl P ops G T w0 ss (k + 1) fs os (a.put o.dst c)
  | .grow needs r :: ss, k, fs, o :: os, a =>
    (∀ v w w', r v w → G w w' → r v w') ∧ (∀ w, G w0 w → needsP fs needs w → wpList P ops (postG G a.defers o.dst r w) [o] a w) ∧ ∀ v, Obl P ops G T w0 ss (k + 1) ((k, r v) :: fs) os (a.put o.dst v)

section
variable {G : World → World → Prop} {T : List Oper → Act → World → Prop} {w0 : World}
theorem Obl.still {needs : List Nat} {c : Value} {ss : List St} {k : Nat} {fs : List (Nat × (World → Prop))} {o : Oper} {os : List Oper} {a : Act}
    (h1 : ∀ w, G w0 w → needsP fs needs w → wpList P ops (postG G a.defers o.dst (fun v _ => v = c) w) [o] a w) (h2 : Obl P ops G T w0 ss (k + 1) fs os (a.put o.dst c)) : Obl P ops G T w0 (.still needs c :: ss) k fs (o :: os) a := ⟨h1, h2⟩
theorem Obl.grow {needs : List Nat} {r : Value → World → Prop} {ss : List St} {k : Nat} {fs : List (Nat × (World → Prop))} {o : Oper} {os : List Oper} {a : Act}
    (h0 : ∀ v w w', r v w → G w w' → r v w') (h1 : ∀ w, G w0 w → needsP fs needs w → wpList P ops (postG G a.defers o.dst r w) [o] a w) (h2 : ∀ v, Obl P ops G T w0 ss (k + 1) ((k, r v) :: fs) os (a.put o.dst v)) : Obl P ops G T w0 (.grow needs r :: ss) k fs (o :: os) a := ⟨h0, h1, h2⟩
/-- The slot's value as it stands. -/
theorem postG_here {G : World → World → Prop} {ds : List Deferred} {d : Tmp} {r : Value → World → Prop} {w : World} {xs : Array Value} {w' : World} {v : Value} (hv : xs.getD d undef = v) (h : r v w') (hg : G w w') : postG G ds (some d) r w .normal { tmps := xs, defers := ds } w' :=
  ⟨rfl, rfl, by simpa [hv] using h, hg⟩
theorem Obl.done {k : Nat} {fs : List (Nat × (World → Prop))} {os : List Oper} {a : Act}
    (h : ∀ w, G w0 w → allP fs w → T os a w) : Obl P ops G T w0 [] k fs os a := h

/-- The values of a run, as the still ones say. -/
def stVal (ss : List St) (vals : Nat → Value) (k : Nat) : Value :=
  match ss[k]? with
  | some (.still _ c) => c
  | _ => vals k

/-- The facts of the first k operations. -/
def fsAt (ss : List St) (vals : Nat → Value) : Nat → List (Nat × (World → Prop))
  | 0 => []
  | k + 1 => match ss[k]? with
    | some (.grow _ r) => (k, r (vals k)) :: fsAt ss vals k
    | _ => fsAt ss vals k

theorem lookF_fsAt (ss : List St) (vals : Nat → Value) (w : World) : ∀ (k j : Nat), (∀ i s, i < k → ss[i]? = some s → i = j → s.rel (stVal ss vals i) w) → lookF (fsAt ss vals k) j w
  | 0, j, _ => trivial
  | k + 1, j, h => by
    have ih := lookF_fsAt ss vals w k j fun i s hi => h i s (by omega)
    unfold fsAt
    split
    · rename_i n r hs
      unfold lookF
      by_cases e : k = j
      · subst e
        have := h k _ (by omega) hs rfl
        simp only [St.rel, stVal, hs] at this
        simpa using this
      · have : (k == j) = false := by simpa using e
        simp only [this, cond_false]
        exact ih
    · exact ih

theorem needsP_of {fs : List (Nat × (World → Prop))} {w : World} : ∀ (l : List Nat), (∀ j ∈ l, lookF fs j w) → needsP fs l w
  | [], _ => trivial
  | j :: r, h => ⟨h j (by simp), needsP_of r fun i hi => h i (by simp [hi])⟩

theorem allP_fsAt (ss : List St) (vals : Nat → Value) (w : World) : ∀ (k : Nat), (∀ i s, i < k → ss[i]? = some s → s.rel (stVal ss vals i) w) → allP (fsAt ss vals k) w
  | 0, _ => trivial
  | k + 1, h => by
    have ih := allP_fsAt ss vals w k fun i s hi => h i s (by omega)
    unfold fsAt
    split
    · rename_i n r hs
      have := h k _ (by omega) hs
      simp only [St.rel, stVal, hs] at this
      exact ⟨this, ih⟩
    · exact ih

theorem obl_at (ss : List St) (a0 : Act) (vals : Nat → Value) (h : Obl P ops G T w0 ss 0 [] ops.toList a0) :
    ∀ k, k ≤ ss.length → Obl P ops G T w0 (ss.drop k) k (fsAt ss vals k) (ops.toList.drop k) (actP ops (fun _ => true) (stVal ss vals) a0 k)
  | 0, _ => by simpa [fsAt, actP] using h
  | k + 1, hk => by
    have ih := obl_at ss a0 vals h k (by omega)
    have hs : ss[k]? = some ss[k] := List.getElem?_eq_getElem (by omega)
    rw [List.drop_eq_getElem_cons (by omega)] at ih
    cases ho : ops.toList.drop k with
    | nil =>
      rw [ho] at ih
      cases he : ss[k] <;> (rw [he] at ih; exact ih.elim)
    | cons o os =>
      rw [ho] at ih
      have hok : ops[k]? = some o := by
        have : (ops.toList.drop k)[0]? = some o := by rw [ho]; rfl
        simpa using this
      have hos : ops.toList.drop (k + 1) = os := by
        rw [← List.tail_drop, ho]; rfl
      have hdst : dstOf ops k = o.dst := by simp [dstOf, hok]
      rw [hos]
      cases he : ss[k] with
      | still needs c =>
        rw [he] at ih hs
        have hv : stVal ss vals k = c := by simp [stVal, hs]
        have hf : fsAt ss vals (k + 1) = fsAt ss vals k := by simp [fsAt, hs]
        rw [hf]
        have := ih.2
        simp only [actP, if_true, hdst, hv]
        exact this
      | grow needs r =>
        rw [he] at ih hs
        have hv : stVal ss vals k = vals k := by simp [stVal, hs]
        have hf : fsAt ss vals (k + 1) = (k, r (vals k)) :: fsAt ss vals k := by simp [fsAt, hs]
        rw [hf]
        have := ih.2.2 (vals k)
        simp only [actP, if_true, hdst, hv]
        exact this

theorem actP_congr {p p' : Nat → Bool} {vals vals' : Nat → Value} {a0 : Act} : ∀ k, (∀ j, j < k → p j = p' j) → (∀ j, j < k → p j = true → vals j = vals' j) → actP ops p vals a0 k = actP ops p' vals' a0 k
  | 0, _, _ => rfl
  | k + 1, h1, h2 => by
    unfold actP
    rw [actP_congr k (fun j hj => h1 j (by omega)) (fun j hj => h2 j (by omega)), ← h1 k (by omega)]
    split
    · rename_i hp
      rw [h2 k (by omega) hp]
    · rfl

def cnt : Nat → Array Bool → Nat
  | 0, _ => 0
  | n + 1, listed => cnt n listed + (if listed.getD n true = false then 1 else 0)

theorem cnt_same (i : Nat) (listed : Array Bool) : ∀ n, n ≤ i → cnt n (listed.setIfInBounds i true) = cnt n listed
  | 0, _ => rfl
  | n + 1, h => by
    have h1 : (listed.setIfInBounds i true).getD n true = listed.getD n true := getD_set_ne true (by omega)
    simp only [cnt, h1, cnt_same i listed n (by omega)]

theorem cnt_set {i : Nat} {listed : Array Bool} (hs : i < listed.size) (hl : listed.getD i true = false) : ∀ {N : Nat}, i < N → cnt N (listed.setIfInBounds i true) + 1 = cnt N listed
  | 0, h => by omega
  | n + 1, h => by
    by_cases e : i = n
    · subst e
      have h1 : (listed.setIfInBounds i true).getD i true = true := by simp [hs]
      simp only [cnt, h1, hl, cnt_same i listed i (Nat.le_refl _)]
      simp
    · have h1 : (listed.setIfInBounds i true).getD n true = listed.getD n true := getD_set_ne true e
      have ih := cnt_set hs hl (N := n) (by omega)
      simp only [cnt, h1]
      omega

theorem cnt_zero {listed : Array Bool} : ∀ {N : Nat}, cnt N listed = 0 → ∀ j, j < N → listed.getD j true = true
  | 0, _, j, hj => by omega
  | n + 1, h, j, hj => by
    simp only [cnt] at h
    by_cases e : j = n
    · subst e
      cases hl : listed.getD j true
      · rw [hl] at h; simp at h
      · rfl
    · exact cnt_zero (N := n) (by omega) j (by omega)

theorem cnt_pos {listed : Array Bool} : ∀ {N : Nat}, cnt N listed ≠ 0 → ∃ k, k < N ∧ listed.getD k true = false
  | 0, h => absurd rfl h
  | n + 1, h => by
    cases hl : listed.getD n true
    · exact ⟨n, by omega, hl⟩
    · simp only [cnt, hl] at h
      obtain ⟨k, h1, h2⟩ := cnt_pos (N := n) (by simpa using h)
      exact ⟨k, by omega, h2⟩

/-- The first that is not listed. -/
theorem least_unlisted {N : Nat} {listed : Array Bool} (h : cnt N listed ≠ 0) : ∃ k, k < N ∧ listed.getD k true = false ∧ ∀ j, j < k → listed.getD j true = true := by
  obtain ⟨k, hk⟩ := cnt_pos h
  have : ∀ n, listed.getD n true = false → ∃ k, k ≤ n ∧ listed.getD k true = false ∧ ∀ j, j < k → listed.getD j true = true := by
    intro n
    induction n using Nat.strongRecOn with
    | _ n ih =>
      intro hn
      by_cases hx : ∃ j, j < n ∧ listed.getD j true = false
      · obtain ⟨j, h1, h2⟩ := hx
        obtain ⟨k, h3, h4⟩ := ih j h1 h2
        exact ⟨k, by omega, h4⟩
      · refine ⟨n, Nat.le_refl _, hn, fun j hj => ?_⟩
        cases hl : listed.getD j true
        · exact absurd ⟨j, hj, hl⟩ hx
        · rfl
  obtain ⟨k', h1, h2, h3⟩ := this k hk.2
  exact ⟨k', by omega, h2, h3⟩

structure HeadOk (md : Region.Mode) (ops : Array Oper) (nt N F : Nat) (needs : List (List Nat)) : Prop where
  le : N ≤ ops.size
  op : ∀ k, k < N → ∃ o d, ops[k]? = some o ∧ o.dst = some d ∧ d < nt ∧ (∀ cs b, o.op ≠ .select cs b) ∧ (∀ e ∈ o.after, Region.binds md e = true → e.on < k) ∧
    (∀ j, j < N → j ≠ k → dstOf ops j ≠ some d) ∧
    (∀ t ∈ o.looksAt ops, ∀ j, j < N → dstOf ops j = some t → (j < k ∧ reachB md ops F j k = true) ∨ (k < j ∧ reachB md ops F k j = true) ∨ j = k) ∧
    (∀ j ∈ needs.getD k [], j < k ∧ reachB md ops F j k = true)

theorem headB_spec {nt N F : Nat} {needs : List (List Nat)} (h : headB md ops nt N F needs = true) : HeadOk md ops nt N F needs := by
  simp only [headB, Bool.and_eq_true, decide_eq_true_eq] at h
  obtain ⟨⟨h1, _⟩, h3⟩ := h
  refine ⟨h1, fun k hk => ?_⟩
  have h4 := List.all_eq_true.1 h3 k (List.mem_range.2 hk)
  cases ho : ops[k]? with
  | none => simp [ho] at h4
  | some o =>
    simp only [ho, Bool.and_eq_true, opOk] at h4
    obtain ⟨⟨⟨⟨⟨h5, h6⟩, h7⟩, h8⟩, h9⟩, h10⟩ := h4
    cases hd : o.dst with
    | none => simp [hd] at h5
    | some d =>
      simp only [hd, decide_eq_true_eq] at h5
      refine ⟨o, d, rfl, hd, h5, fun cs b e => by simp [e] at h6, fun e he hb => ?_, fun j hj hne hdj => ?_, fun t ht j hj hdj => ?_, fun j hj => ?_⟩
      · have := Array.all_eq_true_iff_forall_mem.1 h7 e he
        simpa [hb] using this
      · have := List.all_eq_true.1 h8 j (List.mem_range.2 hj)
        simp [hne, hdj, hd] at this
      · have := List.all_eq_true.1 (List.all_eq_true.1 h9 t ht) j (List.mem_range.2 hj)
        simp only [hdj, bne_self_eq_false, Bool.false_or, Bool.or_eq_true, Bool.and_eq_true, decide_eq_true_eq, beq_iff_eq] at this
        rcases this with (h | h) | h
        · exact .inl h
        · exact .inr (.inl h)
        · exact .inr (.inr h)
      · have := List.all_eq_true.1 h10 j hj
        simpa using this

section
variable {P : Program} {ops : Array Oper} {md : Region.Mode} {G : World → World → Prop} {T : List Oper → Act → World → Prop} {w0 : World}

theorem obl_stable (ss : List St) (a0 : Act) (h : Obl P ops G T w0 ss 0 [] ops.toList a0) (k : Nat) (s : St) (hs : ss[k]? = some s) : ∀ v w w', s.rel v w → G w w' → s.rel v w' := by
  have hk : k < ss.length := (List.getElem?_eq_some_iff.1 hs).1
  have := obl_at ss a0 (fun _ => undef) h k (by omega)
  rw [List.drop_eq_getElem_cons hk] at this
  have e : ss[k] = s := by rw [List.getElem?_eq_getElem hk] at hs; exact Option.some.inj hs
  rw [e] at this
  cases ho : ops.toList.drop k with
  | nil =>
    rw [ho] at this
    cases s <;> exact this.elim
  | cons o os =>
    rw [ho] at this
    cases s with
    | still needs c => exact fun v w w' h _ => h
    | grow needs r => exact this.1

theorem obl_op (ss : List St) (a0 : Act) (vals : Nat → Value) (h : Obl P ops G T w0 ss 0 [] ops.toList a0) (k : Nat) (s : St) (hs : ss[k]? = some s) (o : Oper) (ho : ops[k]? = some o) (w : World) (hg : G w0 w)
    (hn : needsP (fsAt ss vals k) s.needs w) : wpList P ops (postG G (actP ops (fun _ => true) (stVal ss vals) a0 k).defers o.dst s.rel w) [o] (actP ops (fun _ => true) (stVal ss vals) a0 k) w := by
  have hk : k < ss.length := (List.getElem?_eq_some_iff.1 hs).1
  have := obl_at ss a0 vals h k (by omega)
  rw [List.drop_eq_getElem_cons hk] at this
  have e : ss[k] = s := by rw [List.getElem?_eq_getElem hk] at hs; exact Option.some.inj hs
  rw [e] at this
  have hlt : k < ops.toList.length := by have := (Array.getElem?_eq_some_iff.1 ho).1; simpa using this
  have hdrop : ops.toList.drop k = o :: ops.toList.drop (k + 1) := by
    rw [List.drop_eq_getElem_cons hlt]
    congr 1
    have : ops.toList[k]? = some o := by simpa using ho
    rw [List.getElem?_eq_getElem hlt] at this
    exact Option.some.inj this
  rw [hdrop] at this
  cases s with
  | still needs c => exact this.1 w hg hn
  | grow needs r => exact this.2.1 w hg hn

theorem rg_main {nt N F : Nat} {needs : List (List Nat)} (ss : List St) (a0 : Act) (hN : ss.length = N) (hneeds : ss.map St.needs = needs) (hH : HeadOk md ops nt N F needs) (hT : tailB md ops N = true)
    (hnt : a0.tmps.size = nt) (hrefl : ∀ x y z, G x y → G y z → G x z) (hO : Obl P ops G T w0 ss 0 [] ops.toList a0)
    {Any : Nat → Array Bool → Act → World → Prop} (hAny : ∀ fuel listed a w, Region.ready md ops listed ≠ [] → (∀ i ∈ Region.ready md ops listed, wpOp P ops (fun _ _ _ => False) i (Any fuel (listed.setIfInBounds i true)) a w) → Any (fuel + 1) listed a w)
    (hTl : ∀ listed a w, Region.seqB md ops (ops.size - N) N listed = true → T (ops.toList.drop N) a w → Any (ops.size - N) listed a w) :
    ∀ (f : Nat) (listed : Array Bool) (vals : Nat → Value) (w : World), HeadInv md ops N listed → cnt N listed = f → G w0 w →
      (∀ i s, ss[i]? = some s → listed.getD i false = true → s.rel (stVal ss vals i) w) →
      Any (f + (ops.size - N)) listed (actP ops (fun j => listed.getD j false) (stVal ss vals) a0 N) w := by
  have hdist : ∀ i j, i < N → j < N → i ≠ j → ∀ t, dstOf ops i = some t → dstOf ops j ≠ some t := fun i j hi hj hne t ht => by
    obtain ⟨o, d, ho, hd, _, _, _, h7, _⟩ := hH.op i hi
    have : dstOf ops i = some d := by simp [dstOf, ho, hd]
    rw [this] at ht
    cases ht
    exact h7 j hj (Ne.symm hne)
  intro f
  induction f with
  | zero =>
    intro listed vals w inv hcnt hg hrel
    have hall : ∀ j, j < N → listed.getD j true = true := cnt_zero hcnt
    have hall' : ∀ j, j < N → listed.getD j false = true := fun j hj => by
      have h1 := hall j hj
      have hjs : j < listed.size := by rw [inv.size]; exact Nat.lt_of_lt_of_le hj hH.le
      simp [hjs] at h1 ⊢
      exact h1
    have hlisted : listed = (Array.range ops.size).map fun i => decide (i < N) := by
      apply Array.ext (by simp [inv.size])
      intro i h1 h2
      simp only [Array.getElem_map, Array.getElem_range]
      by_cases hi : i < N
      · have := hall i hi
        simp [h1] at this
        simp [this, hi]
      · have := inv.tail i (by omega) (by rw [← inv.size]; exact h1)
        simp [h1] at this
        simp [this, hi]
    rw [Nat.zero_add]
    simp only [tailB, Bool.and_eq_true] at hT
    have hfin := obl_at ss a0 vals hO N (by omega)
    rw [← hN, List.drop_length, hN] at hfin
    have hw := hfin w hg (allP_fsAt ss vals w N fun i s hi hs => hrel i s hs (hall' i hi))
    have heq : actP ops (fun j => listed.getD j false) (stVal ss vals) a0 N = actP ops (fun _ => true) (stVal ss vals) a0 N :=
      actP_congr N (fun j hj => hall' j hj) fun _ _ _ => rfl
    rw [heq]
    exact hTl _ _ _ (by rw [hlisted]; exact hT.2) hw
  | succ f ih =>
    intro listed vals w inv hcnt hg hrel
    rw [show f + 1 + (ops.size - N) = (f + (ops.size - N)) + 1 by omega]
    obtain ⟨k0, hk0, hu0, hl0⟩ := least_unlisted (N := N) (listed := listed) (by omega)
    have hdown : ∀ j, j < ops.size → listed.getD j true = true → listed.getD j false = true := fun j hj h1 => by
      have hjs : j < listed.size := by rw [inv.size]; exact hj
      simp [hjs] at h1 ⊢
      exact h1
    have hready0 : k0 ∈ Region.ready md ops listed := by
      obtain ⟨o, d, ho, _, _, _, h6, _⟩ := hH.op k0 hk0
      refine mem_ready.2 ⟨hu0, o, ho, fun e he hb => ?_⟩
      have := h6 e he hb
      exact hdown _ (by have := hH.le; omega) (hl0 _ this)
    refine hAny _ _ _ _ (fun h => (by rw [h] at hready0; cases hready0)) fun i hi => ?_
    obtain ⟨hiu, oi, hoi, hiall⟩ := mem_ready.1 hi
    have hisz : i < ops.size := (Array.getElem?_eq_some_iff.1 hoi).1
    have hiN : i < N := by
      rcases Nat.lt_or_ge i N with h | h
      · exact h
      · exfalso
        simp only [tailB, Bool.and_eq_true, Bool.or_eq_true, decide_eq_true_eq] at hT
        rcases hT.1 with h1 | h1
        · omega
        · exact tail_waits h1.1 h1.2 (by omega) inv _ k0 rfl hk0 hu0 i h hi
    obtain ⟨o', d, ho', hd, hdnt, hsel, h6, h7, h8, h9⟩ := hH.op i hiN
    have hoo : o' = oi := Option.some.inj (ho'.symm.trans hoi)
    subst hoo
    have hdst : dstOf ops i = o'.dst := by simp [dstOf, hoi]
    have hsi : ss[i]? = some (ss[i]'(by omega)) := List.getElem?_eq_getElem (by omega)
    obtain ⟨s, hs⟩ : ∃ s, ss[i]? = some s := ⟨_, hsi⟩
    have hcl : Closed md ops listed := inv.closed
    have hreach : ∀ j, reachB md ops F j i = true → listed.getD j false = true := fun j hj => reach_listed hcl F j i hj fun o ho e he hb => by
      have : o = o' := Option.some.inj (ho.symm.trans hoi)
      subst this
      exact hiall e he hb
    have hnot : ∀ j, reachB md ops F i j = true → listed.getD j false = true → False := fun j hj hl => by
      have := reach_listed hcl F i j hj fun o ho e he hb => inv.closed j o ho hl e he hb
      rw [getD_both hiu] at this
      cases this
    -- the needs
    have hneed : needsP (fsAt ss vals i) s.needs w := needsP_of _ fun j hj => by
      have hsn : needs.getD i [] = s.needs := by
        rw [← hneeds]
        simp [List.getD_eq_getElem?_getD, hs]
      have := h9 j (by rw [hsn]; exact hj)
      refine lookF_fsAt ss vals w i j fun i' s' hi' hs' e => ?_
      subst e
      exact hrel i' s' hs' (hreach i' this.2)
    have hop := obl_op ss a0 vals hO i s hs o' hoi w hg hneed
    -- the slots that it looks at are the same
    have hsame : ∀ t ∈ o'.looksAt ops, (actP ops (fun _ => true) (stVal ss vals) a0 i).tmps.getD t undef = (actP ops (fun j => listed.getD j false) (stVal ss vals) a0 N).tmps.getD t undef := fun t ht => by
      by_cases hx : ∃ j, j < N ∧ dstOf ops j = some t
      · obtain ⟨j, hj, hjt⟩ := hx
        have htnt : t < a0.tmps.size := by
          obtain ⟨oj, dj, hoj, hdj, hlt, _⟩ := hH.op j hj
          have : dstOf ops j = some dj := by simp [dstOf, hoj, hdj]
          rw [this] at hjt
          cases hjt
          rw [hnt]
          exact hlt
        have honly : ∀ j', j' < N → j' ≠ j → dstOf ops j' ≠ some t := fun j' hj' hne => hdist j j' hj hj' (Ne.symm hne) t hjt
        rcases h8 t ht j hj hjt with ⟨h1, h2⟩ | ⟨h1, h2⟩ | h1
        · rw [actP_in N hdist t htnt j hjt rfl i (by omega) h1, actP_in (p := fun j => listed.getD j false) N hdist t htnt j hjt (hreach j h2) N (Nat.le_refl _) hj]
        · rw [actP_out t i fun j' hj' _ => honly j' (by omega) (by omega), actP_out (p := fun j => listed.getD j false) t N fun j' hj' hp => ?_]
          by_cases e : j' = j
          · subst e; exact absurd hp (fun hp => hnot j' h2 hp)
          · exact honly j' hj' e
        · subst h1
          rw [actP_out t j fun j' hj' _ => honly j' (by omega) (by omega), actP_out (p := fun j => listed.getD j false) t N fun j' hj' hp => ?_]
          by_cases e : j' = j
          · subst e
            rw [getD_both hiu] at hp
            cases hp
          · exact honly j' hj' e
      · rw [actP_out t i fun j' hj' _ hd' => hx ⟨j', by omega, hd'⟩, actP_out t N fun j' hj' _ hd' => hx ⟨j', hj', hd'⟩]
    have hlook := looks_same (ops := ops) o' (by rw [actP_size, actP_size]) hsel hsame
    refine step_conv hoi d hd (by rw [actP_size, hnt]; exact hdnt) hlook.1 hlook.2 hop fun v w' hv hgw => ?_
    -- the next state
    have hset := actP_set (p := fun j => listed.getD j false) (vals := stVal ss vals) (a0 := a0) N hdist i hiN (getD_both hiu) v
    rw [hdst] at hset
    rw [hset]
    have hstv : ∀ j, j < N → (fun j => if j = i then v else stVal ss vals j) j = stVal ss (fun j => if j = i then v else vals j) j := fun j hj => by
      dsimp only
      by_cases e : j = i
      · subst e
        rw [if_pos rfl]
        cases s with
        | still n c =>
          have : v = c := hv
          simp [stVal, hs, this]
        | grow n r => simp [stVal, hs]
      · rw [if_neg e]
        simp only [stVal]
        split <;> simp [e]
    have heq : actP ops (fun j => (fun j => listed.getD j false) j || j == i) (fun j => if j = i then v else stVal ss vals j) a0 N =
        actP ops (fun j => (listed.setIfInBounds i true).getD j false) (stVal ss (fun j => if j = i then v else vals j)) a0 N := by
      refine actP_congr N (fun j hj => ?_) fun j hj _ => hstv j hj
      by_cases e : j = i
      · subst e
        have hjs : j < listed.size := by rw [inv.size]; exact hisz
        simp [hjs]
      · have : (listed.setIfInBounds i true).getD j false = listed.getD j false := getD_set_ne false (Ne.symm e)
        simp [this, e]
    rw [heq]
    have hcs := cnt_set (listed := listed) (i := i) (by rw [inv.size]; exact hisz) hiu hiN
    refine ih (listed.setIfInBounds i true) (fun j => if j = i then v else vals j) w' (inv.set hi hiN) (by omega) (hrefl _ _ _ hg hgw) fun j sj hsj hl => ?_
    have hjN : j < N := by have := (List.getElem?_eq_some_iff.1 hsj).1; omega
    rw [← hstv j hjN]
    dsimp only
    by_cases e : j = i
    · subst e
      rw [if_pos rfl]
      have : sj = s := Option.some.inj (hsj.symm.trans hs)
      subst this
      exact hv
    · rw [if_neg e]
      rw [getD_set_ne false (Ne.symm e)] at hl
      exact obl_stable ss a0 hO j sj hsj _ _ _ (hrel j sj hsj hl) hgw

theorem wp_exit_any {o : Oper} {a : Act} {w : World} {K : Act → World → Prop} {Q : Exit → Act → World → Prop} (h : o.wp P a w K (fun _ _ _ => False)) : o.wp P a w K Q := by
  unfold Oper.wp at *
  generalize (execOp a.eval o).run P w = r at *
  cases r with
  | ok n w' =>
    cases n <;> simp only [Oper.upon] at h ⊢
    all_goals first
      | exact h
      | exact Calls.mono h (fun e w'' he => by
          cases e with
          | returned v => exact he
          | panicked c => exact he.elim
          | outgrown => obtain ⟨_, _, h'⟩ := he; exact h'.elim)
  | halt x w' => cases x <;> simp only [Oper.upon] at h ⊢ <;> first | exact h | exact h.elim
theorem wpOp_exit {i : Nat} {a : Act} {w : World} {K : Act → World → Prop} {Q : Exit → Act → World → Prop} (h : wpOp P ops (fun _ _ _ => False) i K a w) : wpOp P ops Q i K a w := by
  unfold wpOp at *
  split
  · rename_i ho; simp only [ho] at h; exact h
  · rename_i o ho
    simp only [ho] at h
    split
    · rename_i hw
      rw [if_pos hw] at h
      rcases h with h | h
      · exact .inl (wp_exit_any h)
      · obtain ⟨_, _, _, h'⟩ := h; exact h'.elim
    · rename_i hw
      rw [if_neg hw] at h
      exact h

theorem rg_region {l : List Oper} {a0 : Act} {w : World} (G : World → World → Prop) (nt N F : Nat) (needs : List (List Nat)) (ss : List St) (hB : (headB .any l.toArray nt N F needs && tailB .any l.toArray N) = true)
    (hN : ss.length = N) (hneeds : ss.map St.needs = needs) (hnt : a0.tmps.size = nt) (htrans : ∀ x y z, G x y → G y z → G x z) (h0 : G w.drew w.drew)
    (hO : Obl P l.toArray G T w.drew ss 0 [] l a0)
    {Any : Nat → Array Bool → Act → World → Prop} (hAny : ∀ fuel listed a w, Region.ready .any l.toArray listed ≠ [] → (∀ i ∈ Region.ready .any l.toArray listed, wpOp P l.toArray (fun _ _ _ => False) i (Any fuel (listed.setIfInBounds i true)) a w) → Any (fuel + 1) listed a w)
    (hTl : ∀ listed a w, Region.seqB .any l.toArray (l.toArray.size - N) N listed = true → T (l.toArray.toList.drop N) a w → Any (l.toArray.size - N) listed a w) : Any l.toArray.size (Array.replicate l.toArray.size false) a0 { w with drawn := w.drawn + 1 } := by
  simp only [Bool.and_eq_true] at hB
  have hH := headB_spec hB.1
  have inv0 : HeadInv .any l.toArray N (Array.replicate l.toArray.size false) :=
    ⟨by simp, fun j oj _ hl => (by rw [getD_replicate_false] at hl; cases hl), fun t _ ht => getD_in (by simpa using ht) (getD_replicate_false _ _)⟩
  have hc : cnt N (Array.replicate l.toArray.size false) = N := by
    have : ∀ n, n ≤ l.toArray.size → cnt n (Array.replicate l.toArray.size false) = n := by
      intro n
      induction n with
      | zero => intro _; rfl
      | succ n ihn =>
        intro hn
        have h1 : (Array.replicate l.toArray.size false).getD n true = false := getD_in (by simp at hn ⊢; omega) (getD_replicate_false _ _)
        simp only [cnt, ihn (by omega), h1, if_true]
    exact this N hH.le
  have := rg_main (P := P) (md := .any) (T := T) (Any := Any) (w0 := { w with drawn := w.drawn + 1 }) ss a0 hN hneeds hH hB.2 hnt htrans (by simpa using hO) hAny hTl N (Array.replicate l.toArray.size false) (fun _ => undef) { w with drawn := w.drawn + 1 } inv0 hc h0
    (fun i s _ hl => (by rw [getD_replicate_false] at hl; cases hl))
  have ha : actP l.toArray (fun j => (Array.replicate l.toArray.size false).getD j false) (stVal ss fun _ => undef) a0 N = a0 := by
    have : ∀ n, actP l.toArray (fun j => (Array.replicate l.toArray.size false).getD j false) (stVal ss fun _ => undef) a0 n = a0 := by
      intro n
      induction n with
      | zero => rfl
      | succ n ihn => unfold actP; rw [getD_replicate_false]; simpa using ihn
    exact this N
  rw [ha] at this
  have hsz : N + (l.toArray.size - N) = l.toArray.size := by have := hH.le; omega
  rw [hsz] at this
  exact this

theorem wpAny_region_rg {Q : Exit → Act → World → Prop} {l : List Oper} {a0 : Act} {w : World} (G : World → World → Prop) (nt N F : Nat) (needs : List (List Nat)) (ss : List St) (hB : (headB .any l.toArray nt N F needs && tailB .any l.toArray N) = true)
    (hN : ss.length = N) (hneeds : ss.map St.needs = needs) (hnt : a0.tmps.size = nt) (htrans : ∀ x y z, G x y → G y z → G x z) (h0 : G w.drew w.drew)
    (hO : Obl P l.toArray G (wpList P l.toArray Q) w.drew ss 0 [] l a0) : wpAny P .any l.toArray Q l.toArray.size (Array.replicate l.toArray.size false) a0 { w with drawn := w.drawn + 1 } :=
  rg_region (T := wpList P l.toArray Q) (Any := wpAny P .any l.toArray Q) G nt N F needs ss hB hN hneeds hnt htrans h0 hO (fun _ _ _ _ hne h => ⟨fun h' => absurd h' hne, fun i hi => wpOp_exit (h i hi)⟩) (fun listed a w hs h => by
      have h' := wpAny_of_seq (P := P) (md := .any) (Q' := Q) (l.toArray.toList.drop N) N listed a w (fun j => by simp [List.getElem?_drop]) (by simpa using hs) h
      simpa using h')

/-- **A region that draws its order, by one walk in the order of the text.** -/
theorem wp_region_rg {id : Nat} {Q : Exit → Act → World → Prop} {l : List Oper} {a0 : Act} {w : World} (G : World → World → Prop) (nt N F : Nat) (needs : List (List Nat)) (ss : List St) (hm : P.follows .mixedOrders = true) (hB : (headB .any l.toArray nt N F needs && tailB .any l.toArray N) = true)
    (hN : ss.length = N) (hneeds : ss.map St.needs = needs) (hnt : a0.tmps.size = nt) (htrans : ∀ x y z, G x y → G y z → G x z) (h0 : G w.drew w.drew)
    (hO : Obl P l.toArray G (wpList P l.toArray Q) w.drew ss 0 [] l a0) : (Code.region id l.toArray true).wp P Q a0 w :=
  wp_region_any hm (wpAny_region_rg G nt N F needs ss hB hN hneeds hnt htrans h0 hO)
end
end
end
end Go.Proofs.Sl

/- Relations that a growing world keeps, for the drawn regions; rows in new blocks; what the package-level variables hold. -/
namespace Go.Proofs.Sl
open Go.RowKit Go.Proofs

def Grow (w w' : World) : Prop := Below w.heap.size w w'
theorem Grow.trans (x y z : World) (h : Grow x y) (k : Grow y z) : Grow x z := Below.trans h (Below.mono k h.size)
theorem Grow.refl (w : World) : Grow w w := Below.refl _ _
def OwnV {α : Type} (enc : α → Value) (B : Nat) (l : List α) (v : Value) (w : World) : Prop := ∃ A n c, v = .slice A n c ∧ Own enc B w A n c l
def RdV {α : Type} (enc : α → Value) (l : List α) (v : Value) (w : World) : Prop := ∃ A n c, v = .slice A n c ∧ Rd enc w A n l
def PartsV (ls : List (List UInt8)) (v : Value) (w : World) : Prop := ∃ b n, v = .slice (some ⟨b, 0, none⟩) n n ∧ Parts w (some ⟨b, 0, none⟩) n ls
theorem OwnV.keep {α : Type} (enc : α → Value) (B : Nat) (l : List α) (v : Value) (w w' : World) (h : OwnV enc B l v w) (hg : Grow w w') : OwnV enc B l v w' := by
  obtain ⟨A, n, c, e, ho⟩ := h
  exact ⟨A, n, c, e, ho.below hg⟩
theorem RdV.keep {α : Type} (enc : α → Value) (l : List α) (v : Value) (w w' : World) (h : RdV enc l v w) (hg : Grow w w') : RdV enc l v w' := by
  obtain ⟨A, n, c, e, ho⟩ := h
  exact ⟨A, n, c, e, ho.below hg⟩
theorem PartsV.keep (ls : List (List UInt8)) (v : Value) (w w' : World) (h : PartsV ls v w) (hg : Grow w w') : PartsV ls v w' := by
  obtain ⟨b, n, e, ho⟩ := h
  exact ⟨b, n, e, ho.below hg⟩

/-- Slices of bytes in a new block: three of them. -/
theorem parts3 {w : World} {B : Nat} {A1 A2 A3 : Option Addr} {n1 n2 n3 c1 c2 c3 : Nat} {l1 l2 l3 : List UInt8}
    (h0 : w.cell? ⟨B, 0, none⟩ = some (.slice A1 n1 c1)) (h1 : w.cell? ⟨B, 1, none⟩ = some (.slice A2 n2 c2)) (h2 : w.cell? ⟨B, 2, none⟩ = some (.slice A3 n3 c3))
    (r1 : Rd eB w A1 n1 l1) (r2 : Rd eB w A2 n2 l2) (r3 : Rd eB w A3 n3 l3) : Parts w (some ⟨B, 0, none⟩) 3 [l1, l2, l3] :=
  ⟨rfl, by omega, fun i hi => by
    match i, hi with
    | 0, _ => exact ⟨_, A1, n1, c1, rfl, by rw [add_zero']; exact h0, r1⟩
    | 1, _ => exact ⟨_, A2, n2, c2, rfl, by rw [add_zero']; exact h1, r2⟩
    | 2, _ => exact ⟨_, A3, n3, c3, rfl, by rw [add_zero']; exact h2, r3⟩⟩

theorem rowU2 {w : World} {B : Nat} {x y : Nat} (h0 : w.cell? ⟨B, 0, none⟩ = some (.int .u32 (x : Int))) (h1 : w.cell? ⟨B, 1, none⟩ = some (.int .u32 (y : Int))) : Rd eU w (some ⟨B, 0, none⟩) 2 [x, y] :=
  ⟨rfl, by omega, fun i hi => by
    match i, hi with
    | 0, _ => exact ⟨_, rfl, by rw [add_zero']; exact h0⟩
    | 1, _ => exact ⟨_, rfl, by rw [add_zero']; exact h1⟩⟩
theorem rowU4 {w : World} {B : Nat} {x y z t : Nat} (h0 : w.cell? ⟨B, 0, none⟩ = some (.int .u32 (x : Int))) (h1 : w.cell? ⟨B, 1, none⟩ = some (.int .u32 (y : Int)))
    (h2 : w.cell? ⟨B, 2, none⟩ = some (.int .u32 (z : Int))) (h3 : w.cell? ⟨B, 3, none⟩ = some (.int .u32 (t : Int))) : Rd eU w (some ⟨B, 0, none⟩) 4 [x, y, z, t] :=
  ⟨rfl, by omega, fun i hi => by
    match i, hi with
    | 0, _ => exact ⟨_, rfl, by rw [add_zero']; exact h0⟩
    | 1, _ => exact ⟨_, rfl, by rw [add_zero']; exact h1⟩
    | 2, _ => exact ⟨_, rfl, by rw [add_zero']; exact h2⟩
    | 3, _ => exact ⟨_, rfl, by rw [add_zero']; exact h3⟩⟩

theorem parts2 {w : World} {B : Nat} {A1 A2 : Option Addr} {n1 n2 c1 c2 : Nat} {l1 l2 : List UInt8}
    (h0 : w.cell? ⟨B, 0, none⟩ = some (.slice A1 n1 c1)) (h1 : w.cell? ⟨B, 1, none⟩ = some (.slice A2 n2 c2))
    (r1 : Rd eB w A1 n1 l1) (r2 : Rd eB w A2 n2 l2) : Parts w (some ⟨B, 0, none⟩) 2 [l1, l2] :=
  ⟨rfl, by omega, fun i hi => by
    match i, hi with
    | 0, _ => exact ⟨_, A1, n1, c1, rfl, by rw [add_zero']; exact h0, r1⟩
    | 1, _ => exact ⟨_, A2, n2, c2, rfl, by rw [add_zero']; exact h1, r2⟩⟩
theorem parts1 {w : World} {B : Nat} {A1 : Option Addr} {n1 c1 : Nat} {l1 : List UInt8}
    (h0 : w.cell? ⟨B, 0, none⟩ = some (.slice A1 n1 c1)) (r1 : Rd eB w A1 n1 l1) : Parts w (some ⟨B, 0, none⟩) 1 [l1] :=
  ⟨rfl, by omega, fun i hi => by
    match i, hi with
    | 0, _ => exact ⟨_, A1, n1, c1, rfl, by rw [add_zero']; exact h0, r1⟩⟩

/-- keccak's tables lie as the program's text lays them. -/
def Laid (w : World) : Prop :=
  (∀ i, i < 25 → w.cell? ⟨1, i, none⟩ = some (.int .i64 ((turnsL.getD i 0 : Nat) : Int))) ∧ (∀ i, i < 24 → w.cell? ⟨2, i, none⟩ = some (.int .u64 ((rcL.getD i 0 : Nat) : Int)))
theorem Laid.below {w w' : World} (h : Laid w) (hb : Below w.heap.size w w') : Laid w' := ⟨fun i hi => cell_old hb (h.1 i hi), fun i hi => cell_old hb (h.2 i hi)⟩
theorem Laid.alloc {w : World} (h : Laid w) (o : Obj) : Laid (w.alloc o) := h.below ((Below.refl _ w).alloc (Nat.le_refl _) o)
theorem Laid.drew {w : World} (h : Laid w) : Laid w.drew := h.below (Below.refl _ w).drew
end Go.Proofs.Sl
