/- octet: bytes in parts. octet.Get and the document's Get: the number that bytes are. slh: a sum at a leaf's place; what is gone up; of each chain something. slh: of each chain something, one behind the other. -/
import Derived.Test.YtipedpkkabfdjaaGreatDoorFits06
import Derived.Test.YtipedpkkabfdjaaGreatDoorFits09
import Derived.Defers
import Derived.Recover
import Derived.Test.YtipedpkkabfdjaaGreatDoorFits01
import Derived.Test.YtipedpkkabfdjaaGreatDoorProg
import Derived.Test.YtipedpkkabfdjaaGreatDoorFits12
/- octet: bytes in parts. -/
namespace Go.Proofs.Sl
open Go.RowKit Go.Proofs

/-- A slice's head as a value. -/
abbrev eS (x : Option Addr × Nat × Nat) : Value := .slice x.1 x.2.1 x.2.2
theorem infoSl : (Tryz.prog.info? 24).map (fun i => (i.zero, i.size, i.bytes)) = some (some (.slice none 0 0), 1, 24) := by kernel_rfl
/-- A part: empty, or the call's own bytes. -/
def Pt (B : Nat) (w : World) (x : Option Addr × Nat × Nat) (l : List UInt8) : Prop := x.2.1 = l.length ∧ (l = [] ∨ Own eB B w x.1 x.2.1 x.2.2 l)
theorem Pt.rd {B : Nat} {w : World} {x : Option Addr × Nat × Nat} {l : List UInt8} (h : Pt B w x l) : Rd eB w x.1 x.2.1 l := by
  obtain ⟨h1, h2 | h2⟩ := h
  · subst h2; rw [h1]; exact Rd.nil _ _
  · exact h2.rd
theorem Pt.below {B : Nat} {w w' : World} {x : Option Addr × Nat × Nat} {l : List UInt8} (h : Pt B w x l) (hb : Below w.heap.size w w') : Pt B w' x l := ⟨h.1, h.2.imp id (fun h => h.below hb)⟩
theorem Pt.grown {B : Nat} {w w' : World} {x : Option Addr × Nat × Nat} {l : List UInt8} {row : Option Nat} (h : Pt B w x l) (hg : w.grownBy w' row) (hr : ∀ g, row = some g → ∀ b : UInt8, w.cell? ⟨g, 0, none⟩ ≠ some (eB b)) : Pt B w' x l := by
  obtain ⟨h1, h2 | h2⟩ := h
  · exact ⟨h1, .inl h2⟩
  · by_cases hl : l = []
    · exact ⟨h1, .inl hl⟩
    · refine ⟨h1, .inr (h2.other hg fun g hg' e => ?_)⟩
      have hpos : 0 < l.length := by cases l with | nil => exact absurd rfl hl | cons _ _ => simp
      rw [hg'] at h2
      have := h2.cell_at 0 (by rw [h1]; exact hpos)
      exact hr g e _ this

theorem catch_idle (p q : Addr) (w : World) :
    CallsD Tryz.prog 87 #[.pointer (some p), .pointer (some q)] .returning w fun e u' w' => e = .returned (.tuple #[]) ∧ u' = .returning ∧ w' = w := by
  refine callsD_of_wpS Tryz.func87 rfl fun c₀ cs hu => ?_
  apply wpS_seq
  apply wpS_region
  simp [wpOpsS, go_sem, recoverD, hu, Tryz.ntmps87, Exit.thenS]
  refine wpS_of_wp ?_
  simp only [Array.replicate_succ, Array.replicate_zero, List.push_toArray, List.append_toArray, List.nil_append, List.cons_append, List.setIfInBounds_toArray, List.set_cons_zero, List.set_cons_succ]
  go_wp2
  cases c₀
  simp_all [bodyPostS, results, Tryz.results87]

theorem catch_world (p q : Nat) (u v z y : Value) (o : Obj) (w : World) (hp : w.cell? ⟨p, 0, none⟩ = some v) (hq : w.cell? ⟨q, 0, none⟩ = some u) (hpq : p ≠ q) :
    ((((w.setCell ⟨p, 0, none⟩ z).setCell ⟨q, 0, none⟩ y).alloc o).drew).cell? ⟨p, 0, none⟩ = some z ∧ ((((w.setCell ⟨p, 0, none⟩ z).setCell ⟨q, 0, none⟩ y).alloc o).drew).cell? ⟨q, 0, none⟩ = some y ∧
    (∀ k, k < w.heap.size → k ≠ p → k ≠ q → ((((w.setCell ⟨p, 0, none⟩ z).setCell ⟨q, 0, none⟩ y).alloc o).drew).heap[k]? = w.heap[k]?) ∧ w.heap.size ≤ ((((w.setCell ⟨p, 0, none⟩ z).setCell ⟨q, 0, none⟩ y).alloc o).drew).heap.size := by
  have h1 := cell_set_eq w p 0 z v hp
  have hq1 : (w.setCell ⟨p, 0, none⟩ z).cell? ⟨q, 0, none⟩ = some u := (World.cell?_of_block (w := w) (a := ⟨q, 0, none⟩) (block_set _ _ _ _ (fun e => hpq e.symm))).trans hq
  have h2 := cell_set_eq (w.setCell ⟨p, 0, none⟩ z) q 0 y u hq1
  have h1' : ((w.setCell ⟨p, 0, none⟩ z).setCell ⟨q, 0, none⟩ y).cell? ⟨p, 0, none⟩ = some z := (World.cell?_of_block (w := w.setCell ⟨p, 0, none⟩ z) (a := ⟨p, 0, none⟩) (block_set _ _ _ _ hpq)).trans h1
  generalize hW : (w.setCell ⟨p, 0, none⟩ z).setCell ⟨q, 0, none⟩ y = W at *
  have hb : Below W.heap.size W ((W.alloc o).drew) := ((Below.refl _ W).alloc (Nat.le_refl _) o).drew
  have hs : w.heap.size = W.heap.size := by rw [← hW]; simp [World.setCell]
  refine ⟨cell_old hb h1', cell_old hb h2, fun k hk hp' hq' => ?_, by rw [hs]; exact hb.size⟩
  refine (hb.block k (by omega)).trans ?_
  rw [← hW]
  exact (block_set _ _ _ _ hq').trans (block_set _ _ _ _ hp')

set_option maxRecDepth 20000 in
theorem catch_wrong (p q : Nat) (x : Int) (v : Value) (code : Int) (older : List PanicEntry) (w : World) (hp : w.cell? ⟨p, 0, none⟩ = some v) (hpf : w.frozen? ⟨p, 0, none⟩ = false) (hq : w.cell? ⟨q, 0, none⟩ = some (.int .i64 x)) (hqf : w.frozen? ⟨q, 0, none⟩ = false) (hpq : p ≠ q) (hpl : p < w.heap.size) (hql : q < w.heap.size) :
    CallsD Tryz.prog 87 #[.pointer (some ⟨p, 0, none⟩), .pointer (some ⟨q, 0, none⟩)] (.panicking ({ v := .iface 114 (.agg #[.int .i64 code]), recovered := false } :: older)) w fun e u' w' => e = .returned (.tuple #[]) ∧ u' = .panicking ({ v := .iface 114 (.agg #[.int .i64 code]), recovered := true } :: older) ∧
      w'.cell? ⟨p, 0, none⟩ = some (.slice none 0 0) ∧ w'.cell? ⟨q, 0, none⟩ = some (.int .i64 code) ∧ (∀ k, k < w.heap.size → k ≠ p → k ≠ q → w'.heap[k]? = w.heap[k]?) ∧ w'.os = w.os ∧ w'.tape = w.tape ∧ w'.output = w.output ∧ w.heap.size ≤ w'.heap.size := by
  have hta : ∀ w, (Instr.typeAssert (Value.iface 114 (.agg #[.int .i64 code])) 20 114 true).run Tryz.prog w = .ok (.tuple #[.agg #[.int .i64 code], .bool true]) w := fun _ => by kernel_rfl
  refine callsD_of_wpS Tryz.func87 rfl fun c₀ cs hu => ?_
  apply wpS_seq
  apply wpS_region
  simp [wpOpsS, go_sem, recoverD, hu, Tryz.ntmps87, Exit.thenS]
  refine wpS_of_wp ?_
  have HU := Lib.hid hu
  clear hu
  simp only [Array.replicate_succ, Array.replicate_zero, List.push_toArray, List.append_toArray, List.nil_append, List.cons_append, List.setIfInBounds_toArray, List.set_cons_zero, List.set_cons_succ]
  go_wp2
  go_region
  obtain ⟨h1, h2, h3, h4⟩ := catch_world p q _ v (.slice none 0 0) (.int .i64 code) (.cells #[.int .i64 code] 114) w hp hq hpq
  exact ⟨rfl, _, rfl, .tuple #[], by simp [results, Tryz.results87, go_sem], rfl, rfl, h1, h2, h3, rfl, rfl, rfl, h4⟩

def offs (sz : List Nat) (k : Nat) : Nat := (sz.take k).sum
theorem offs_succ (sz : List Nat) (k : Nat) (h : k < sz.length) : offs sz (k + 1) = offs sz k + sz[k] := by
  unfold offs
  rw [List.take_succ_eq_append_getElem h, List.sum_append]; simp
theorem offs_all (sz : List Nat) (k : Nat) (h : sz.length ≤ k) : offs sz k = sz.sum := by unfold offs; rw [List.take_of_length_le h]
theorem offs_le (sz : List Nat) : ∀ k, offs sz k ≤ sz.sum := fun k => by
  have := List.sum_append (l₁ := sz.take k) (l₂ := sz.drop k)
  rw [List.take_append_drop] at this
  unfold offs; omega

/-- How a cut ends: with the parts, if they are of just the bytes that there are, or with no part and a code that is not OK. -/
def CutEnd (n : Nat) (l : List UInt8) (sz : List Nat) (w : World) (e : Ending) (w' : World) : Prop :=
  Grow w w' ∧ ((sz.sum = n ∧ ∃ Ao co ps, e = .returned (.tuple #[.slice Ao sz.length co, .int .i64 0]) ∧ Own eS w.heap.size w' Ao sz.length co ps ∧ ∀ j (h : j < ps.length), Pt w.heap.size w' ps[j] (cutL l (offs sz j) (offs sz (j + 1)))) ∨
    (sz.sum ≠ n ∧ ∃ code : Int, code ≠ 0 ∧ e = .returned (.tuple #[.slice none 0 0, .int .i64 code])))

/-- What holds at a round's head. -/
structure CutRel (w : World) (n : Nat) (l : List UInt8) (sz : List Nat) (k : Nat) (Ab : Option Addr) (nb cb : Nat) (Ao : Option Addr) (co : Nat) (ps : List (Option Addr × Nat × Nat)) (wr : World) : Prop where
  le : offs sz k + nb = n
  nc : nb ≤ cb
  cb : cb ≤ maxLen
  rd : Rd eB w Ab nb (l.drop (offs sz k))
  c4 : wr.cell? ⟨w.heap.size, 0, none⟩ = some (.slice Ao k co)
  c5 : wr.cell? ⟨w.heap.size + 1, 0, none⟩ = some (.int .i64 0)
  f4 : wr.frozen? ⟨w.heap.size, 0, none⟩ = false
  f5 : wr.frozen? ⟨w.heap.size + 1, 0, none⟩ = false
  own : Own eS (w.heap.size + 2) wr Ao k co ps
  start : k = 0 → Ao = none
  pts : ∀ j (h : j < ps.length), Pt (w.heap.size + 2) wr ps[j] (cutL l (offs sz j) (offs sz (j + 1)))
  below : Below w.heap.size w wr
  size : w.heap.size + 2 ≤ wr.heap.size

theorem grow_two {w w1 w2 : World} {p q : Nat} (h : Below w.heap.size w w1) (hp : w.heap.size ≤ p) (hq : w.heap.size ≤ q) (hk : ∀ k, k < w1.heap.size → k ≠ p → k ≠ q → w2.heap[k]? = w1.heap[k]?) (ho : w2.os = w1.os) (ht : w2.tape = w1.tape) (hu : w2.output = w1.output) (hs : w1.heap.size ≤ w2.heap.size) : Grow w w2 :=
  ⟨ho.trans h.os, ht.trans h.tape, hu.trans h.output, Nat.le_trans h.size hs, fun k hlt => (hk k (Nat.lt_of_lt_of_le hlt h.size) (by omega) (by omega)).trans (h.block k hlt)⟩
set_option maxRecDepth 20000 in
theorem cut_caught {n : Nat} {l : List UInt8} {sz : List Nat} {w w1 : World} {v : Value} {x code : Int} {tmps : Array Value} (hne : sz.sum ≠ n) (hp : w1.cell? ⟨w.heap.size, 0, none⟩ = some v) (hpf : w1.frozen? ⟨w.heap.size, 0, none⟩ = false) (hq : w1.cell? ⟨w.heap.size + 1, 0, none⟩ = some (.int .i64 x)) (hqf : w1.frozen? ⟨w.heap.size + 1, 0, none⟩ = false)
    (hsz : w.heap.size + 2 ≤ w1.heap.size) (hb : Below w.heap.size w w1) (hcode : code ≠ 0) (h4 : tmps.getD 4 undef = .pointer (some ⟨w.heap.size, 0, none⟩)) (h5 : tmps.getD 5 undef = .pointer (some ⟨w.heap.size + 1, 0, none⟩)) :
    Leaves Tryz.prog Tryz.f49 tmps (CutEnd n l sz w) [{ target := .fn (.func 87) #[.pointer (some ⟨w.heap.size, 0, none⟩), .pointer (some ⟨w.heap.size + 1, 0, none⟩)], args := #[] }] (.panicking [{ v := .iface 114 (.agg #[.int .i64 code]), recovered := false }]) w1 := by
  refine leaves_cons (f := 87) (args := #[.pointer (some ⟨w.heap.size, 0, none⟩), .pointer (some ⟨w.heap.size + 1, 0, none⟩)]) (by simp) (by simp [go_sem]) ?_
  refine (catch_wrong w.heap.size (w.heap.size + 1) x v code [] w1 hp hpf hq hqf (by omega) (by omega) (by omega)).mono ?_
  rintro e u' w2 ⟨rfl, rfl, h1, h2, h3, g1, g2, g3, g4⟩
  have hE : CutEnd n l sz w (.returned (.tuple #[.slice none 0 0, .int .i64 code])) w2 := ⟨grow_two hb (Nat.le_refl _) (by omega) h3 g1 g2 g3 g4, .inr ⟨hne, code, hcode, rfl⟩⟩
  have HE := Lib.hid hE
  simp only [Array.getD_eq_getD_getElem?] at h4 h5
  simp [Leaves, settle, results, Tryz.results49, go_sem, h1, h2, h4, h5]
  exact HE.out

/-- What of the bytes is left behind a part. -/
structure CutRest (w : World) (n : Nat) (l : List UInt8) (sz : List Nat) (k x : Nat) (Ab : Option Addr) (nb cb : Nat) : Prop where
  off : offs sz (k + 1) = offs sz k + x
  fit : x ≤ nb
  le : offs sz k + nb = n
  nc : nb ≤ cb
  cb : cb ≤ maxLen
  rd : Rd eB w Ab nb (l.drop (offs sz k))
/-- Behind a part. -/
structure CutMid (w : World) (n : Nat) (l : List UInt8) (sz : List Nat) (k : Nat) (A1 : Option Addr) (x c1 : Nat) (Ab : Option Addr) (nb cb : Nat) (Ao : Option Addr) (co : Nat) (ps : List (Option Addr × Nat × Nat)) (w1 : World) : Prop where
  c4 : w1.cell? ⟨w.heap.size, 0, none⟩ = some (.slice Ao k co)
  c5 : w1.cell? ⟨w.heap.size + 1, 0, none⟩ = some (.int .i64 0)
  f4 : w1.frozen? ⟨w.heap.size, 0, none⟩ = false
  f5 : w1.frozen? ⟨w.heap.size + 1, 0, none⟩ = false
  own : Own eS (w.heap.size + 2) w1 Ao k co ps
  start : k = 0 → Ao = none
  pts : ∀ j (h : j < ps.length), Pt (w.heap.size + 2) w1 ps[j] (cutL l (offs sz j) (offs sz (j + 1)))
  pt : Pt (w.heap.size + 2) w1 (A1, x, c1) (cutL l (offs sz k) (offs sz (k + 1)))
  rest : CutRest w n l sz k x Ab nb cb
  below : Below w.heap.size w w1
  size : w.heap.size + 2 ≤ w1.heap.size
theorem CutRel.mid {w : World} {n : Nat} {l : List UInt8} {sz : List Nat} {k : Nat} {Ab : Option Addr} {nb cb : Nat} {Ao : Option Addr} {co : Nat} {ps : List (Option Addr × Nat × Nat)} {wr w1 : World} {A1 : Option Addr} {x c1 : Nat} (h : CutRel w n l sz k Ab nb cb Ao co ps wr)
    (hx : offs sz (k + 1) = offs sz k + x) (hfit : x ≤ nb) (h1 : Own eB wr.heap.size w1 A1 x c1 ((l.drop (offs sz k)).take x)) (g1 : Grow wr w1) : CutMid w n l sz k A1 x c1 Ab nb cb Ao co ps w1 := by
  have hz := h.size
  refine ⟨cell_old g1 h.c4, cell_old g1 h.c5, ?_, ?_, h.own.below g1, h.start, fun j hj => (h.pts j hj).below g1, ?_, ⟨hx, hfit, h.le, h.nc, h.cb, h.rd⟩, h.below.trans (g1.mono h.below.size), Nat.le_trans h.size g1.size⟩
  · exact (World.frozen?_of_block (w := wr) (a := ⟨w.heap.size, 0, none⟩) (g1.block _ (show w.heap.size < _ by omega))).trans h.f4
  · exact (World.frozen?_of_block (w := wr) (a := ⟨w.heap.size + 1, 0, none⟩) (g1.block _ (show w.heap.size + 1 < _ by omega))).trans h.f5
  · have e : (l.drop (offs sz k)).take x = cutL l (offs sz k) (offs sz (k + 1)) := by unfold cutL; rw [hx, List.take_drop]
    rw [e] at h1
    exact ⟨h1.len.symm, .inr (h1.mono h.size)⟩
theorem CutMid.next {w : World} {n : Nat} {l : List UInt8} {sz : List Nat} {k : Nat} {Ab : Option Addr} {nb cb : Nat} {Ao : Option Addr} {co : Nat} {ps : List (Option Addr × Nat × Nat)} {w1 w2 : World} {A1 : Option Addr} {x c1 : Nat} {A' : Option Addr} {c' : Nat} (o : Obj) (h : CutMid w n l sz k A1 x c1 Ab nb cb Ao co ps w1)
    (h3 : Own eS (w.heap.size + 2) w2 A' (k + 1) c' (ps ++ [(A1, x, c1)])) (h4 : (w1.alloc o).grownBy w2 (Ao.map (·.block))) (h5 : Below (w.heap.size + 2) (w1.alloc o) w2) :
    (∃ v, w2.cell? ⟨w.heap.size, 0, none⟩ = some v) ∧ w2.frozen? ⟨w.heap.size, 0, none⟩ = false ∧ CutRel w n l sz (k + 1) (cutAt Ab x cb) (nb - x) (cb - x) A' c' (ps ++ [(A1, x, c1)]) (w2.setCell ⟨w.heap.size, 0, none⟩ (.slice A' (k + 1) c')) := by
  have hz := h.size
  have ga : Below w1.heap.size w1 (w1.alloc o) := (Below.refl _ _).alloc (Nat.le_refl _) _
  have hb4 : w2.heap[w.heap.size]? = w1.heap[w.heap.size]? := (h5.block _ (by omega)).trans (ga.block _ (by omega))
  have hb5 : w2.heap[w.heap.size + 1]? = w1.heap[w.heap.size + 1]? := (h5.block _ (by omega)).trans (ga.block _ (by omega))
  have c4 := (World.cell?_of_block (w := w1) (a := ⟨w.heap.size, 0, none⟩) hb4).trans h.c4
  have f4 := (World.frozen?_of_block (w := w1) (a := ⟨w.heap.size, 0, none⟩) hb4).trans h.f4
  refine ⟨⟨_, c4⟩, f4, ?_⟩
  have hgrow : Below w.heap.size w w2 := (h.below.trans (ga.mono h.below.size)).trans (h5.mono (by omega))
  have hrow : ∀ g, Ao.map (·.block) = some g → ∀ b : UInt8, (w1.alloc o).cell? ⟨g, 0, none⟩ ≠ some (eB b) := by
    intro g hg b hcb
    have ho := h.own.below ga
    cases Ao with
    | none => cases hg
    | some ad =>
      rcases ho.at_ with ⟨e, _⟩ | ⟨g', e, _, _, hv, _, hcell⟩
      · cases e
      · cases e
        cases hg
        by_cases hk : 0 < ps.length
        · rw [hcell 0 hk] at hcb; cases hcb
        · have := h.start (by rw [← h.own.len]; omega)
          cases this
  have hP : ∀ (y : Option Addr × Nat × Nat) (l' : List UInt8), Pt (w.heap.size + 2) w1 y l' → Pt (w.heap.size + 2) (w2.setCell ⟨w.heap.size, 0, none⟩ (.slice A' (k + 1) c')) y l' := fun y l' hp => by
    obtain ⟨e, e2 | e2⟩ := (hp.below ga).grown h4 hrow
    · exact ⟨e, .inl e2⟩
    · by_cases hl : l' = []
      · exact ⟨e, .inl hl⟩
      · refine ⟨e, .inr (e2.set_other _ _ fun e3 => ?_)⟩
        have := e2.lt w.heap.size e3 (by have := e2.nc; have : 0 < l'.length := by cases l' with | nil => exact absurd rfl hl | cons _ _ => simp
                                         omega)
        omega
  have hnc := h.rest.nc
  have hfit := h.rest.fit
  have hle := h.rest.le
  have hoff := h.rest.off
  refine ⟨by omega, by omega, by have := h.rest.cb; omega, ?_, cell_set_eq _ _ _ _ _ c4, ?_, ?_, ?_, ?_, fun e => by omega, ?_, hgrow.setCell (p := ⟨w.heap.size, 0, none⟩) (Nat.le_refl _) _, by have := h5.size; simp at this; simp [World.setCell]; omega⟩
  · have := h.rest.rd.cut x nb cb hfit (Nat.le_refl _) hnc
    rw [List.take_of_length_le (by rw [h.rest.rd.len]; exact Nat.le_refl _), List.drop_drop, ← hoff] at this
    exact this
  · exact (World.cell?_of_block (w := w2) (a := ⟨w.heap.size + 1, 0, none⟩) (block_set _ _ _ _ (by simp))).trans ((World.cell?_of_block (w := w1) (a := ⟨w.heap.size + 1, 0, none⟩) hb5).trans h.c5)
  · rw [frozen_set]; exact f4
  · rw [frozen_set]; exact (World.frozen?_of_block (w := w1) (a := ⟨w.heap.size + 1, 0, none⟩) hb5).trans h.f5
  · exact h3.set_other _ _ fun e3 => by
      have := h3.lt w.heap.size e3 (by have := h3.nc; omega)
      omega
  · intro j hj
    by_cases e : j < ps.length
    · rw [List.getElem_append_left e]
      exact hP _ _ (h.pts j e)
    · have hj' : j = k := by have := h.own.len; simp at hj; omega
      subst hj'
      rw [List.getElem_append_right (by omega)]
      simp only [List.getElem_singleton]
      exact hP _ _ h.pt

theorem Pt.mono {B B' : Nat} {w : World} {x : Option Addr × Nat × Nat} {l : List UInt8} (h : Pt B w x l) (hB : B' ≤ B) : Pt B' w x l := ⟨h.1, h.2.imp id (fun h => h.mono hB)⟩
theorem Pt.set_other {B : Nat} {w : World} {x : Option Addr × Nat × Nat} {l : List UInt8} (h : Pt B w x l) (b : Nat) (v : Value) (hb : b < B) : Pt B (w.setCell ⟨b, 0, none⟩ v) x l := by
  obtain ⟨e, e2 | e2⟩ := h
  · exact ⟨e, .inl e2⟩
  · by_cases hl : l = []
    · exact ⟨e, .inl hl⟩
    · refine ⟨e, .inr (e2.set_other _ _ fun e3 => ?_)⟩
      have := e2.lt b e3 (by have := e2.nc; have : 0 < l.length := by cases l with | nil => exact absurd rfl hl | cons _ _ => simp
                             omega)
      omega
theorem Own.set_below {α : Type} {enc : α → Value} {B n c : Nat} {w : World} {A : Option Addr} {l : List α} (h : Own enc B w A n c l) (b : Nat) (v : Value) (hb : b < B) : Own enc B (w.setCell ⟨b, 0, none⟩ v) A n c l := by
  rcases h.at_ with h0 | ⟨g, h1, h2, h3⟩
  · exact ⟨h.len, h.big, h.nc, h.cm, .inl h0⟩
  · exact h.set_other _ _ fun e => by rw [h1] at e; injection e with e; injection e with e; dsimp only at e; omega
set_option maxRecDepth 20000 in
theorem cut_done {w : World} {n : Nat} {l : List UInt8} {sz : List Nat} {k : Nat} {Ab : Option Addr} {nb cb : Nat} {Ao : Option Addr} {co : Nat} {ps : List (Option Addr × Nat × Nat)} {wr : World} {tmps : Array Value} (h : CutRel w n l sz k Ab nb cb Ao co ps wr) (hsum : sz.sum = n) (hk : sz.length = k)
    (h4 : tmps.getD 4 undef = .pointer (some ⟨w.heap.size, 0, none⟩)) (h5 : tmps.getD 5 undef = .pointer (some ⟨w.heap.size + 1, 0, none⟩)) :
    Leaves Tryz.prog Tryz.f49 tmps (CutEnd n l sz w) [{ target := .fn (.func 87) #[.pointer (some ⟨w.heap.size, 0, none⟩), .pointer (some ⟨w.heap.size + 1, 0, none⟩)], args := #[] }] .returning ((wr.setCell ⟨w.heap.size, 0, none⟩ (.slice Ao k co)).setCell ⟨w.heap.size + 1, 0, none⟩ (.int .i64 0)) := by
  refine leaves_cons (f := 87) (args := #[.pointer (some ⟨w.heap.size, 0, none⟩), .pointer (some ⟨w.heap.size + 1, 0, none⟩)]) (by simp) (by simp [go_sem]) ?_
  refine (catch_idle ⟨w.heap.size, 0, none⟩ ⟨w.heap.size + 1, 0, none⟩ _).mono ?_
  rintro e u' w2 ⟨rfl, rfl, rfl⟩
  have hq1 : (wr.setCell ⟨w.heap.size, 0, none⟩ (.slice Ao k co)).cell? ⟨w.heap.size + 1, 0, none⟩ = some (.int .i64 0) := (World.cell?_of_block (w := wr) (a := ⟨w.heap.size + 1, 0, none⟩) (block_set _ _ _ _ (by simp))).trans h.c5
  have h2 := cell_set_eq (wr.setCell ⟨w.heap.size, 0, none⟩ (.slice Ao k co)) (w.heap.size + 1) 0 (.int .i64 0) _ hq1
  have h1 : ((wr.setCell ⟨w.heap.size, 0, none⟩ (.slice Ao k co)).setCell ⟨w.heap.size + 1, 0, none⟩ (.int .i64 0)).cell? ⟨w.heap.size, 0, none⟩ = some (.slice Ao k co) := (World.cell?_of_block (w := wr.setCell ⟨w.heap.size, 0, none⟩ (.slice Ao k co)) (a := ⟨w.heap.size, 0, none⟩) (block_set _ _ _ _ (by simp))).trans (cell_set_eq _ _ _ _ _ h.c4)
  have hE : CutEnd n l sz w (.returned (.tuple #[.slice Ao k co, .int .i64 0])) ((wr.setCell ⟨w.heap.size, 0, none⟩ (.slice Ao k co)).setCell ⟨w.heap.size + 1, 0, none⟩ (.int .i64 0)) := by
    subst hk
    exact ⟨(h.below.setCell (p := ⟨w.heap.size, 0, none⟩) (Nat.le_refl _) _).setCell (p := ⟨w.heap.size + 1, 0, none⟩) (show w.heap.size ≤ w.heap.size + 1 by omega) _, .inl ⟨hsum, Ao, co, ps, rfl, ((h.own.set_below _ _ (by omega)).set_below _ _ (by omega)).mono (by omega), fun j hj => (((h.pts j hj).set_other _ _ (by omega)).set_other _ _ (by omega)).mono (by omega)⟩⟩
  have HE := Lib.hid hE
  generalize World.setCell (World.setCell wr _ _) _ _ = W at *
  simp only [Array.getD_eq_getD_getElem?] at h4 h5
  simp [Leaves, settle, results, Tryz.results49, go_sem, h1, h2, h4, h5]
  exact HE.out

set_option maxHeartbeats 2000000 in
theorem cut_any (A At : Option Addr) (n c m ct : Nat) (l : List UInt8) (sz : List Nat) (w : World) (hr : Rd eB w A n l) (hc : n ≤ c) (hcb : c ≤ maxLen) (hs : Rd eN w At m sz) (hm : m ≤ 100) (hz : ∀ x ∈ sz, x ≤ 1000000) :
    Calls Tryz.prog 49 #[.slice A n c, .slice At m ct] w (CutEnd n l sz w) := by
  have hmf : ∀ (fn : Fn) (first cap : Array Value) (w : World), (Instr.makeFunc fn first cap).run Tryz.prog w = .ok (.func fn first cap) w := fun _ _ _ _ => rfl
  have HS := Lib.hid hs
  have HR := Lib.hid hr
  have HSL := Lib.hid hs.len
  have HLN := Lib.hid hr.len
  have HZ := Lib.hid hz
  have H0 : Hid (CutRel w n l sz 0 A n c none 0 [] ((w.alloc (.cells #[.slice none 0 0] 76)).alloc (.cells #[.int .i64 0] 33))) := Lib.hid
    ⟨by simp [offs], hc, hcb, by simpa [offs] using hr, by go_simp, by go_simp, by go_simp, by go_simp, Own.nil _ _, fun _ => rfl, by simp, ((Below.refl _ _).alloc (Nat.le_refl _) _).alloc (by simp) _, by simp⟩
  clear hs hr hz
  go_enter_defers Tryz.func49, Tryz.ntmps49
  go_wp2
  generalize World.alloc (World.alloc w _) _ = w0 at *
  go_loopw [0, 7, 8, 12] (fun b _ _ i wr => ∃ (k : Nat) (Ab : Option Addr) (nb cb : Nat) (Ao : Option Addr) (co : Nat) (ps : List (Option Addr × Nat × Nat)), k ≤ m ∧ i = .int .i64 (k : Int) ∧ b = .slice Ab nb cb ∧ CutRel w n l sz k Ab nb cb Ao co ps wr) (fun _ _ _ i _ => m - (intOf i).toNat)
  case atStart => exact ⟨0, _, _, _, _, _, _, Nat.zero_le _, rfl, rfl, H0.out⟩
  case round =>
    clear H0
    obtain ⟨k, Ab, nb, cb, Ao, co, ps, hk, rfl, rfl, hR⟩ := hrel
    by_cases hlt : k < m
    · obtain ⟨ad, rfl, hcell⟩ := HS.out.at k hlt
      have hks : k < sz.length := by rw [HSL.out]; exact hlt
      have hzk := HZ.out sz[k] (List.getElem_mem hks)
      have hof := offs_succ sz k hks
      have q0 := cell_old hR.below hcell
      have HRR := Lib.hid hR
      by_cases hfit : sz[k] ≤ nb
      · have HP := Lib.hid (part_ok Ab nb cb sz[k] (l.drop (offs sz k)) wr (hR.rd.below hR.below) hR.nc hR.cb hfit)
        have HOF := Lib.hid hof
        generalize sz[k] = x at *
        clear hR hcell hof
        go_wp2_with fail
        refine HP.out.mono ?_
        rintro e w1 ⟨A1, c1, rfl, h1, g1⟩
        have hR1 := HRR.out.mid HOF.out hfit h1 g1
        have HR1 := Lib.hid hR1
        have q4 := hR1.c4
        have q5 := hR1.f4
        have HO := Lib.hid (hR1.own.alloc (.cells #[.slice A1 x c1] 24))
        have HX : Hid (Rd eS (w1.alloc (.cells #[.slice A1 x c1] 24)) (some ⟨w1.heap.size, 0, none⟩) 1 [(A1, x, c1)]) := Lib.hid (Own.new (enc := eS) (B := 0) w1 24 [(A1, x, c1)] (Nat.zero_le _) (by simp)).rd
        have hsz : w.heap.size + 2 ≤ (w1.alloc (.cells #[.slice A1 x c1] 24)).heap.size := by have := hR1.size; simp; omega
        clear hR1 h1 g1 HP q0
        go_wp2_with (at_builtin; refine wpList_append_sl2 rfl _ _ 76 24 (.slice none 0 0) 24 rfl Tryz.underlying76 infoSl rfl (fun _ => rfl) rfl rfl HO.out HX.out (by omega) (by omega) hsz ?_; intro A' c' w' h3 h4 h5 h6; have HN := Lib.hid (HR1.out.next _ h3 h4 h5); obtain ⟨v6, q6⟩ := HN.out.1; have q7 := HN.out.2.1; clear h3 h4 h5 h6)
        go_roundw
        case rel => exact ⟨k + 1, _, _, _, _, _, _, by omega, by go_num, rfl, HN.out.2.2⟩
        case measure => simp [intOf]; omega
      · have HP := Lib.hid (part_short Ab nb cb sz[k] wr (by omega) hzk)
        have HOF := Lib.hid hof
        generalize sz[k] = x at *
        clear hR hcell hof
        go_wp2_with fail
        refine HP.out.mono ?_
        rintro e w1 ⟨rfl, rfl⟩
        refine cut_caught (by have h1 := HOF.out; have h2 := HRR.out.le; have h3 := offs_le sz (k + 1); omega) HRR.out.c4 HRR.out.f4 HRR.out.c5 HRR.out.f5 HRR.out.size HRR.out.below (by decide) rfl rfl
    · obtain rfl : k = m := by omega
      have hsum := offs_all sz k (by rw [HSL.out]; exact Nat.le_refl _)
      by_cases h0 : nb = 0
      · subst h0
        have q4 := hR.c4
        have q5 := hR.f4
        have q6 := hR.c5
        have q7 := hR.f5
        have HRR := Lib.hid hR
        have HSM := Lib.hid hsum
        clear hR hsum
        go_wp2
        exact cut_done HRR.out (by have h2 := HRR.out.le; have h3 := HSM.out; omega) HSL.out rfl rfl
      · have hgt : (0 : Int) < (nb : Int) := by omega
        have HRR := Lib.hid hR
        have HSM := Lib.hid hsum
        clear hR hsum
        go_wp2
        exact cut_caught (by have h2 := HRR.out.le; have h3 := HSM.out; omega) HRR.out.c4 HRR.out.f4 HRR.out.c5 HRR.out.f5 HRR.out.size HRR.out.below (by decide) rfl rfl
end Go.Proofs.Sl

/- octet.Get and the document's Get: the number that bytes are. -/
namespace Go.Proofs.Sl
open Go.RowKit Go.Proofs

theorem getBE_snoc (l : List UInt8) (c : UInt8) : getBE (l ++ [c]) = getBE l * 256 + c.toNat := by simp [getBE]
theorem getBE_from (l : List UInt8) : ∀ v : Nat, l.foldl (fun v c => v * 256 + c.toNat) v < (v + 1) * 256 ^ l.length := by
  induction l with
  | nil => intro v; simp
  | cons c l ih =>
    intro v
    have h := ih (v * 256 + c.toNat)
    have hc := c.toNat_lt
    simp only [List.foldl_cons, List.length_cons, Nat.pow_succ]
    refine Nat.lt_of_lt_of_le h ?_
    have : (v * 256 + c.toNat + 1) ≤ (v + 1) * 256 := by omega
    calc (v * 256 + c.toNat + 1) * 256 ^ l.length ≤ ((v + 1) * 256) * 256 ^ l.length := Nat.mul_le_mul_right _ this
      _ = (v + 1) * (256 ^ l.length * 256) := by rw [Nat.mul_assoc, Nat.mul_comm 256]
theorem getBE_lt (l : List UInt8) : getBE l < 256 ^ l.length := by
  have := getBE_from l 0
  simpa [getBE] using this
theorem getBE_take (l : List UInt8) (k : Nat) (h : k < l.length) : getBE (l.take (k + 1)) = getBE (l.take k) * 256 + (l[k]).toNat := by
  rw [List.take_succ_eq_append_getElem h, getBE_snoc]
theorem getBE_take_lt (l : List UInt8) (k : Nat) (h : k < l.length) (h8 : l.length ≤ 8) : getBE (l.take k) < 72057594037927936 := by
  have h1 := getBE_lt (l.take k)
  rw [List.length_take_of_le (by omega)] at h1
  have h2 : 256 ^ k ≤ 256 ^ 7 := Nat.pow_le_pow_right (by omega) (by omega)
  omega


theorem shl8_or (v c : Nat) (hv : v < 72057594037927936) (hc : c < 256) : bits .or .u64 ((v : Int) * 256) (c : Int) = ((v * 256 + c : Nat) : Int) := by
  have h := bits_or_u64_nat (v * 256) c (by omega) (by omega)
  have e : ((v * 256 : Nat) : Int) = (v : Int) * 256 := by omega
  rw [e] at h
  rw [h]
  congr 1
  have := Nat.shiftLeft_add_eq_or_of_lt (b := c) (i := 8) (by simpa using hc) v
  rw [Nat.shiftLeft_eq] at this
  exact this.symm

set_option maxHeartbeats 400000 in
theorem get_any (A : Option Addr) (n c : Nat) (l : List UInt8) (w : World) (h : Rd eB w A n l) (h8 : n ≤ 8) :
    Calls Tryz.prog 50 #[.slice A n c] w fun e w' => e = .returned (.tuple #[.int .u64 (getBE l : Nat), .bool true]) ∧ w = w' := by
  obtain rfl := h.len
  go_enter Tryz.func50, Tryz.ntmps50
  go_wp2
  go_loop [4, 6, 12] (fun v _ i => ∃ k : Nat, k ≤ l.length ∧ i = .int .i64 k ∧ v = .int .u64 (getBE (l.take k) : Nat)) (fun _ _ i => l.length - (intOf i).toNat)
  case atStart => exact ⟨0, Nat.zero_le _, rfl, rfl⟩
  case round =>
    obtain ⟨k, hk, rfl, rfl⟩ := hrel
    by_cases hlt : k < l.length
    · obtain ⟨ad, rfl, hc⟩ := h.at k hlt
      have hb := getBE_take_lt l k hlt h8
      have hx := l[k].toNat_lt
      have hs := getBE_take l k hlt
      have ho := shl8_or _ _ hb hx
      have HS := Lib.hid hs
      have HO := Lib.hid ho
      clear hs ho
      go_wp2
      go_round
      case rel => exact ⟨k + 1, by omega, by go_num, by rw [HO.out, HS.out]⟩
      case measure => simp [intOf]; omega
    · have hk' : k = l.length := by omega
      subst hk'
      go_wp2
      go_ret2
      exact ⟨by simp, rfl⟩
end Go.Proofs.Sl

/- slh: a sum at a leaf's place; what is gone up; of each chain something. -/
namespace Go.Proofs.Sl
open Go.RowKit Go.Proofs

def vSpot (f : Few) (A : Option Addr) (n c layer tree q : Nat) : Value :=
  .agg #[.int .i64 (f.N : Int), .int .i64 (f.L : Int), .int .i64 (f.H : Int), .int .i64 (f.K : Int), .int .i64 (f.A : Int), .slice A n c, .int .u32 (layer : Int), .int .u64 (tree : Int), .int .u32 (q : Int)]

/-- What a place stands on: the seed, the tables. -/
structure SG (f : Few) (A : Option Addr) (n : Nat) (seed : List UInt8) (layer tree : Nat) (w : World) : Prop where
  laid : Laid w
  ok : FewOk f
  rs : Rd eB w A n seed
  seedL : seed.length = f.N
  layer : layer < 4294967296
  tree : W64 tree
theorem SG.below {f : Few} {A : Option Addr} {n : Nat} {seed : List UInt8} {layer tree : Nat} {w w' : World} (h : SG f A n seed layer tree w) (hb : Below w.heap.size w w') : SG f A n seed layer tree w' :=
  ⟨h.laid.below hb, h.ok, h.rs.below hb, h.seedL, h.layer, h.tree⟩
def RetRd {α : Type} (enc : α → Value) (w : World) (l : List α) (e : Ending) (w' : World) : Prop :=
  ∃ A n c, e = .returned (.slice A n c) ∧ Rd enc w' A n l ∧ Grow w w'

set_option maxHeartbeats 2000000 in
theorem stweak_any (f : Few) (A At : Option Addr) (n c nt ct : Nat) (seed text : List UInt8) (layer tree q kind i j : Nat) (w : World) (hG : SG f A n seed layer tree w) (hq : q < 4294967296) (hkd : kind < 4294967296) (hi : i < 4294967296) (hj : j < 4294967296) (ht : Rd eB w At nt text) (htl : text.length ≤ 65536) :
    Calls Tryz.prog 70 #[vSpot f A n c layer tree q, .int .u32 (kind : Int), .int .u32 (i : Int), .int .u32 (j : Int), .slice At nt ct] w (RetOwn eB w (tweakL f.N seed ⟨layer, tree, kind, q, i, j⟩ text)) := by
  have HG := Lib.hid hG
  have HT := Lib.hid ht
  have HQ := Lib.hid (And.intro hq (And.intro hkd (And.intro hi hj)))
  clear hG ht hq hkd hi hj
  unfold vSpot
  go_enter Tryz.func70, Tryz.ntmps70
  go_wp2_with fail
  have hb : Below w.heap.size w ((w.alloc (.cells #[.int .i64 (f.N : Int), .int .i64 (f.L : Int), .int .i64 (f.H : Int), .int .i64 (f.K : Int), .int .i64 (f.A : Int), .slice A n c, .int .u32 (layer : Int), .int .u64 (tree : Int), .int .u32 (q : Int)] 58)).alloc (.cells #[.int .u32 (layer : Int), .int .u64 (tree : Int), .int .u32 (kind : Int), .int .u32 (q : Int), .int .u32 (i : Int), .int .u32 (j : Int)] 64)) := ((Below.refl _ w).alloc (Nat.le_refl _) _).alloc (by simp) _
  have HC := Lib.hid (tweak_any f.N A At n c nt ct seed text ⟨layer, tree, kind, q, i, j⟩ _ (HG.out.laid.below hb) HG.out.ok.N (HG.out.rs.below hb) HG.out.seedL (HT.out.below hb) htl ⟨HG.out.layer, HG.out.tree, HQ.out.2.1, HQ.out.1, HQ.out.2.2.1, HQ.out.2.2.2⟩)
  unfold vAd at HC
  refine HC.out.mono ?_
  rintro e w1 ⟨A1, n1, c1, rfl, h1, h2⟩
  have h1' := h1.mono hb.size
  have h2' : Below w.heap.size w w1 := Grow.trans _ _ _ hb h2
  clear h1 h2 hb HC
  go_wp2
  go_ret
  exact ⟨_, _, _, rfl, h1', h2'⟩

theorem upL_length (N : Nat) (seed : List UInt8) (layer tree q i fr : Nat) (x : List UInt8) (hx : x.length = N) (hN : N ≤ 136) : ∀ n, (upL N seed layer tree q i fr x n).length = N
  | 0 => hx
  | _ + 1 => tweakL_length _ _ _ _ hN

set_option maxHeartbeats 2000000 in
theorem up_any (f : Few) (A Ax : Option Addr) (n c nx cx : Nat) (seed x : List UInt8) (layer tree q i fr ub : Nat) (w : World) (hG : SG f A n seed layer tree w) (hq : q < 4294967296) (hi : i ≤ 1000) (hft : fr ≤ ub) (hto : ub ≤ 1000) (hx : Rd eB w Ax nx x) (hxl : x.length = f.N) :
    Calls Tryz.prog 69 #[vSpot f A n c layer tree q, .int .i64 (i : Int), .int .i64 (fr : Int), .int .i64 (ub : Int), .slice Ax nx cx] w (RetRd eB w (upL f.N seed layer tree q i fr x (ub - fr))) := by
  have HG := Lib.hid hG
  have HX := Lib.hid hx
  have HQ := Lib.hid hq
  have hN := hG.ok.N.le'
  have HXL := Lib.hid hxl
  clear hG hx hq hxl
  unfold vSpot
  go_enter Tryz.func69, Tryz.ntmps69
  go_wp2
  generalize hW0 : World.alloc w _ = W0
  have hb0 : Grow w W0 := by rw [← hW0]; exact (Below.refl _ _).alloc (Nat.le_refl _) _
  have k0 : W0.cell? ⟨w.heap.size, 0, none⟩ = some (.int .i64 (f.N : Int)) := by subst hW0; go_simp
  have k1 : W0.cell? ⟨w.heap.size, 1, none⟩ = some (.int .i64 (f.L : Int)) := by subst hW0; go_simp
  have k2 : W0.cell? ⟨w.heap.size, 2, none⟩ = some (.int .i64 (f.H : Int)) := by subst hW0; go_simp
  have k3 : W0.cell? ⟨w.heap.size, 3, none⟩ = some (.int .i64 (f.K : Int)) := by subst hW0; go_simp
  have k4 : W0.cell? ⟨w.heap.size, 4, none⟩ = some (.int .i64 (f.A : Int)) := by subst hW0; go_simp
  have k5 : W0.cell? ⟨w.heap.size, 5, none⟩ = some (.slice A n c) := by subst hW0; go_simp
  have k6 : W0.cell? ⟨w.heap.size, 6, none⟩ = some (.int .u32 (layer : Int)) := by subst hW0; go_simp
  have k7 : W0.cell? ⟨w.heap.size, 7, none⟩ = some (.int .u64 (tree : Int)) := by subst hW0; go_simp
  have k8 : W0.cell? ⟨w.heap.size, 8, none⟩ = some (.int .u32 (q : Int)) := by subst hW0; go_simp
  clear hW0
  have HX0 := Lib.hid (HX.out.below hb0)
  go_loopw [4, 11] (fun v g wr => ∃ (k : Nat) (Ak : Option Addr) (nk ck : Nat), k ≤ ub - fr ∧ g = .int .i64 ((fr : Int) + (k : Int)) ∧ v = .slice Ak nk ck ∧ Rd eB wr Ak nk (upL f.N seed layer tree q i fr x k) ∧ Grow W0 wr) (fun _ g _ => ub - (intOf g).toNat)
  case atStart => exact ⟨0, Ax, nx, cx, Nat.zero_le _, by simp, rfl, HX0.out, Grow.refl _⟩
  case round =>
    obtain ⟨k, Ak, nk, ck, hk, rfl, rfl, ho, hg⟩ := hrel
    have HO := Lib.hid ho
    have HGR := Lib.hid hg
    have HGW := Lib.hid (hb0.trans _ _ _ hg)
    by_cases hlt : k < ub - fr
    · have d0 := cell_old hg k0; have d1 := cell_old hg k1; have d2 := cell_old hg k2; have d3 := cell_old hg k3; have d4 := cell_old hg k4; have d5 := cell_old hg k5; have d6 := cell_old hg k6; have d7 := cell_old hg k7; have d8 := cell_old hg k8
      have e1 : (i : Int) % 4294967296 = (i : Int) := by omega
      have e2 : ((fr : Int) + (k : Int)) % 4294967296 = (fr : Int) + (k : Int) := by omega
      have HC := Lib.hid (stweak_any f A Ak n c nk ck seed (upL f.N seed layer tree q i fr x k) layer tree q 0 i (fr + k) wr (HG.out.below HGW.out) HQ.out (by omega) (by omega) (by omega) HO.out (by rw [upL_length _ _ _ _ _ _ _ _ HXL.out (by omega)]; omega))
      unfold vSpot at HC
      rw [show ((fr + k : Nat) : Int) = (fr : Int) + (k : Int) by omega] at HC
      clear ho hg k0 k1 k2 k3 k4 k5 k6 k7 k8
      go_wp2_with fail
      refine HC.out.mono ?_
      rintro e w3 ⟨A3, n3, c3, rfl, h5, h6⟩
      have H5 := Lib.hid h5.rd
      have H6 := Lib.hid (HGR.out.trans _ _ _ h6)
      clear HC h5 h6 d0 d1 d2 d3 d4 d5 d6 d7 d8
      go_wp2
      go_roundw
      case rel => exact ⟨k + 1, A3, n3, c3, by omega, by go_num, rfl, H5.out, H6.out⟩
      case measure => simp [intOf]; omega
    · obtain rfl : k = ub - fr := by omega
      clear ho hg k0 k1 k2 k3 k4 k5 k6 k7 k8
      go_wp2
      go_ret
      exact ⟨_, _, _, rfl, HO.out, HGW.out⟩
end Go.Proofs.Sl

/- slh: of each chain something, one behind the other. -/
namespace Go.Proofs.Sl
open Go.RowKit Go.Proofs

theorem flat_len_r (h : Nat → List UInt8) (N : Nat) : ∀ k, (∀ i, i < k → (h i).length = N) → ((List.range k).flatMap h).length = k * N
  | 0, _ => by simp
  | k + 1, hh => by
    rw [List.range_succ, List.flatMap_append, List.length_append, flat_len_r h N k (fun i hi => hh i (by omega))]
    simp [hh k (by omega), Nat.succ_mul]
theorem range_flat' (k : Nat) (g : Nat → List UInt8) : (List.range (k + 1)).flatMap g = (List.range k).flatMap g ++ g k := by
  rw [List.range_succ, List.flatMap_append]; simp

set_option maxHeartbeats 2000000 in
theorem all_sum (f : Few) (A : Option Addr) (n c layer tree q B0 B1 : Nat) (h : Nat → List UInt8) (hh : ∀ i, i < chainsL f.N → (h i).length = f.N) (w : World) (hok : FewOk f)
    (hfun : ∀ (i : Nat) (W : World), i < chainsL f.N → Grow w W → Calls Tryz.prog 105 #[.int .i64 (i : Int), .pointer (some ⟨B0, 0, none⟩), .pointer (some ⟨B1, 0, none⟩)] W (RetRd eB W (h i))) :
    Calls Tryz.prog 67 #[vSpot f A n c layer tree q, .func (.func 105) #[] #[.pointer (some ⟨B0, 0, none⟩), .pointer (some ⟨B1, 0, none⟩)]] w (RetOwn eB w ((List.range (chainsL f.N)).flatMap h)) := by
  have HO0 := Lib.hid hok
  have HFN := Lib.hid hfun
  have HH := Lib.hid hh
  have hN := hok.N.le'
  have hch : chainsL f.N ≤ 67 := by unfold chainsL; omega
  clear hok hfun hh
  unfold vSpot
  go_enter Tryz.func67, Tryz.ntmps67
  go_wp2_with fail
  have hb0 : Grow w (w.alloc (.cells #[.int .i64 (f.N : Int), .int .i64 (f.L : Int), .int .i64 (f.H : Int), .int .i64 (f.K : Int), .int .i64 (f.A : Int), .slice A n c, .int .u32 (layer : Int), .int .u64 (tree : Int), .int .u32 (q : Int)] 58)) := (Below.refl _ _).alloc (Nat.le_refl _) _
  have HC := Lib.hid (chains_any f HO0.out (w.alloc (.cells #[.int .i64 (f.N : Int), .int .i64 (f.L : Int), .int .i64 (f.H : Int), .int .i64 (f.K : Int), .int .i64 (f.A : Int), .slice A n c, .int .u32 (layer : Int), .int .u64 (tree : Int), .int .u32 (q : Int)] 58)))
  unfold vFew at HC
  refine HC.out.mono ?_
  rintro e w1 ⟨rfl, g1⟩
  have gg := hb0.trans _ _ _ g1
  clear hb0 g1 HC
  generalize hcn : chainsL f.N = ch at *
  go_wp2
  go_loopw [5, 10] (fun v i wr => ∃ (k : Nat) (A : Option Addr) (c : Nat), k ≤ ch ∧ i = .int .i64 (k : Int) ∧ v = .slice A (k * f.N) c ∧ Own eB w1.heap.size wr A (k * f.N) c ((List.range k).flatMap h) ∧ Grow w1 wr) (fun _ i _ => ch - (intOf i).toNat)
  case atStart => exact ⟨0, none, 0, Nat.zero_le _, rfl, by simp, by simpa using Own.nil _ _, Grow.refl _⟩
  case round =>
    obtain ⟨k, A, c, hk, rfl, rfl, ho, hg⟩ := hrel
    have hkN : k * f.N ≤ 2144 := Nat.le_trans (Nat.mul_le_mul (Nat.le_trans hk hch) hN) (by omega)
    have HO := Lib.hid ho
    have HG := Lib.hid hg
    by_cases hlt : k < ch
    · have HC := Lib.hid (HFN.out k wr hlt (gg.trans _ _ _ hg))
      have hfl := Lib.hid (HH.out k hlt)
      clear ho hg
      go_wp2_with fail
      refine HC.out.mono ?_
      rintro e w4 ⟨A', n', c', rfl, h5, h6⟩
      obtain rfl : f.N = n' := by rw [← h5.len]; exact hfl.out.symm
      have HO2 := Lib.hid (HO.out.below h6)
      have H5 := Lib.hid h5
      have H6 := Lib.hid (HG.out.trans _ _ _ h6)
      have hsz : w1.heap.size ≤ w4.heap.size := Nat.le_trans HG.out.size h6.size
      clear HC h5 h6
      go_wp2_with (at_builtin; refine wpList_append_sl rfl _ _ 24 5 (.int .u8 0) 1 rfl Tryz.underlying24 infoB rfl (fun _ => rfl) rfl rfl HO2.out H5.out (by omega) (by omega) hsz ?_; intro A' c' w' h3 h4 h5; have H3 := Lib.hid h3; have H8 := Lib.hid (Below.trans H6.out h5); clear h3 h4 h5)
      go_roundw
      case rel => exact ⟨k + 1, A', c', by omega, by go_num, by rw [Nat.succ_mul], by rw [Nat.succ_mul, range_flat']; exact H3.out, H8.out⟩
      case measure => simp [intOf]; omega
    · obtain rfl : k = ch := by omega
      have hB := gg.trans _ _ _ hg
      have hsz := gg.size
      clear hg gg ho
      go_wp2
      go_ret
      exact ⟨_, _, _, rfl, HO.out.mono hsz, hB⟩

set_option maxHeartbeats 2000000 in
theorem all_sign (f : Few) (A : Option Addr) (n c layer tree q B0 B1 B2 : Nat) (h : Nat → List UInt8) (hh : ∀ i, i < chainsL f.N → (h i).length = f.N) (w : World) (hok : FewOk f)
    (hfun : ∀ (i : Nat) (W : World), i < chainsL f.N → Grow w W → Calls Tryz.prog 68 #[.int .i64 (i : Int), .pointer (some ⟨B0, 0, none⟩), .pointer (some ⟨B1, 0, none⟩), .pointer (some ⟨B2, 0, none⟩)] W (RetRd eB W (h i))) :
    Calls Tryz.prog 67 #[vSpot f A n c layer tree q, .func (.func 68) #[] #[.pointer (some ⟨B0, 0, none⟩), .pointer (some ⟨B1, 0, none⟩), .pointer (some ⟨B2, 0, none⟩)]] w (RetOwn eB w ((List.range (chainsL f.N)).flatMap h)) := by
  have HO0 := Lib.hid hok
  have HFN := Lib.hid hfun
  have HH := Lib.hid hh
  have hN := hok.N.le'
  have hch : chainsL f.N ≤ 67 := by unfold chainsL; omega
  clear hok hfun hh
  unfold vSpot
  go_enter Tryz.func67, Tryz.ntmps67
  go_wp2_with fail
  have hb0 : Grow w (w.alloc (.cells #[.int .i64 (f.N : Int), .int .i64 (f.L : Int), .int .i64 (f.H : Int), .int .i64 (f.K : Int), .int .i64 (f.A : Int), .slice A n c, .int .u32 (layer : Int), .int .u64 (tree : Int), .int .u32 (q : Int)] 58)) := (Below.refl _ _).alloc (Nat.le_refl _) _
  have HC := Lib.hid (chains_any f HO0.out (w.alloc (.cells #[.int .i64 (f.N : Int), .int .i64 (f.L : Int), .int .i64 (f.H : Int), .int .i64 (f.K : Int), .int .i64 (f.A : Int), .slice A n c, .int .u32 (layer : Int), .int .u64 (tree : Int), .int .u32 (q : Int)] 58)))
  unfold vFew at HC
  refine HC.out.mono ?_
  rintro e w1 ⟨rfl, g1⟩
  have gg := hb0.trans _ _ _ g1
  clear hb0 g1 HC
  generalize hcn : chainsL f.N = ch at *
  go_wp2
  go_loopw [5, 10] (fun v i wr => ∃ (k : Nat) (A : Option Addr) (c : Nat), k ≤ ch ∧ i = .int .i64 (k : Int) ∧ v = .slice A (k * f.N) c ∧ Own eB w1.heap.size wr A (k * f.N) c ((List.range k).flatMap h) ∧ Grow w1 wr) (fun _ i _ => ch - (intOf i).toNat)
  case atStart => exact ⟨0, none, 0, Nat.zero_le _, rfl, by simp, by simpa using Own.nil _ _, Grow.refl _⟩
  case round =>
    obtain ⟨k, A, c, hk, rfl, rfl, ho, hg⟩ := hrel
    have hkN : k * f.N ≤ 2144 := Nat.le_trans (Nat.mul_le_mul (Nat.le_trans hk hch) hN) (by omega)
    have HO := Lib.hid ho
    have HG := Lib.hid hg
    by_cases hlt : k < ch
    · have HC := Lib.hid (HFN.out k wr hlt (gg.trans _ _ _ hg))
      have hfl := Lib.hid (HH.out k hlt)
      clear ho hg
      go_wp2_with fail
      refine HC.out.mono ?_
      rintro e w4 ⟨A', n', c', rfl, h5, h6⟩
      obtain rfl : f.N = n' := by rw [← h5.len]; exact hfl.out.symm
      have HO2 := Lib.hid (HO.out.below h6)
      have H5 := Lib.hid h5
      have H6 := Lib.hid (HG.out.trans _ _ _ h6)
      have hsz : w1.heap.size ≤ w4.heap.size := Nat.le_trans HG.out.size h6.size
      clear HC h5 h6
      go_wp2_with (at_builtin; refine wpList_append_sl rfl _ _ 24 5 (.int .u8 0) 1 rfl Tryz.underlying24 infoB rfl (fun _ => rfl) rfl rfl HO2.out H5.out (by omega) (by omega) hsz ?_; intro A' c' w' h3 h4 h5; have H3 := Lib.hid h3; have H8 := Lib.hid (Below.trans H6.out h5); clear h3 h4 h5)
      go_roundw
      case rel => exact ⟨k + 1, A', c', by omega, by go_num, by rw [Nat.succ_mul], by rw [Nat.succ_mul, range_flat']; exact H3.out, H8.out⟩
      case measure => simp [intOf]; omega
    · obtain rfl : k = ch := by omega
      have hB := gg.trans _ _ _ hg
      have hsz := gg.size
      clear hg gg ho
      go_wp2
      go_ret
      exact ⟨_, _, _, rfl, HO.out.mono hsz, hB⟩

set_option maxHeartbeats 2000000 in
theorem all_leads (f : Few) (A : Option Addr) (n c layer tree q B0 B1 B2 B3 : Nat) (h : Nat → List UInt8) (hh : ∀ i, i < chainsL f.N → (h i).length = f.N) (w : World) (hok : FewOk f)
    (hfun : ∀ (i : Nat) (W : World), i < chainsL f.N → Grow w W → Calls Tryz.prog 90 #[.int .i64 (i : Int), .pointer (some ⟨B0, 0, none⟩), .pointer (some ⟨B1, 0, none⟩), .pointer (some ⟨B2, 0, none⟩), .pointer (some ⟨B3, 0, none⟩)] W (RetRd eB W (h i))) :
    Calls Tryz.prog 67 #[vSpot f A n c layer tree q, .func (.func 90) #[] #[.pointer (some ⟨B0, 0, none⟩), .pointer (some ⟨B1, 0, none⟩), .pointer (some ⟨B2, 0, none⟩), .pointer (some ⟨B3, 0, none⟩)]] w (RetOwn eB w ((List.range (chainsL f.N)).flatMap h)) := by
  have HO0 := Lib.hid hok
  have HFN := Lib.hid hfun
  have HH := Lib.hid hh
  have hN := hok.N.le'
  have hch : chainsL f.N ≤ 67 := by unfold chainsL; omega
  clear hok hfun hh
  unfold vSpot
  go_enter Tryz.func67, Tryz.ntmps67
  go_wp2_with fail
  have hb0 : Grow w (w.alloc (.cells #[.int .i64 (f.N : Int), .int .i64 (f.L : Int), .int .i64 (f.H : Int), .int .i64 (f.K : Int), .int .i64 (f.A : Int), .slice A n c, .int .u32 (layer : Int), .int .u64 (tree : Int), .int .u32 (q : Int)] 58)) := (Below.refl _ _).alloc (Nat.le_refl _) _
  have HC := Lib.hid (chains_any f HO0.out (w.alloc (.cells #[.int .i64 (f.N : Int), .int .i64 (f.L : Int), .int .i64 (f.H : Int), .int .i64 (f.K : Int), .int .i64 (f.A : Int), .slice A n c, .int .u32 (layer : Int), .int .u64 (tree : Int), .int .u32 (q : Int)] 58)))
  unfold vFew at HC
  refine HC.out.mono ?_
  rintro e w1 ⟨rfl, g1⟩
  have gg := hb0.trans _ _ _ g1
  clear hb0 g1 HC
  generalize hcn : chainsL f.N = ch at *
  go_wp2
  go_loopw [5, 10] (fun v i wr => ∃ (k : Nat) (A : Option Addr) (c : Nat), k ≤ ch ∧ i = .int .i64 (k : Int) ∧ v = .slice A (k * f.N) c ∧ Own eB w1.heap.size wr A (k * f.N) c ((List.range k).flatMap h) ∧ Grow w1 wr) (fun _ i _ => ch - (intOf i).toNat)
  case atStart => exact ⟨0, none, 0, Nat.zero_le _, rfl, by simp, by simpa using Own.nil _ _, Grow.refl _⟩
  case round =>
    obtain ⟨k, A, c, hk, rfl, rfl, ho, hg⟩ := hrel
    have hkN : k * f.N ≤ 2144 := Nat.le_trans (Nat.mul_le_mul (Nat.le_trans hk hch) hN) (by omega)
    have HO := Lib.hid ho
    have HG := Lib.hid hg
    by_cases hlt : k < ch
    · have HC := Lib.hid (HFN.out k wr hlt (gg.trans _ _ _ hg))
      have hfl := Lib.hid (HH.out k hlt)
      clear ho hg
      go_wp2_with fail
      refine HC.out.mono ?_
      rintro e w4 ⟨A', n', c', rfl, h5, h6⟩
      obtain rfl : f.N = n' := by rw [← h5.len]; exact hfl.out.symm
      have HO2 := Lib.hid (HO.out.below h6)
      have H5 := Lib.hid h5
      have H6 := Lib.hid (HG.out.trans _ _ _ h6)
      have hsz : w1.heap.size ≤ w4.heap.size := Nat.le_trans HG.out.size h6.size
      clear HC h5 h6
      go_wp2_with (at_builtin; refine wpList_append_sl rfl _ _ 24 5 (.int .u8 0) 1 rfl Tryz.underlying24 infoB rfl (fun _ => rfl) rfl rfl HO2.out H5.out (by omega) (by omega) hsz ?_; intro A' c' w' h3 h4 h5; have H3 := Lib.hid h3; have H8 := Lib.hid (Below.trans H6.out h5); clear h3 h4 h5)
      go_roundw
      case rel => exact ⟨k + 1, A', c', by omega, by go_num, by rw [Nat.succ_mul], by rw [Nat.succ_mul, range_flat']; exact H3.out, H8.out⟩
      case measure => simp [intOf]; omega
    · obtain rfl : k = ch := by omega
      have hB := gg.trans _ _ _ hg
      have hsz := gg.size
      clear hg gg ho
      go_wp2
      go_ret
      exact ⟨_, _, _, rfl, HO.out.mono hsz, hB⟩

end Go.Proofs.Sl
