/- shake: the next bytes; the first bytes of what a text gives. The document's round of Keccak, as plain lists: what lies in its arrays between two steps of its loops. -/
import Derived.Test.YtipedpkkabfdjaaGreatDoorFits06
import Derived.Test.YtipedpkkabfdjaaGreatDoorFits05
/- shake: the next bytes; the first bytes of what a text gives. -/
namespace Go.Proofs.Sl
open Go Go.RowKit Go.Proofs

section
variable {P : Program} {α : Type} {enc : α → Value} {B : Nat} {w : World} {A A2 : Option Addr} {n m c c2 : Nat} {l l2 : List α}
/-- Where there is room, what is appended lies in the same row. -/
theorem run_append_room (t ty e : TypeId) (z : Value) (bytes : Nat) (ht : P.underlying t = some (.slice e)) (hinfo : (P.info? e).map (fun i => (i.zero, i.size, i.bytes)) = some (some z, 1, bytes)) (_hzs : z.cells.size = 1)
    (ho : Own enc B w A n c l) (hr : Rd enc w A2 m l2) (henc : ∀ x, (enc x).oneCell' = true) (hnm : n + m ≤ 140737488355328) (hroom : n + m ≤ c) :
    ∃ w', (Builtin.append_ #[t, t] ty #[.slice A n c, .slice A2 m c2]).run P w = .ok (.slice A (n + m) c) w' ∧ Own enc B w' A (n + m) c (l ++ l2) ∧ w.grownBy w' (A.map (·.block)) := by
  obtain ⟨i, hi, hzz⟩ := Option.map_eq_some_iff.1 hinfo
  simp only [Prod.mk.injEq] at hzz
  obtain ⟨hz, hsz, hbyt⟩ := hzz
  have hl2 : (l2.map enc).length = m * i.size := by rw [List.length_map, hr.len, hsz, Nat.mul_one]
  have hnews : (Builtin.firstCells 1 m (.slice A2 m c2)).run P w = .ok (l2.map enc).toArray w := by
    cases A2 with
    | none =>
      have : l2 = [] := by
        cases l2 with
        | nil => rfl
        | cons x r => obtain ⟨ad, e, _⟩ := hr.cell 0 (by simp); cases e
      subst this
      rw [run_firstCells_none]; rfl
    | some ad =>
      have := run_firstCells_some (P := P) w 1 m ad m c2 (l2.map enc) (by rw [hl2, hsz]) (hr.news rfl)
      exact this
  rcases ho.at_ with ⟨rfl, hc0⟩ | ⟨g, rfl, hg1, hg2, hg3, hg4, hg5⟩
  · have hm0 : m = 0 := by omega
    have hn0 : n = 0 := by omega
    subst hm0 hn0
    have hl0 : l = [] := List.eq_nil_of_length_eq_zero ho.len
    have hl20 : l2 = [] := List.eq_nil_of_length_eq_zero hr.len
    subst hl0 hl20
    refine ⟨w, ?_, ho, ⟨rfl, rfl, rfl, Nat.le_refl _, fun _ _ _ => rfl⟩⟩
    simp [Builtin.append_, run_underlying ht, sizeOf, typeInfo, hi, hsz, Builtin.lenOf, hnews]
  · obtain ⟨w', hrun, hs⟩ := run_storeCells_gen (P := P) g n (l2.map enc) 0 w (fun k hk => hg3 _ (by rw [List.length_map, hr.len] at hk; omega)) (fun k hk => hg4 _ (by rw [List.length_map, hr.len] at hk; omega))
      (fun v hv => by obtain ⟨x, _, rfl⟩ := List.mem_map.1 hv; exact henc x)
    have hln := ho.len
    have hln2 := hr.len
    refine ⟨w', ?_, ⟨by rw [List.length_append, ho.len, hr.len], hnm, hroom, ho.cm, .inr ⟨g, rfl, hg1, by rw [hs.size]; exact hg2, ?_, ?_, ?_⟩⟩, ⟨hs.os, hs.tape, hs.output, Nat.le_of_eq hs.size.symm, fun k _ hk => hs.block k (by simpa using hk)⟩⟩
    · simp [Builtin.append_, run_underlying ht, sizeOf, typeInfo, hi, hsz, Builtin.lenOf, hroom, hnews, add_zero', hrun]
    · intro x hx
      by_cases h : n ≤ x ∧ x - n < (l2.map enc).length
      · exact ⟨_, hs.inside x (by omega) (by simpa using h.2)⟩
      · rw [hs.outside x (by simp at h ⊢; omega)]
        exact hg3 x hx
    · intro x hx
      rw [hs.frozen]
      exact hg4 x hx
    · intro j hj
      by_cases h : j < l.length
      · rw [hs.outside j (by omega), List.getElem_append_left h]
        exact hg5 j h
      · have hj' : j - n < (l2.map enc).length := by rw [List.length_append] at hj; rw [List.length_map]; omega
        rw [hs.inside j (by omega) (by simpa using hj')]
        rw [List.getElem_append_right (by omega)]
        simp [hln]
theorem wpList_append_room {ops : Array Oper} {o : Oper} {a : Act} {Q : Exit → Act → World → Prop} {rest : List Oper} (hgd : o.guard = none) (s x : Operand) (t e : TypeId) (z : Value) (bytes : Nat)
    (hop : o.op = .call { callee := .builtin .append, args := #[s, x], argTypes := #[t, t] }) (ht : P.underlying t = some (.slice e)) (hinfo : (P.info? e).map (fun i => (i.zero, i.size, i.bytes)) = some (some z, 1, bytes)) (hzs : z.cells.size = 1)
    (henc : ∀ x, (enc x).oneCell' = true) (hs : a.eval s = .slice A n c) (hx : a.eval x = .slice A2 m c2) (ho : Own enc B w A n c l) (hr : Rd enc w A2 m l2) (_hby : (n + m) * bytes ≤ 140737488355328) (hnm : n + m ≤ 140737488355328) (hroom : n + m ≤ c)
    (h : ∀ w', Own enc B w' A (n + m) c (l ++ l2) → w.grownBy w' (A.map (·.block)) → wpList P ops Q rest (a.put o.dst (.slice A (n + m) c)) w') : wpList P ops Q (o :: rest) a w :=
  wpList_plain hgd fun _ hK => by
    obtain ⟨w', hrun, h1, h2⟩ := run_append_room (P := P) (c2 := c2) t o.type e z bytes ht hinfo hzs ho hr henc hnm hroom
    unfold Oper.wp execOp
    simp only [hop, resolve, invoke, builtin, Sem.run_bind, Sem.run_pure, Result.andThen_ok, List.map_toArray, List.map_cons, List.map_nil, hs, hx, hrun]
    exact hK _ _ (h w' h1 h2)
end

/-- All but row rr is as it was; what lies in rr stays. -/
structure RG (B rr n : Nat) (l : List UInt8) (W W' : World) : Prop where
  os : W'.os = W.os
  tape : W'.tape = W.tape
  output : W'.output = W.output
  size : W.heap.size ≤ W'.heap.size
  block : ∀ k, k ≠ rr → k < W.heap.size → W'.heap[k]? = W.heap[k]?
  own0 : Own eB B W (some ⟨rr, 0, none⟩) 0 n [] → Own eB B W' (some ⟨rr, 0, none⟩) 0 n []
  own : Own eB B W (some ⟨rr, 0, none⟩) n n l → Own eB B W' (some ⟨rr, 0, none⟩) n n l
theorem RG.refl {B rr n : Nat} {l : List UInt8} (W : World) : RG B rr n l W W := ⟨rfl, rfl, rfl, Nat.le_refl _, fun _ _ _ => rfl, id, id⟩
theorem RG.trans {B rr n : Nat} {l : List UInt8} {X Y Z : World} (h : RG B rr n l X Y) (k : RG B rr n l Y Z) : RG B rr n l X Z :=
  ⟨k.os.trans h.os, k.tape.trans h.tape, k.output.trans h.output, Nat.le_trans h.size k.size, fun b hb hl => (k.block b hb (Nat.lt_of_lt_of_le hl h.size)).trans (h.block b hb hl), fun o => k.own0 (h.own0 o), fun o => k.own (h.own o)⟩
theorem Own.empty {B rr n m : Nat} {l : List UInt8} {W : World} (h : Own eB B W (some ⟨rr, 0, none⟩) m n l) : Own eB B W (some ⟨rr, 0, none⟩) 0 n [] := by
  rcases h.at_ with ⟨e, _⟩ | ⟨g, e, h1, h2, h3, h4, _⟩
  · cases e
  · exact ⟨rfl, by omega, by omega, h.cm, .inr ⟨g, e, h1, h2, h3, h4, fun j hj => by simp at hj⟩⟩
theorem RG.app {B rr n : Nat} {l : List UInt8} {W W' : World} (_ho : Own eB B W (some ⟨rr, 0, none⟩) 0 n []) (hg : W.grownBy W' ((some ⟨rr, 0, none⟩ : Option Addr).map (·.block))) (h : Own eB B W' (some ⟨rr, 0, none⟩) n n l) : RG B rr n l W W' :=
  ⟨hg.os, hg.tape, hg.output, hg.size, fun k hk hl => hg.block k hl (by simpa using hk), fun _ => h.empty, fun _ => h⟩
theorem below_of_rg {B rr n : Nat} {l : List UInt8} {w W W' : World} (h : Below B w W) (hg : RG B rr n l W.drew W') (hr : B ≤ rr) (hw : B ≤ w.heap.size) : Below B w W' :=
  ⟨hg.os.trans h.os, hg.tape.trans h.drew.tape, hg.output.trans h.output, Nat.le_trans h.size hg.size, fun k hk => (hg.block k (by omega) (Nat.lt_of_lt_of_le hk (Nat.le_trans hw h.size))).trans (h.block k hk)⟩
def OutV (B rr n : Nat) (l : List UInt8) (v : Value) (w : World) : Prop := v = .slice (some ⟨rr, 0, none⟩) n n ∧ Own eB B w (some ⟨rr, 0, none⟩) n n l
theorem OutV.keep {B rr n : Nat} {l : List UInt8} (v : Value) (w w' : World) (h : OutV B rr n l v w) (g : RG B rr n l w w') : OutV B rr n l v w' := ⟨h.1, g.own h.2⟩

set_option maxHeartbeats 2000000 in
set_option maxRecDepth 20000 in
theorem read_any (B b n : Nat) (s : List UInt64) (o : List UInt8) (w : World) (h : Reader B w b s o) (ho : o.length = 136) (hn0 : 1 ≤ n) (hn : n < 136) :
    Calls Tryz.prog 59 #[.pointer (some ⟨b, 0, none⟩), .int .i64 (n : Int)] w (fun e w' => ∃ A n' c, e = .returned (.slice A n' c) ∧ Own eB B w' A n' c (o.take n) ∧ Below B w w') := by
  obtain ⟨hst, Ar, no, co, h25, hr⟩ := h
  have hno : no = 136 := by rw [← hr.len, ho]
  obtain ⟨zr, hzr⟩ : ∃ zr, madeCells #[Value.int .u8 0] n = zr := ⟨_, rfl⟩
  have hmk : ∀ W, (Instr.makeSlice 24 (.int .i64 0) (.int .i64 (n : Int))).run Tryz.prog W = .ok (.slice (some ⟨W.heap.size, 0, none⟩) 0 n) (W.alloc (.cells zr 5)) := fun W => by
    obtain ⟨i, hi, hzz⟩ := Option.map_eq_some_iff.1 infoB
    simp only [Prod.mk.injEq] at hzz
    obtain ⟨hz, hs, hb⟩ := hzz
    have := run_make (P := Tryz.prog) (w := W) 24 5 i (.int .u8 0) Tryz.underlying24 hi hz .i64 .i64 0 (n : Int) (by omega) (by omega) (by rw [hb]; omega) (by omega)
    rw [this, hs]
    simp only [Int.toNat_natCast, Nat.mul_one, Int.toNat_zero]
    rw [← hzr]; rfl
  have hzs : ∀ i, i < n → ∃ v, zr[i]? = some v := fun i hi => by
    rw [← hzr, made_replicate]; exact ⟨.int .u8 0, by simp [hi]⟩
  have HR := Lib.hid hr
  have HS := Lib.hid hst
  have HZ := Lib.hid hzs
  have f25 := own26_free hst
  subst hno
  clear hst hr hzr hzs ho
  go_enter Tryz.func59, Tryz.ntmps59
  go_wp2
  have hB1 : B ≤ b ∧ b < w.heap.size := HS.out.base
  have hO : Own eB B (w.alloc (.cells zr 5)) (some ⟨w.heap.size, 0, none⟩) 0 n [] := ⟨rfl, by omega, by omega, by simp only [maxLen]; omega, .inr ⟨_, rfl, by omega, by simp, fun i hi => by rw [cell_new]; exact HZ.out i hi, fun i _ => frozen_new .., fun j hj => by simp at hj⟩⟩
  have hA0 : Below w.heap.size w (w.alloc (.cells zr 5)) := (Below.refl _ _).alloc (Nat.le_refl _) _
  have q25 := cell_old hA0 h25
  have g25 : (w.alloc (.cells zr 5)).frozen? ⟨b, 25, none⟩ = false := (World.frozen?_of_block (w := w) (a := ⟨b, 25, none⟩) (hA0.block _ hB1.2)).trans f25
  have hRR := HR.out.below hA0
  have hR2 := HR.out
  have hBB : Below B w (w.alloc (.cells zr 5)) := hA0.mono (by omega)
  obtain ⟨rr, hrr⟩ : ∃ rr, w.heap.size = rr := ⟨_, rfl⟩
  have hrn : ∀ g, Ar = some ⟨g, 0, none⟩ → g ≠ rr := fun g hg => by
    have := hR2.lt g hg (by have := hR2.nc; omega)
    omega
  rw [hrr] at hO hB1 ⊢
  clear hA0 h25 f25 hR2
  generalize World.alloc w _ = W0 at *
  have HQ : Hid (∀ W, RG B rr n (o.take n) W0.drew W → W.cell? ⟨b, 25, none⟩ = some (.slice Ar 136 co)) := Lib.hid fun W hg =>
    (World.cell?_of_block (w := W0.drew) (a := ⟨b, 25, none⟩) (hg.block b (by omega) (World.block_lt_of_cell? W0 _ q25))).trans q25
  have HQF : Hid (∀ W, RG B rr n (o.take n) W0.drew W → W.frozen? ⟨b, 25, none⟩ = false) := Lib.hid fun W hg =>
    (World.frozen?_of_block (w := W0.drew) (a := ⟨b, 25, none⟩) (hg.block b (by omega) (World.block_lt_of_cell? W0 _ q25))).trans g25
  have HW : Hid (∀ W, RG B rr n (o.take n) W0.drew W → Own eB B W (some ⟨rr, 0, none⟩) 0 n [] ∧ Rd eB W Ar n (o.take n)) := Lib.hid fun W hg =>
    ⟨hg.own0 hO.drew, ((hRR.drew.same hg.size fun g hA => hg.block g (hrn g hA) (by have := hRR.lt g hA (by have := hRR.nc; omega); exact this.2)).rd).take n (by omega)⟩
  have HBB := Lib.hid hBB
  have HHB := Lib.hid hB1
  have hco : 136 ≤ co := hRR.nc
  have hco2 : n ≤ co := by omega
  have hco3 : ¬ co = n := by omega
  have hn136 : n ≤ 136 := by omega
  clear hO g25 hRR hBB hrn hB1
  refine wp_loop_rounds 1 ?_
  rw [rounds_succ]
  have hmin : min (n : Int) 136 = (n : Int) := by omega
  go_wp2
  clear hmin q25
  refine wp_region_rg (RG B rr n (o.take n)) 63 18 8 [[], [], [], [], [], [], [], [], [], [], [], [], [], [], [], [8], [], []]
    [.still [] (.pointer (some ⟨b, 0, none⟩)), .still [] (.slice (some ⟨rr, 0, none⟩) 0 n), .still [] (.pointer (some ⟨b, 0, none⟩)), .still [] (.pointer (some ⟨b, 0, none⟩)), .still [] (.pointer (some ⟨b, 25, none⟩)), .still [] (.slice Ar 136 co), .still [] (.int .i64 (n : Int)), .still [] (.slice Ar n co), .grow [] (OutV B rr n (o.take n)), .still [] (.pointer (some ⟨b, 0, none⟩)), .still [] (.pointer (some ⟨b, 0, none⟩)), .still [] (.pointer (some ⟨b, 25, none⟩)), .still [] (.slice Ar 136 co), .still [] (.int .i64 (n : Int)), .still [] (.slice (Option.map (fun x => x.add n) Ar) (136 - n) (co - n)), .grow [8] (OutV B rr n (o.take n)), .still [] (.pointer (some ⟨b, 0, none⟩)), .still [] (.pointer (some ⟨b, 25, none⟩))] (by kernel_rfl) (by kernel_rfl) rfl rfl rfl (fun _ _ _ => RG.trans) (RG.refl _) ?_
  iterate 5
    refine Obl.still (fun W hg _ => ?_) ?_
    · clear hg
      go_wp2
      exact ⟨rfl, rfl, rfl, RG.refl _⟩
    simp only [Act.put, List.setIfInBounds_toArray, List.set_cons_zero, List.set_cons_succ]
  refine Obl.still (fun W hg _ => ?_) ?_
  · have c25 := HQ.out W hg
    clear hg
    go_wp2
    exact ⟨rfl, rfl, rfl, RG.refl _⟩
  simp only [Act.put, List.setIfInBounds_toArray, List.set_cons_zero, List.set_cons_succ]
  iterate 2
    refine Obl.still (fun W hg _ => ?_) ?_
    · clear hg
      go_wp2
      exact ⟨rfl, rfl, rfl, RG.refl _⟩
    simp only [Act.put, List.setIfInBounds_toArray, List.set_cons_zero, List.set_cons_succ]
  refine Obl.grow (OutV.keep) (fun W hg _ => ?_) (fun v8 => ?_)
  · have hO := (HW.out W hg).1
    have hX := (HW.out W hg).2
    have HO := Lib.hid hO
    have HX := Lib.hid hX
    clear hg hO hX
    go_wp2_with (at_builtin; refine wpList_append_room rfl _ _ 24 5 (.int .u8 0) 1 rfl Tryz.underlying24 infoB rfl (fun _ => rfl) rfl rfl HO.out HX.out (by omega) (by omega) (by omega) ?_; intro w' h5 h6; have H5 := Lib.hid h5; have H6 := Lib.hid h6; clear h5 h6)
    refine ⟨rfl, rfl, ⟨by simp, by simpa using H5.out⟩, RG.app HO.out H6.out (by simpa using H5.out)⟩
  simp only [Act.put, List.setIfInBounds_toArray, List.set_cons_zero, List.set_cons_succ]
  iterate 3
    refine Obl.still (fun W hg _ => ?_) ?_
    · clear hg
      go_wp2
      exact ⟨rfl, rfl, rfl, RG.refl _⟩
    simp only [Act.put, List.setIfInBounds_toArray, List.set_cons_zero, List.set_cons_succ]
  refine Obl.still (fun W hg _ => ?_) ?_
  · have c25 := HQ.out W hg
    clear hg
    go_wp2
    exact ⟨rfl, rfl, rfl, RG.refl _⟩
  simp only [Act.put, List.setIfInBounds_toArray, List.set_cons_zero, List.set_cons_succ]
  iterate 2
    refine Obl.still (fun W hg _ => ?_) ?_
    · clear hg
      go_wp2
      exact ⟨rfl, rfl, rfl, RG.refl _⟩
    simp only [Act.put, List.setIfInBounds_toArray, List.set_cons_zero, List.set_cons_succ]
  refine Obl.grow (OutV.keep) (fun W hg ⟨h8, _⟩ => ?_) (fun v15 => ?_)
  · obtain ⟨rfl, h8⟩ := h8
    clear hg
    go_wp2
    exact ⟨rfl, rfl, ⟨rfl, h8⟩, RG.refl _⟩
  simp only [Act.put, List.setIfInBounds_toArray, List.set_cons_zero, List.set_cons_succ]
  iterate 2
    refine Obl.still (fun W hg _ => ?_) ?_
    · clear hg
      go_wp2
      exact ⟨rfl, rfl, rfl, RG.refl _⟩
    simp only [Act.put, List.setIfInBounds_toArray, List.set_cons_zero, List.set_cons_succ]
  refine Obl.done (fun W hg hall => ?_)
  obtain ⟨h15, h8, _⟩ := hall
  obtain ⟨rfl, h15⟩ := h15
  obtain ⟨rfl, _⟩ := h8
  have c25 := HQ.out W hg
  have f25 := HQF.out W hg
  have HO := Lib.hid h15
  have HG := Lib.hid (below_of_rg HBB.out hg (by have := HHB.out; omega) (by have := HHB.out; omega))
  clear hg h15
  go_wp2
  go_ret
  refine ⟨_, _, _, rfl, HO.out.set_other ⟨b, 25, none⟩ _ (fun e => by injection e with e; injection e with e; dsimp only at e; have := HHB.out; omega), HG.out.setCell (p := ⟨b, 25, none⟩) HHB.out.1 _⟩


theorem shake_sum (A : Option Addr) (n c : Nat) (l : List UInt8) (k : Nat) (w : World) (hL : Laid w) (h : Rd eB w A n l) (hl : l.length ≤ 1048576) (hk0 : 1 ≤ k) (hk : k < 136) :
    Calls Tryz.prog 26 #[.slice A n c, .int .i64 (k : Int)] w (RetOwn eB w (shakeL l k)) := by
  have HN := Lib.hid (new_any A n c l w hL h (by rw [← h.len]; exact hl))
  clear hL h hl
  go_enter Tryz.func26, Tryz.ntmps26
  go_wp2_with fail
  refine HN.out.mono ?_
  rintro e w1 ⟨b, rfl, g1, hR⟩
  have HR := Lib.hid (read_any w.heap.size b k _ _ w1 hR (giveL_length _) hk0 hk)
  have HG := Lib.hid g1
  clear g1 hR HN
  go_wp2_with fail
  refine HR.out.mono ?_
  rintro e w2 ⟨A2, n2, c2, rfl, h2, g2⟩
  have HO := Lib.hid h2
  have HG2 := Lib.hid (HG.out.trans g2)
  clear h2 g2 HR HG
  go_wp2
  go_ret
  exact ⟨_, _, _, rfl, HO.out, HG2.out⟩
end Go.Proofs.Sl

/- The document's round of Keccak, as plain lists: what lies in its arrays between two steps of its loops. -/
namespace Go.Proofs.Sl
open Go Go.RowKit Go.Proofs

def vis (x y i : Nat) : Bool := decide (i % 5 < x ∨ (i % 5 = x ∧ i / 5 < y))
def mixP (p : Nat → Nat) (f g : Nat → UInt64) (x y : Nat) : List UInt64 := (List.range 25).map fun j => if vis x y (p j) then f j else g j
theorem mixP_length (p : Nat → Nat) (f g : Nat → UInt64) (x y : Nat) : (mixP p f g x y).length = 25 := by simp [mixP]
theorem lane_map (f : Nat → UInt64) (i : Nat) (h : i < 25) : lane ((List.range 25).map f) i = f i := by simp [lane, List.getD, h]
theorem mixP_zero (p : Nat → Nat) (f g : Nat → UInt64) : mixP p f g 0 0 = (List.range 25).map g := by
  unfold mixP vis
  apply List.map_congr_left
  intro j _
  rw [if_neg (by simp)]
theorem mixP_row (p : Nat → Nat) (f g : Nat → UInt64) (x : Nat) (hp : ∀ j, j < 25 → p j < 25) : mixP p f g x 5 = mixP p f g (x + 1) 0 := by
  unfold mixP vis
  apply List.map_congr_left
  intro j hj
  have h1 := hp j (List.mem_range.1 hj)
  have e : (p j % 5 < x ∨ (p j % 5 = x ∧ p j / 5 < 5)) ↔ (p j % 5 < x + 1 ∨ (p j % 5 = x + 1 ∧ p j / 5 < 0)) := by omega
  rw [decide_eq_decide.2 e]
theorem mixP_full (p : Nat → Nat) (f g : Nat → UInt64) : mixP p f g 5 0 = (List.range 25).map f := by
  unfold mixP vis
  apply List.map_congr_left
  intro j _
  rw [if_pos (by simp; omega)]
theorem mixP_step (p : Nat → Nat) (f g : Nat → UInt64) (x y d : Nat) (hx : x < 5) (hp : ∀ j, j < 25 → (p j = x + 5 * y ↔ j = d)) (hp2 : ∀ j, j < 25 → p j < 25) : (mixP p f g x y).set d (f d) = mixP p f g x (y + 1) := by
  apply List.ext_getElem
  · simp [mixP_length]
  · intro i h1 h2
    have hi : i < 25 := by rw [mixP_length] at h2; exact h2
    have h3 := hp i hi
    have h4 := hp2 i hi
    by_cases e : d = i
    · subst e
      have e2 : p d = x + 5 * y := h3.2 rfl
      simp only [List.getElem_set_self, mixP, List.getElem_map, List.getElem_range]
      rw [if_pos (by unfold vis; simp; omega)]
    · rw [List.getElem_set_ne e]
      have e2 : p i ≠ x + 5 * y := fun e3 => e (h3.1 e3).symm
      simp only [mixP, List.getElem_map, List.getElem_range]
      have e4 : (p i % 5 < x ∨ (p i % 5 = x ∧ p i / 5 < y)) ↔ (p i % 5 < x ∨ (p i % 5 = x ∧ p i / 5 < y + 1)) := by omega
      unfold vis
      rw [decide_eq_decide.2 e4]
theorem mixP_at (p : Nat → Nat) (f g : Nat → UInt64) (x y d : Nat) (hd : d < 25) (hp : p d = x + 5 * y) (hx : x < 5) : lane (mixP p f g x y) d = g d := by
  unfold mixP
  rw [lane_map _ _ hd, if_neg (by unfold vis; simp; omega)]

/-- The columns of the first x. -/
def colsTo (s : List UInt64) (x : Nat) : List UInt64 := (List.range 5).map fun i => if i < x then colC s i else 0
theorem colsTo_length (s : List UInt64) (x : Nat) : (colsTo s x).length = 5 := by simp [colsTo]
theorem colsTo_zero (s : List UInt64) : colsTo s 0 = List.replicate 5 0 := by
  apply List.ext_getElem
  · simp [colsTo]
  · intro i h1 h2; rw [List.getElem_replicate]; simp [colsTo]
theorem colsTo_step (s : List UInt64) (x : Nat) : (colsTo s x).set x (colC s x) = colsTo s (x + 1) := by
  apply List.ext_getElem
  · simp [colsTo]
  · intro i h1 h2
    by_cases e : x = i
    · subst e; simp [colsTo]
    · rw [List.getElem_set_ne e]
      simp only [colsTo, List.getElem_map, List.getElem_range]
      by_cases hi : i < x
      · rw [if_pos hi, if_pos (by omega)]
      · rw [if_neg hi, if_neg (by omega)]
theorem colsTo_full (s : List UInt64) (i : Nat) (h : i < 5) : (colsTo s 5)[i]'(by rw [colsTo_length]; exact h) = colC s i := by simp [colsTo, h]

def dOf (s : List UInt64) (x : Nat) : UInt64 := colC s ((x + 4) % 5) ^^^ rotl (colC s ((x + 1) % 5)) 1
def thF (s : List UInt64) (i : Nat) : UInt64 := lane s i ^^^ dOf s (i % 5)
theorem thF_full (s : List UInt64) : (List.range 25).map (thF s) = thetaL s := by
  unfold thetaL
  apply List.map_congr_left
  intro i hi
  unfold thF dOf
  rw [show (i % 5 + 4) % 5 = (i + 4) % 5 by omega, show (i % 5 + 1) % 5 = (i + 1) % 5 by omega]
theorem lane_self (s : List UInt64) (h : s.length = 25) : (List.range 25).map (lane s) = s := by
  apply List.ext_getElem
  · simp [h]
  · intro i h1 h2; simp [lane, List.getD, h2]

/-! ### The walk from place to place -/
def pos : Nat → Nat × Nat
  | 0 => (1, 0)
  | t + 1 => ((pos t).2, (2 * (pos t).1 + 3 * (pos t).2) % 5)
def idxP (t : Nat) : Nat := (pos t).1 + 5 * (pos t).2
def invS (j : Nat) : Nat := ((List.range 24).find? fun t => idxP t == j).getD 24
theorem pos_lt : ∀ t, t < 25 → (pos t).1 < 5 ∧ (pos t).2 < 5 := by decide +kernel
theorem invS_iff : ∀ t, t < 24 → ∀ j, j < 25 → (invS j = t ↔ j = idxP t) := by decide +kernel
theorem turns_at : ∀ t, t < 24 → (t + 1) * (t + 2) / 2 % 64 = turnsL.getD (idxP t) 0 := by decide +kernel
theorem invS_lt : ∀ j, j < 25 → j = 0 ∨ invS j < 24 := by decide +kernel
def rotTo (s : List UInt64) (t : Nat) : List UInt64 := (List.range 25).map fun j => if invS j < t then rotl (lane s j) (turnsL.getD j 0) else lane s j
theorem rotTo_length (s : List UInt64) (t : Nat) : (rotTo s t).length = 25 := by simp [rotTo]
theorem rotTo_zero (s : List UInt64) (h : s.length = 25) : rotTo s 0 = s := by
  have := lane_self s h
  unfold rotTo
  simpa using this
theorem rotTo_at (s : List UInt64) (t : Nat) (h : t < 24) : lane (rotTo s t) (idxP t) = lane s (idxP t) := by
  have h1 := pos_lt t (by omega)
  have h2 : idxP t < 25 := by unfold idxP; omega
  have h3 := (invS_iff t h _ h2).2 rfl
  unfold rotTo
  rw [lane_map _ _ h2, if_neg (by omega)]
theorem rotTo_step (s : List UInt64) (t : Nat) (h : t < 24) : (rotTo s t).set (idxP t) (rotl (lane s (idxP t)) ((t + 1) * (t + 2) / 2 % 64)) = rotTo s (t + 1) := by
  apply List.ext_getElem
  · simp [rotTo_length]
  · intro i h1 h2
    have hi : i < 25 := by rw [rotTo_length] at h2; exact h2
    have h3 := invS_iff t h i hi
    by_cases e : idxP t = i
    · subst e
      have e2 := h3.2 rfl
      simp only [List.getElem_set_self, rotTo, List.getElem_map, List.getElem_range]
      rw [if_pos (by omega), turns_at t h]
    · rw [List.getElem_set_ne e]
      have e2 : invS i ≠ t := fun e3 => e (h3.1 e3).symm
      simp only [rotTo, List.getElem_map, List.getElem_range]
      by_cases hi : invS i < t
      · rw [if_pos hi, if_pos (by omega)]
      · rw [if_neg hi, if_neg (by omega)]
theorem rotl_zero (w : UInt64) : rotl w 0 = w := by
  unfold rotl
  apply UInt64.toNat_inj.1
  rw [UInt64.toNat_or, UInt64.toNat_shiftLeft, UInt64.toNat_shiftRight]
  have e1 : (UInt64.ofNat 0).toNat % 64 = 0 := rfl
  have e2 : (UInt64.ofNat (64 - 0)).toNat % 64 = 0 := rfl
  have hw := w.toNat_lt
  rw [e1, e2, Nat.shiftLeft_eq, Nat.shiftRight_eq_div_pow]
  simp only [Nat.pow_zero, Nat.mul_one, Nat.div_one]
  rw [Nat.mod_eq_of_lt hw, Nat.or_self]
theorem rotTo_full (s : List UInt64) (j : Nat) (h : j < 25) : lane (rotTo s 24) j = rotl (lane s j) (turnsL.getD j 0) := by
  unfold rotTo
  rw [lane_map _ _ h]
  rcases invS_lt j h with rfl | h2
  · by_cases h3 : invS 0 < 24
    · rw [if_pos h3]
    · rw [if_neg h3]; exact (rotl_zero _).symm
  · rw [if_pos h2]
theorem rhoPi_eq (s : List UInt64) : ((List.range 25).map fun j => lane (rotTo s 24) (invP j)) = rhoPi s := by
  unfold rhoPi
  apply List.map_congr_left
  intro j hj
  have hj := List.mem_range.1 hj
  rw [rotTo_full s _ (invP_lt j hj)]
  rfl
def chF (b : List UInt64) (k : Nat) : UInt64 := lane b k ^^^ (notL (lane b ((k % 5 + 1) % 5 + 5 * (k / 5))) &&& lane b ((k % 5 + 2) % 5 + 5 * (k / 5)))
theorem chF_full (b : List UInt64) : (List.range 25).map (chF b) = chiL b := rfl
theorem id_iff (x y : Nat) : ∀ j, j < 25 → (id j = x + 5 * y ↔ j = x + 5 * y) := fun _ _ => Iff.rfl

set_option maxHeartbeats 1000000 in
theorem rol_any (x : UInt64) (n : Nat) (w : World) (hn : n ≤ 100000) : Calls Tryz.prog 117 #[.int .u64 (x.toNat : Int), .int .i64 (n : Int)] w (fun e w' => e = .returned (.int .u64 ((rotl x (n % 64)).toNat : Int)) ∧ w = w') := by
  have hm : n % 64 < 64 := Nat.mod_lt _ (by omega)
  have hr := rotl_toNat x (n % 64) hm
  have hr0 := rotl_zero x
  have hx := x.toNat_lt
  have e1 : (n : Int) % 64 = ((n % 64 : Nat) : Int) := by omega
  obtain ⟨k, hk⟩ : ∃ k, n % 64 = k := ⟨_, rfl⟩
  rw [hk] at e1 hr hm ⊢
  by_cases h0 : k = 0
  · subst h0
    rw [hr0]
    have hcond : (((n : Int) % 64) == 0) = true := by rw [e1]; rfl
    clear hr hr0 hk hx
    go_enter Tryz.func117, Tryz.ntmps117
    go_wp2
    go_ret
    exact ⟨rfl, rfl⟩
  · have ho := or_u64 (x.toNat * 2 ^ k % 2 ^ 64) (x.toNat / 2 ^ (64 - k)) (Nat.mod_lt _ (Nat.two_pow_pos _)) (Nat.lt_of_le_of_lt (Nat.div_le_self _ _) hx)
    rw [← hr] at ho
    have HO := Lib.hid ho
    have HKK := Lib.hid hk
    have hne : ((k : Int) == 0) = false := by simp; omega
    clear hr ho hx hr0 hk
    generalize hn : x.toNat = xn at *
    generalize hrr : (rotl x k).toNat = rr at *
    go_enter Tryz.func117, Tryz.ntmps117
    go_wp2
    have hw : IntKind.u64.wrap ((xn : Int) * 2 ^ k) = ((xn * 2 ^ k % 2 ^ 64 : Nat) : Int) := by
      rw [wrap_u64x, Int.natCast_emod, Int.natCast_mul, Int.natCast_pow]
      rfl
    go_ret
    refine ⟨?_, rfl⟩
    show Ending.returned (.int .u64 (bits .or .u64 (IntKind.u64.wrap ((xn : Int) * 2 ^ k)) ((xn : Int) / 2 ^ (64 - k)))) = Ending.returned (.int .u64 (rr : Int))
    rw [hw, pow_cast, HO.out]
end Go.Proofs.Sl
