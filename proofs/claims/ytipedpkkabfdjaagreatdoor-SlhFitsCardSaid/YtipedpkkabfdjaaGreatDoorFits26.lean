/- append, and of what it goes on from the first cells live on (for a region that draws its order and goes on twice). The document's FORS: a sum at a place; the sums of its trees. The document's: the number that bytes are; 2 to n. The document's FORS: the numbers of bytes. -/
import Derived.Test.YtipedpkkabfdjaaGreatDoorFits01
import Derived.Test.YtipedpkkabfdjaaGreatDoorFits03
import Derived.Test.YtipedpkkabfdjaaGreatDoorFits20
import Derived.Test.YtipedpkkabfdjaaGreatDoorFits13
import Derived.Test.YtipedpkkabfdjaaGreatDoorFits15
/- append, and of what it goes on from the first cells live on (for a region that draws its order and goes on twice). -/
namespace Go.Proofs.Sl
open Go Go.RowKit Go.Proofs
section
variable {P : Program} {α : Type} {enc : α → Value} {w : World} {A A2 : Option Addr} {n m c c2 B : Nat} {l l2 : List α}

theorem run_append_sl3 (t ty e : TypeId) (z : Value) (bytes : Nat) (ht : P.underlying t = some (.slice e)) (hinfo : (P.info? e).map (fun i => (i.zero, i.size, i.bytes)) = some (some z, 1, bytes)) (hzs : z.cells.size = 1)
    (ho : Own enc B w A n c l) (hr : Rd enc w A2 m l2) (henc : ∀ x, (enc x).oneCell' = true) (hby : (n + m) * bytes ≤ 140737488355328) (hnm : n + m ≤ 140737488355328) (hB : B ≤ w.heap.size) :
    ∃ A' c' w', (Builtin.append_ #[t, t] ty #[.slice A n c, .slice A2 m c2]).run P w = .ok (.slice A' (n + m) c') w' ∧ Own enc B w' A' (n + m) c' (l ++ l2) ∧ w.grownBy w' (A.map (·.block)) ∧ (∀ A3 n3 c3, Own enc B w A3 n3 c3 l → Own enc B w' A3 n3 c3 l) ∧ (∀ A3 n3 c3, Own enc B w A3 n3 c3 (l ++ l2) → Own enc B w' A3 n3 c3 (l ++ l2)) ∧ (c < n + m → Below w.heap.size w w') := by
  obtain ⟨i, hi, hzz⟩ := Option.map_eq_some_iff.1 hinfo
  simp only [Prod.mk.injEq] at hzz
  obtain ⟨hz, hsz, hbyt⟩ := hzz
  have hl2 : (l2.map enc).length = m * i.size := by rw [List.length_map, hr.len, hsz, Nat.mul_one]
  by_cases hroom : n + m ≤ c
  · -- there is room
    have hnews : (Builtin.firstCells 1 m (.slice A2 m c2)).run P w = .ok (l2.map enc).toArray w := by
      cases A2 with
      | none =>
        have : l2 = [] := by
          cases l2 with
          | nil => rfl
          | cons x r => obtain ⟨ad, e, _⟩ := hr.cell 0 (by simp); cases e
        subst this
        rw [run_firstCells_none]; rfl
      | some ad =>
        have := run_firstCells_some (P := P) w 1 m ad m c2 (l2.map enc) (by rw [hl2, hsz]) (hr.news rfl)
        exact this
    rcases ho.at_ with ⟨rfl, hc0⟩ | ⟨g, rfl, hg1, hg2, hg3, hg4, hg5⟩
    · have hm0 : m = 0 := by omega
      have hn0 : n = 0 := by omega
      subst hm0 hn0
      have hl0 : l = [] := List.eq_nil_of_length_eq_zero ho.len
      have hl20 : l2 = [] := List.eq_nil_of_length_eq_zero hr.len
      subst hl0 hl20
      refine ⟨none, c, w, ?_, ho, ⟨rfl, rfl, rfl, Nat.le_refl _, fun _ _ _ => rfl⟩, fun _ _ _ h => h, fun _ _ _ h => h, fun _ => Below.refl _ _⟩
      simp [Builtin.append_, run_underlying ht, sizeOf, typeInfo, hi, hsz, Builtin.lenOf, hnews]
    · obtain ⟨w', hrun, hs⟩ := run_storeCells_gen (P := P) g n (l2.map enc) 0 w (fun k hk => hg3 _ (by rw [List.length_map, hr.len] at hk; omega)) (fun k hk => hg4 _ (by rw [List.length_map, hr.len] at hk; omega))
        (fun v hv => by obtain ⟨x, _, rfl⟩ := List.mem_map.1 hv; exact henc x)
      have hln := ho.len
      have hln2 := hr.len
      refine ⟨some ⟨g, 0, none⟩, c, w', ?_, ⟨by rw [List.length_append, ho.len, hr.len], hnm, hroom, ho.cm, .inr ⟨g, rfl, hg1, by rw [hs.size]; exact hg2, ?_, ?_, ?_⟩⟩, ⟨hs.os, hs.tape, hs.output, Nat.le_of_eq hs.size.symm, fun k _ hk => hs.block k (by simpa using hk)⟩, ?_, ?_, fun h => absurd hroom (by omega)⟩
      · simp [Builtin.append_, run_underlying ht, sizeOf, typeInfo, hi, hsz, Builtin.lenOf, hroom, hnews, add_zero', hrun]
      · intro x hx
        by_cases h : n ≤ x ∧ x - n < (l2.map enc).length
        · exact ⟨_, hs.inside x (by omega) (by simpa using h.2)⟩
        · rw [hs.outside x (by simp at h ⊢; omega)]
          exact hg3 x hx
      · intro x hx
        rw [hs.frozen]
        exact hg4 x hx
      · intro j hj
        by_cases h : j < l.length
        · rw [hs.outside j (by omega), List.getElem_append_left h]
          exact hg5 j h
        · have hj' : j - n < (l2.map enc).length := by rw [List.length_append] at hj; rw [List.length_map]; omega
          rw [hs.inside j (by omega) (by simpa using hj')]
          rw [List.getElem_append_right (by omega)]
          simp [hln]
      · intro A3 n3 c3 h3
        rcases h3.at_ with h0 | ⟨g3, e1, e2, e3, e4, e5, e6⟩
        · exact ⟨h3.len, h3.big, h3.nc, h3.cm, .inl h0⟩
        · refine ⟨h3.len, h3.big, h3.nc, h3.cm, .inr ⟨g3, e1, e2, by rw [hs.size]; exact e3, ?_, ?_, ?_⟩⟩
          · intro x hx
            by_cases eg : g3 = g
            · subst eg
              by_cases h : n ≤ x ∧ x - n < (l2.map enc).length
              · exact ⟨_, hs.inside x (by omega) (by simpa using h.2)⟩
              · rw [hs.outside x (by simp at h ⊢; omega)]
                exact e4 x hx
            · obtain ⟨v, hv⟩ := e4 x hx
              exact ⟨v, by rw [← hv]; exact World.cell?_of_block (hs.block g3 eg)⟩
          · intro x hx
            by_cases eg : g3 = g
            · subst eg
              rw [hs.frozen]
              exact e5 x hx
            · rw [← e5 x hx]
              exact World.frozen?_of_block (hs.block g3 eg)
          · intro j hj
            by_cases eg : g3 = g
            · subst eg
              rw [hs.outside j (by omega)]
              exact e6 j hj
            · rw [← e6 j hj]
              exact World.cell?_of_block (hs.block g3 eg)
      · intro A3 n3 c3 h3
        rcases h3.at_ with h0 | ⟨g3, e1, e2, e3, e4, e5, e6⟩
        · exact ⟨h3.len, h3.big, h3.nc, h3.cm, .inl h0⟩
        · refine ⟨h3.len, h3.big, h3.nc, h3.cm, .inr ⟨g3, e1, e2, by rw [hs.size]; exact e3, ?_, ?_, ?_⟩⟩
          · intro x hx
            by_cases eg : g3 = g
            · subst eg
              by_cases h : n ≤ x ∧ x - n < (l2.map enc).length
              · exact ⟨_, hs.inside x (by omega) (by simpa using h.2)⟩
              · rw [hs.outside x (by simp at h ⊢; omega)]
                exact e4 x hx
            · obtain ⟨v, hv⟩ := e4 x hx
              exact ⟨v, by rw [← hv]; exact World.cell?_of_block (hs.block g3 eg)⟩
          · intro x hx
            by_cases eg : g3 = g
            · subst eg
              rw [hs.frozen]
              exact e5 x hx
            · rw [← e5 x hx]
              exact World.frozen?_of_block (hs.block g3 eg)
          · intro j hj
            by_cases eg : g3 = g
            · subst eg
              by_cases h : j < l.length
              · rw [hs.outside j (by omega)]
                exact e6 j hj
              · have hj' : j - n < (l2.map enc).length := by rw [List.length_append] at hj; rw [List.length_map]; omega
                rw [hs.inside j (by omega) (by simpa using hj')]
                rw [List.getElem_append_right (by omega)]
                simp [hln]
            · rw [← e6 j hj]
              exact World.cell?_of_block (hs.block g3 eg)
  · -- a new array
    have hmpos : 0 < m := by have := ho.nc; omega
    obtain ⟨ad, hA2, _⟩ := hr.cell 0 (by rw [hr.len]; exact hmpos)
    have hln := ho.len
    have hln2 := hr.len
    have fits : ∀ old, old < n + m → Builtin.nextslicecap (n + m) old * i.bytes ≤ 281474976710656 := fun old h => growslice_fits h (by rw [hbyt]; exact hby)
    have hrun : ∃ old cap, cap = grownCap w (n + m) old e ∧ (Builtin.append_ #[t, t] ty #[.slice A n c, .slice A2 m c2]).run P w =
        .ok (.slice (some ⟨w.heap.size, 0, none⟩) (n + m) cap) (w.drew.alloc (.cells ((l.map enc).toArray ++ (l2.map enc).toArray ++ Builtin.zeroCells z.cells (cap - (n + m))) e)) := by
      rcases ho.at_ with ⟨rfl, hc0⟩ | ⟨g, rfl, hg1, hg2, hg3, hg4, hg5⟩
      · have hn0 : n = 0 := by have := ho.nc; omega
        subst hn0 hc0
        have hl0 : l = [] := List.eq_nil_of_length_eq_zero ho.len
        subst hl0
        have hby' : m * bytes ≤ 140737488355328 := by rw [Nat.zero_add] at hby; exact hby
        refine ⟨0, _, rfl, ?_⟩
        have := run_append_nil (P := P) w t ty e i z ht hi hz ad m c2 (l2.map enc) hl2 (hr.news hA2) hmpos (by omega) (by rw [hbyt]; omega)
        rw [hA2]
        simp only [Nat.zero_add, List.map_nil]
        rw [this]
        simp
      · refine ⟨c, _, rfl, ?_⟩
        have hlo : (l.map enc).length = n * i.size := by rw [List.length_map, hln, hsz, Nat.mul_one]
        have holds := (Own.rd ⟨ho.len, ho.big, ho.nc, ho.cm, .inr ⟨g, rfl, hg1, hg2, hg3, hg4, hg5⟩⟩ : Rd enc w (some ⟨g, 0, none⟩) n l).news rfl
        rw [hA2]
        exact run_append_grow (P := P) w t ty e i z ht hi hz ⟨g, 0, none⟩ n c (l.map enc) hlo holds ad m c2 (l2.map enc) hl2 (hr.news hA2) (by omega) (by omega) (fits c (by omega))
    obtain ⟨old, cap, hcap, hrun⟩ := hrun
    have hge : n + m ≤ cap := by rw [hcap]; exact grownCap_ge w (n + m) old e
    have hcm : cap ≤ maxLen := by rw [hcap]; exact grownCap_le_maxLen w (n + m) old e (by simp only [maxLen]; omega)
    have hsize : ((l.map enc).toArray ++ (l2.map enc).toArray ++ Builtin.zeroCells z.cells (cap - (n + m))).size = cap := by
      simp only [Array.size_append, List.size_toArray, List.length_map, size_zeros z _ hzs, hln, hln2]
      omega
    have hcell : ∀ j, (w.drew.alloc (.cells ((l.map enc).toArray ++ (l2.map enc).toArray ++ Builtin.zeroCells z.cells (cap - (n + m))) e)).cell? ⟨w.heap.size, j, none⟩ =
        ((l.map enc).toArray ++ (l2.map enc).toArray ++ Builtin.zeroCells z.cells (cap - (n + m)))[j]? := by
      exact fun j => cell_new w.drew _ e j
    refine ⟨_, cap, _, hrun, ⟨by rw [List.length_append, hln, hln2], hnm, hge, hcm, .inr ⟨w.heap.size, rfl, hB, by simp, ?_, ?_, ?_⟩⟩, ⟨rfl, rfl, rfl, by simp, fun k hk _ => heap_alloc_old w.drew _ hk⟩, fun A3 n3 c3 h3 => h3.below ((Below.refl _ w).drew.alloc (Nat.le_refl _) _), fun A3 n3 c3 h3 => h3.below ((Below.refl _ w).drew.alloc (Nat.le_refl _) _), fun _ => (Below.refl _ w).drew.alloc (Nat.le_refl _) _⟩
    · intro x hx
      rw [hcell]
      exact ⟨_, Array.getElem?_eq_getElem (by rw [hsize]; exact hx)⟩
    · intro x _
      exact frozen_new w.drew _ e x
    · intro j hj
      rw [hcell, Array.getElem?_append_left (by simpa using hj)]
      simp only [List.append_toArray, List.getElem?_toArray, ← List.map_append, List.getElem?_map, List.getElem?_eq_getElem hj, Option.map_some]


section walk
variable {ops : Array Oper} {o : Oper} {a : Act} {Q : Exit → Act → World → Prop} {rest : List Oper}
theorem wp_append_sl3 {K : Act → World → Prop} (s x : Operand) (t e : TypeId) (z : Value) (bytes : Nat)
    (hop : o.op = .call { callee := .builtin .append, args := #[s, x], argTypes := #[t, t] }) (ht : P.underlying t = some (.slice e)) (hinfo : (P.info? e).map (fun i => (i.zero, i.size, i.bytes)) = some (some z, 1, bytes)) (hzs : z.cells.size = 1)
    (henc : ∀ x, (enc x).oneCell' = true) (hs : a.eval s = .slice A n c) (hx : a.eval x = .slice A2 m c2) (ho : Own enc B w A n c l) (hr : Rd enc w A2 m l2) (hby : (n + m) * bytes ≤ 140737488355328) (hnm : n + m ≤ 140737488355328) (hB : B ≤ w.heap.size)
    (h : ∀ A' c' w', Own enc B w' A' (n + m) c' (l ++ l2) → Below B w w' → (∀ A3 n3 c3, Own enc B w A3 n3 c3 l → Own enc B w' A3 n3 c3 l) → (∀ A3 n3 c3, Own enc B w A3 n3 c3 (l ++ l2) → Own enc B w' A3 n3 c3 (l ++ l2)) → (c < n + m → Below w.heap.size w w') → K (a.put o.dst (.slice A' (n + m) c')) w') : o.wp P a w K Q := by
  obtain ⟨A', c', w', hrun, h1, h2, h3, h4, h5⟩ := run_append_sl3 (P := P) (c2 := c2) t o.type e z bytes ht hinfo hzs ho hr henc hby hnm hB
  unfold Oper.wp execOp
  simp only [hop, resolve, invoke, builtin, Sem.run_bind, Sem.run_pure, Result.andThen_ok, List.map_toArray, List.map_cons, List.map_nil, hs, hx, hrun]
  exact h A' c' w' h1 (below_of_grown ho hB h2) h3 h4 h5

theorem wpList_append_sl3 (hgd : o.guard = none) (s x : Operand) (t e : TypeId) (z : Value) (bytes : Nat)
    (hop : o.op = .call { callee := .builtin .append, args := #[s, x], argTypes := #[t, t] }) (ht : P.underlying t = some (.slice e)) (hinfo : (P.info? e).map (fun i => (i.zero, i.size, i.bytes)) = some (some z, 1, bytes)) (hzs : z.cells.size = 1)
    (henc : ∀ x, (enc x).oneCell' = true) (hs : a.eval s = .slice A n c) (hx : a.eval x = .slice A2 m c2) (ho : Own enc B w A n c l) (hr : Rd enc w A2 m l2) (hby : (n + m) * bytes ≤ 140737488355328) (hnm : n + m ≤ 140737488355328) (hB : B ≤ w.heap.size)
    (h : ∀ A' c' w', Own enc B w' A' (n + m) c' (l ++ l2) → Below B w w' → (∀ A3 n3 c3, Own enc B w A3 n3 c3 l → Own enc B w' A3 n3 c3 l) → (∀ A3 n3 c3, Own enc B w A3 n3 c3 (l ++ l2) → Own enc B w' A3 n3 c3 (l ++ l2)) → (c < n + m → Below w.heap.size w w') → wpList P ops Q rest (a.put o.dst (.slice A' (n + m) c')) w') : wpList P ops Q (o :: rest) a w :=
  wpList_plain hgd fun _ hK => wp_append_sl3 s x t e z bytes hop ht hinfo hzs henc hs hx ho hr hby hnm hB fun A' c' w' h1 h2 h3 h4 h5 => hK _ _ (h A' c' w' h1 h2 h3 h4 h5)

end walk
end

/-- What a region that goes on twice leaves: what lies below B, and what of l and of l ++ r is the region's own. -/
def GK (B : Nat) (l r : List UInt8) (w w' : World) : Prop := Below B w w' ∧ (∀ A n c, Own eB B w A n c l → Own eB B w' A n c l) ∧ ∀ A n c, Own eB B w A n c (l ++ r) → Own eB B w' A n c (l ++ r)
theorem GK.refl (B : Nat) (l r : List UInt8) (w : World) : GK B l r w w := ⟨Below.refl _ _, fun _ _ _ h => h, fun _ _ _ h => h⟩
theorem GK.trans (B : Nat) (l r : List UInt8) (x y z : World) (h : GK B l r x y) (k : GK B l r y z) : GK B l r x z := ⟨Below.trans h.1 k.1, fun A n c o => k.2.1 A n c (h.2.1 A n c o), fun A n c o => k.2.2 A n c (h.2.2 A n c o)⟩
theorem GK.of {B : Nat} {l r : List UInt8} {w w' : World} (h : Below w.heap.size w w') (hB : B ≤ w.heap.size) : GK B l r w w' := ⟨h.mono hB, fun _ _ _ o => o.below h, fun _ _ _ o => o.below h⟩
theorem GK.cell {B : Nat} {l r : List UInt8} {w w' : World} {a : Addr} {v : Value} (h : GK B l r w w') (k : w.cell? a = some v) (hb : a.block < B) : w'.cell? a = some v := (h.1.cell hb).trans k
/-- An empty slice of the region's own. -/
def EmptyV (B : Nat) (v : Value) (w : World) : Prop := ∃ g, v = .slice (some ⟨g, 0, none⟩) 0 0 ∧ B ≤ g ∧ g < w.heap.size
theorem EmptyV.keep (B : Nat) (l r : List UInt8) : ∀ v w w', EmptyV B v w → GK B l r w w' → EmptyV B v w' := fun _ _ _ ⟨g, h1, h2, h3⟩ h => ⟨g, h1, h2, Nat.lt_of_lt_of_le h3 h.1.size⟩
theorem EmptyV.own {B g : Nat} {w : World} (h1 : B ≤ g) (h2 : g < w.heap.size) : Own eB B w (some ⟨g, 0, none⟩) 0 0 [] := ⟨rfl, by omega, Nat.le_refl _, by simp only [maxLen]; omega, .inr ⟨g, rfl, h1, h2, fun i hi => absurd hi (by omega), fun i hi => absurd hi (by omega), fun j hj => absurd hj (by simp)⟩⟩
end Go.Proofs.Sl

/- The document's FORS: a sum at a place; the sums of its trees. -/
namespace Go.Proofs.Sl
open Go.RowKit Go.Proofs

set_option maxHeartbeats 1000000 in
theorem rat_any (f : Few) (hf : FewOk f) (A Ax : Option Addr) (n nx c cx : Nat) (seed text : List UInt8) (ad : Ad) (kind i b : Nat) (w : World) (hs : Rd eB w A n seed) (hsl : seed.length = f.N) (had : ad.Ok) (hk : kind ≤ 1000) (hi : i ≤ 1000) (hb : b < 4294967296) (hx : Rd eB w Ax nx text) (hxl : text.length ≤ 65536) :
    Calls Tryz.prog 75 #[vFew f, .slice A n c, vAd ad, .int .u32 (kind : Int), .int .i64 (i : Int), .int .u32 (b : Int), .slice Ax nx cx] w (RetOwn eB w (tweakL f.N seed ⟨ad.layer, ad.tree, kind, ad.a, i, b⟩ text)) := by
  obtain ⟨layer, tree, kd, a, bb, cc⟩ := ad
  have HS := Lib.hid hs
  have HX := Lib.hid hx
  have HAD := Lib.hid had
  have HF := Lib.hid hf
  have HSL := Lib.hid hsl
  have HXL := Lib.hid hxl
  have HB := Lib.hid hb
  clear hs hx had hf hsl hxl
  unfold vFew vAd
  dsimp only
  have e1 : (i : Int) % 4294967296 = (i : Int) := by omega
  go_enter Tryz.func75, Tryz.ntmps75
  go_wp2_with fail
  generalize hW0 : World.alloc (World.alloc w _) _ = W0
  have hb0 : Below w.heap.size w W0 := by
    rw [← hW0]
    exact ((Below.refl _ w).alloc (Nat.le_refl _) _).alloc (by simp) _
  have HC := Lib.hid (rtweak_any f.N A Ax n c nx cx seed text ⟨layer, tree, kind, a, i, b⟩ W0 HF.out.N (HS.out.below hb0) HSL.out (HX.out.below hb0) HXL.out ⟨HAD.out.layer, HAD.out.tree, by show kind < _; omega, HAD.out.a, by show i < _; omega, HB.out⟩)
  unfold vAd at HC
  have HB0 := Lib.hid hb0
  clear hW0 hb0
  refine HC.out.mono ?_
  rintro e w1 ⟨A', n', c', rfl, h5, h6⟩
  have H5 := Lib.hid (h5.mono HB0.out.size)
  have H6 := Lib.hid (HB0.out.trans (h6.mono HB0.out.size))
  clear h5 h6 HC
  go_wp2
  go_ret
  exact ⟨_, _, _, rfl, H5.out, H6.out⟩

/-- What the document's FORS stands on. -/
structure FG (f : Few) (m : Sec) (A1 A3 : Option Addr) (n1 n3 tree q : Nat) (w : World) : Prop where
  ok : FewOk f
  secret : m.secret.length = f.N
  seed : m.seed.length = f.N
  tree : W64 tree
  q : q < 4294967296
  r1 : Rd eB w A1 n1 m.secret
  r3 : Rd eB w A3 n3 m.seed
theorem FG.below {f : Few} {m : Sec} {A1 A3 : Option Addr} {n1 n3 tree q : Nat} {w w' : World} (h : FG f m A1 A3 n1 n3 tree q w) (hb : Below w.heap.size w w') : FG f m A1 A3 n1 n3 tree q w' := ⟨h.ok, h.secret, h.seed, h.tree, h.q, h.r1.below hb, h.r3.below hb⟩
theorem FG.adok {f : Few} {m : Sec} {A1 A3 : Option Addr} {n1 n3 tree q : Nat} {w : World} (h : FG f m A1 A3 n1 n3 tree q w) : (⟨0, tree, 0, q, 0, 0⟩ : Ad).Ok := ⟨by show (0 : Nat) < _; omega, h.tree, by show (0 : Nat) < _; omega, h.q, by show (0 : Nat) < _; omega, by show (0 : Nat) < _; omega⟩

set_option maxHeartbeats 4000000 in
theorem rfsum_zero (f : Few) (m : Sec) (A1 A2 A3 : Option Addr) (n1 n2 n3 c1 c2 c3 tree q i : Nat) (w : World) (hM : FG f m A1 A3 n1 n3 tree q w) (hi : i < 4294967296) :
    Calls Tryz.prog 76 #[vFew f, vSec A1 A2 A3 n1 n2 n3 c1 c2 c3, .agg #[.int .u32 0, .int .u64 (tree : Int), .int .u32 0, .int .u32 (q : Int), .int .u32 0, .int .u32 0], .int .i64 0, .int .u32 (i : Int)] w (RetOwn eB w (fNode f.N m.seed m.secret tree q 0 i)) := by
  have HM := Lib.hid hM
  have HI := Lib.hid hi
  have hN2 := hM.ok.N.le'
  have hN1 := hM.ok.N.pos'
  clear hM hi
  unfold vFew vSec at *
  go_enter Tryz.func76, Tryz.ntmps76
  go_wp2_with fail
  generalize hW0 : World.alloc (World.alloc (World.alloc w _) _) _ = w0
  have hb0 : Below w.heap.size w w0 := by
    rw [← hW0]
    exact (((Below.refl _ w).alloc (Nat.le_refl _) _).alloc (by simp) _).alloc (by simp; omega) _
  have hz0 : w.heap.size + 3 ≤ w0.heap.size := by rw [← hW0]; simp
  have q0 : w0.cell? ⟨w.heap.size, 0, none⟩ = some (.int .i64 (f.N : Int)) := by subst hW0; go_simp
  have q1 : w0.cell? ⟨w.heap.size, 1, none⟩ = some (.int .i64 (f.L : Int)) := by subst hW0; go_simp
  have q2 : w0.cell? ⟨w.heap.size, 2, none⟩ = some (.int .i64 (f.H : Int)) := by subst hW0; go_simp
  have q3 : w0.cell? ⟨w.heap.size, 3, none⟩ = some (.int .i64 (f.K : Int)) := by subst hW0; go_simp
  have q4 : w0.cell? ⟨w.heap.size, 4, none⟩ = some (.int .i64 (f.A : Int)) := by subst hW0; go_simp
  have q5 : w0.cell? ⟨w.heap.size + 1, 0, none⟩ = some (.slice A1 n1 c1) := by subst hW0; go_simp
  have q6 : w0.cell? ⟨w.heap.size + 1, 1, none⟩ = some (.slice A2 n2 c2) := by subst hW0; go_simp
  have q7 : w0.cell? ⟨w.heap.size + 1, 2, none⟩ = some (.slice A3 n3 c3) := by subst hW0; go_simp
  have q8 : w0.cell? ⟨w.heap.size + 1 + 1, 0, none⟩ = some (.int .u32 0) := by subst hW0; go_simp
  have q9 : w0.cell? ⟨w.heap.size + 1 + 1, 1, none⟩ = some (.int .u64 (tree : Int)) := by subst hW0; go_simp
  have q10 : w0.cell? ⟨w.heap.size + 1 + 1, 2, none⟩ = some (.int .u32 0) := by subst hW0; go_simp
  have q11 : w0.cell? ⟨w.heap.size + 1 + 1, 3, none⟩ = some (.int .u32 (q : Int)) := by subst hW0; go_simp
  have q12 : w0.cell? ⟨w.heap.size + 1 + 1, 4, none⟩ = some (.int .u32 0) := by subst hW0; go_simp
  have q13 : w0.cell? ⟨w.heap.size + 1 + 1, 5, none⟩ = some (.int .u32 0) := by subst hW0; go_simp
  have HG0 := Lib.hid hb0
  clear hW0 hb0
  have k0 : w0.drew.cell? ⟨w.heap.size, 0, none⟩ = some (.int .i64 (f.N : Int)) := q0
  have k1 : w0.drew.cell? ⟨w.heap.size, 1, none⟩ = some (.int .i64 (f.L : Int)) := q1
  have k2 : w0.drew.cell? ⟨w.heap.size, 2, none⟩ = some (.int .i64 (f.H : Int)) := q2
  have k3 : w0.drew.cell? ⟨w.heap.size, 3, none⟩ = some (.int .i64 (f.K : Int)) := q3
  have k4 : w0.drew.cell? ⟨w.heap.size, 4, none⟩ = some (.int .i64 (f.A : Int)) := q4
  have k5 : w0.drew.cell? ⟨w.heap.size + 1, 0, none⟩ = some (.slice A1 n1 c1) := q5
  have k6 : w0.drew.cell? ⟨w.heap.size + 1, 1, none⟩ = some (.slice A2 n2 c2) := q6
  have k7 : w0.drew.cell? ⟨w.heap.size + 1, 2, none⟩ = some (.slice A3 n3 c3) := q7
  have k8 : w0.drew.cell? ⟨w.heap.size + 1 + 1, 0, none⟩ = some (.int .u32 0) := q8
  have k9 : w0.drew.cell? ⟨w.heap.size + 1 + 1, 1, none⟩ = some (.int .u64 (tree : Int)) := q9
  have k10 : w0.drew.cell? ⟨w.heap.size + 1 + 1, 2, none⟩ = some (.int .u32 0) := q10
  have k11 : w0.drew.cell? ⟨w.heap.size + 1 + 1, 3, none⟩ = some (.int .u32 (q : Int)) := q11
  have k12 : w0.drew.cell? ⟨w.heap.size + 1 + 1, 4, none⟩ = some (.int .u32 0) := q12
  have k13 : w0.drew.cell? ⟨w.heap.size + 1 + 1, 5, none⟩ = some (.int .u32 0) := q13
  clear q0 q1 q2 q3 q4 q5 q6 q7 q8 q9 q10 q11 q12 q13
  refine wp_region_rg Grow 58 14 14 [[], [], [], [], [], [], [], [], [], [], [], [], [], [12]]
    [.still [] (.agg #[.int .i64 (f.N : Int), .int .i64 (f.L : Int), .int .i64 (f.H : Int), .int .i64 (f.K : Int), .int .i64 (f.A : Int)]), .still [] (.pointer (some ⟨w.heap.size + 1, 2, none⟩)), .still [] (.slice A3 n3 c3), .still [] (.agg #[.int .u32 0, .int .u64 (tree : Int), .int .u32 0, .int .u32 (q : Int), .int .u32 0, .int .u32 0]), .still [] (.int .u32 (i : Int)), .still [] (.agg #[.int .i64 (f.N : Int), .int .i64 (f.L : Int), .int .i64 (f.H : Int), .int .i64 (f.K : Int), .int .i64 (f.A : Int)]), .still [] (.pointer (some ⟨w.heap.size + 1, 2, none⟩)), .still [] (.slice A3 n3 c3), .still [] (.agg #[.int .u32 0, .int .u64 (tree : Int), .int .u32 0, .int .u32 (q : Int), .int .u32 0, .int .u32 0]), .still [] (.int .u32 (i : Int)), .still [] (.pointer (some ⟨w.heap.size + 1, 0, none⟩)), .still [] (.slice A1 n1 c1), .grow [] (OwnV eB 0 (fSecret f.N m.seed m.secret tree q i)), .grow [12] (OwnV eB w.heap.size (fNode f.N m.seed m.secret tree q 0 i))] (by kernel_rfl) (by kernel_rfl) rfl rfl rfl Grow.trans (Grow.refl _) ?_
  iterate 12
    refine Obl.still (fun W hg _ => ?_) ?_
    · have c0 := cell_old hg k0; have c1 := cell_old hg k1; have c2 := cell_old hg k2; have c3 := cell_old hg k3; have c4 := cell_old hg k4; have c5 := cell_old hg k5; have c6 := cell_old hg k6; have c7 := cell_old hg k7; have c8 := cell_old hg k8; have c9 := cell_old hg k9; have c10 := cell_old hg k10; have c11 := cell_old hg k11; have c12 := cell_old hg k12; have c13 := cell_old hg k13; clear hg k0 k1 k2 k3 k4 k5 k6 k7 k8 k9 k10 k11 k12 k13
      go_wp2
      exact ⟨rfl, rfl, rfl, Grow.refl _⟩
    simp only [Act.put, List.setIfInBounds_toArray, List.set_cons_zero, List.set_cons_succ]
  refine Obl.grow (OwnV.keep _ _ _) (fun W hg _ => ?_) (fun v12 => ?_)
  · have hbW : Below w.heap.size w W := HG0.out.trans ((Below.refl _ _).drew.trans (Below.mono hg HG0.out.size))
    have HC := Lib.hid (rat_any f HM.out.ok A3 A1 n3 n1 c3 c1 m.seed m.secret ⟨0, tree, 0, q, 0, 0⟩ 6 0 i W (HM.out.r3.below hbW) HM.out.seed HM.out.adok (by omega) (by omega) HI.out (HM.out.r1.below hbW) (by rw [HM.out.secret]; omega))
    unfold vFew vAd at HC
    clear hbW
    clear hg k0 k1 k2 k3 k4 k5 k6 k7 k8 k9 k10 k11 k12 k13
    go_wp2_with fail
    refine (HC.out).mono ?_
    rintro e w' ⟨A1, n1, c1, rfl, h1, h2⟩
    go_wp2
    exact ⟨rfl, rfl, ⟨_, _, _, rfl, h1.mono (Nat.zero_le _)⟩, h2⟩
  simp only [Act.put, List.setIfInBounds_toArray, List.set_cons_zero, List.set_cons_succ]
  refine Obl.grow (OwnV.keep _ _ _) (fun W hg ⟨h12, _⟩ => ?_) (fun v13 => ?_)
  · obtain ⟨Ah12, nh12, ch12, rfl, h12⟩ := h12
    have hbW : Below w.heap.size w W := HG0.out.trans ((Below.refl _ _).drew.trans (Below.mono hg HG0.out.size))
    have HC := Lib.hid (rat_any f HM.out.ok A3 Ah12 n3 nh12 c3 ch12 m.seed (fSecret f.N m.seed m.secret tree q i) ⟨0, tree, 0, q, 0, 0⟩ 3 0 i W (HM.out.r3.below hbW) HM.out.seed HM.out.adok (by omega) (by omega) HI.out h12.rd (by unfold fSecret; rw [tweakL_length _ _ _ _ (by omega)]; omega))
    unfold vFew vAd at HC
    have HZ := Lib.hid hbW.size
    clear hbW h12
    clear hg k0 k1 k2 k3 k4 k5 k6 k7 k8 k9 k10 k11 k12 k13
    go_wp2_with fail
    refine (HC.out).mono ?_
    rintro e w' ⟨A1, n1, c1, rfl, h1, h2⟩
    go_wp2
    exact ⟨rfl, rfl, ⟨_, _, _, rfl, h1.mono HZ.out⟩, h2⟩
  simp only [Act.put, List.setIfInBounds_toArray, List.set_cons_zero, List.set_cons_succ]
  refine Obl.done (fun W hg hall => ?_)
  obtain ⟨hx, _⟩ := hall
  obtain ⟨Au, nu, cu, rfl, hx⟩ := hx
  have HX := Lib.hid hx
  have HG2 : Hid (Below w.heap.size w W) := Lib.hid (HG0.out.trans ((Below.refl _ _).drew.trans (Below.mono hg HG0.out.size)))
  clear hg k0 k1 k2 k3 k4 k5 k6 k7 k8 k9 k10 k11 k12 k13 hx
  go_wp2
  go_ret
  exact ⟨_, _, _, rfl, HX.out, HG2.out⟩


set_option maxHeartbeats 4000000 in
theorem rfsum_any (f : Few) (m : Sec) (A1 A2 A3 : Option Addr) (n1 n2 n3 c1 c2 c3 tree q : Nat) : ∀ (g i : Nat) (w : World), FG f m A1 A3 n1 n3 tree q w → (i + 1) * 2 ^ g ≤ 1048576 → g ≤ 20 →
    Calls Tryz.prog 76 #[vFew f, vSec A1 A2 A3 n1 n2 n3 c1 c2 c3, .agg #[.int .u32 0, .int .u64 (tree : Int), .int .u32 0, .int .u32 (q : Int), .int .u32 0, .int .u32 0], .int .i64 (g : Int), .int .u32 (i : Int)] w (RetOwn eB w (fNode f.N m.seed m.secret tree q g i)) := by
  intro g
  induction g with
  | zero => intro i w hM hi _; exact rfsum_zero f m A1 A2 A3 n1 n2 n3 c1 c2 c3 tree q i w hM (by simp at hi; omega)
  | succ g ih =>
    intro i w hM hi hg
    rw [Nat.pow_succ] at hi
    have hp : 1 ≤ 2 ^ g := Nat.one_le_two_pow
    have hi1 : (2 * i + 1 + 1) * 2 ^ g ≤ 1048576 := by
      calc (2 * i + 1 + 1) * 2 ^ g = (i + 1) * (2 ^ g * 2) := by rw [show 2 * i + 1 + 1 = (i + 1) * 2 by omega, Nat.mul_assoc, Nat.mul_comm 2]
        _ ≤ 1048576 := hi
    have hi0 : (2 * i + 1) * 2 ^ g ≤ 1048576 := Nat.le_trans (Nat.mul_le_mul_right _ (by omega)) hi1
    have hi2 : i + 1 ≤ 1048576 := by
      have h1 : (i + 1) * 1 ≤ (i + 1) * (2 ^ g * 2) := Nat.mul_le_mul_left _ (by omega)
      omega
    have IH0 := Lib.hid (fun W hW => ih (2 * i) W hW hi0 (by omega))
    have IH1 := Lib.hid (fun W hW => ih (2 * i + 1) W hW hi1 (by omega))
    rw [show ((2 * i : Nat) : Int) = 2 * (i : Int) by omega] at IH0
    rw [show ((2 * i + 1 : Nat) : Int) = 2 * (i : Int) + 1 by omega] at IH1
    rw [show ((g + 1 : Nat) : Int) = (g : Int) + 1 by omega]
    have HM := Lib.hid hM
    have hN2 := hM.ok.N.le'
    have hN1 := hM.ok.N.pos'
    have HRES : Hid (fNode f.N m.seed m.secret tree q (g + 1) i = tweakL f.N m.seed ⟨0, tree, 3, q, g + 1, i⟩ (fNode f.N m.seed m.secret tree q g (2 * i) ++ fNode f.N m.seed m.secret tree q g (2 * i + 1))) := Lib.hid rfl
    have HL0 := Lib.hid (fNode_length f.N m.seed m.secret tree q g (2 * i) (by omega))
    have HL1 := Lib.hid (fNode_length f.N m.seed m.secret tree q g (2 * i + 1) (by omega))
    generalize fNode f.N m.seed m.secret tree q g (2 * i) = lt at *
    generalize fNode f.N m.seed m.secret tree q g (2 * i + 1) = rt at *
    clear hM hi hi0 hi1 hp ih
    unfold vFew vSec at *
    go_enter Tryz.func76, Tryz.ntmps76
    go_wp2_with fail
    generalize hW0 : World.alloc (World.alloc (World.alloc w _) _) _ = w0
    have hb0 : Below w.heap.size w w0 := by
      rw [← hW0]
      exact (((Below.refl _ w).alloc (Nat.le_refl _) _).alloc (by simp) _).alloc (by simp; omega) _
    have hz0 : w.heap.size + 3 ≤ w0.heap.size := by rw [← hW0]; simp
    have q0 : w0.cell? ⟨w.heap.size, 0, none⟩ = some (.int .i64 (f.N : Int)) := by subst hW0; go_simp
    have q1 : w0.cell? ⟨w.heap.size, 1, none⟩ = some (.int .i64 (f.L : Int)) := by subst hW0; go_simp
    have q2 : w0.cell? ⟨w.heap.size, 2, none⟩ = some (.int .i64 (f.H : Int)) := by subst hW0; go_simp
    have q3 : w0.cell? ⟨w.heap.size, 3, none⟩ = some (.int .i64 (f.K : Int)) := by subst hW0; go_simp
    have q4 : w0.cell? ⟨w.heap.size, 4, none⟩ = some (.int .i64 (f.A : Int)) := by subst hW0; go_simp
    have q5 : w0.cell? ⟨w.heap.size + 1, 0, none⟩ = some (.slice A1 n1 c1) := by subst hW0; go_simp
    have q6 : w0.cell? ⟨w.heap.size + 1, 1, none⟩ = some (.slice A2 n2 c2) := by subst hW0; go_simp
    have q7 : w0.cell? ⟨w.heap.size + 1, 2, none⟩ = some (.slice A3 n3 c3) := by subst hW0; go_simp
    have q8 : w0.cell? ⟨w.heap.size + 1 + 1, 0, none⟩ = some (.int .u32 0) := by subst hW0; go_simp
    have q9 : w0.cell? ⟨w.heap.size + 1 + 1, 1, none⟩ = some (.int .u64 (tree : Int)) := by subst hW0; go_simp
    have q10 : w0.cell? ⟨w.heap.size + 1 + 1, 2, none⟩ = some (.int .u32 0) := by subst hW0; go_simp
    have q11 : w0.cell? ⟨w.heap.size + 1 + 1, 3, none⟩ = some (.int .u32 (q : Int)) := by subst hW0; go_simp
    have q12 : w0.cell? ⟨w.heap.size + 1 + 1, 4, none⟩ = some (.int .u32 0) := by subst hW0; go_simp
    have q13 : w0.cell? ⟨w.heap.size + 1 + 1, 5, none⟩ = some (.int .u32 0) := by subst hW0; go_simp
    have HG0 := Lib.hid hb0
    clear hW0 hb0
    refine (IH0.out w0 (HM.out.below HG0.out)).mono ?_
    rintro e wa ⟨Aa, na, ca, rfl, ha, ga⟩
    obtain rfl : f.N = na := by rw [← ha.len]; exact HL0.out.symm
    have HGA : Hid (Grow w0 wa) := Lib.hid ga
    have HA := Lib.hid ha.rd
    have p0 := cell_old ga q0
    have p1 := cell_old ga q1
    have p2 := cell_old ga q2
    have p3 := cell_old ga q3
    have p4 := cell_old ga q4
    have p5 := cell_old ga q5
    have p6 := cell_old ga q6
    have p7 := cell_old ga q7
    have p8 := cell_old ga q8
    have p9 := cell_old ga q9
    have p10 := cell_old ga q10
    have p11 := cell_old ga q11
    have p12 := cell_old ga q12
    have p13 := cell_old ga q13
    clear ha ga
    go_wp2_with fail
    refine (IH1.out wa (HM.out.below (Below.trans HG0.out (HGA.out.mono HG0.out.size)))).mono ?_
    rintro e wb ⟨Ab, nb, cb, rfl, hb, gb⟩
    obtain rfl : f.N = nb := by rw [← hb.len]; exact HL1.out.symm
    have HGB : Hid (Grow w0 wb) := Lib.hid (Below.trans HGA.out (gb.mono HGA.out.size))
    have HB := Lib.hid hb.rd
    have HA2 := Lib.hid (HA.out.below gb)
    have hsb := HGB.out.size
    have k0 : wb.drew.cell? ⟨w.heap.size, 0, none⟩ = some (.int .i64 (f.N : Int)) := cell_old HGB.out q0
    have k1 : wb.drew.cell? ⟨w.heap.size, 1, none⟩ = some (.int .i64 (f.L : Int)) := cell_old HGB.out q1
    have k2 : wb.drew.cell? ⟨w.heap.size, 2, none⟩ = some (.int .i64 (f.H : Int)) := cell_old HGB.out q2
    have k3 : wb.drew.cell? ⟨w.heap.size, 3, none⟩ = some (.int .i64 (f.K : Int)) := cell_old HGB.out q3
    have k4 : wb.drew.cell? ⟨w.heap.size, 4, none⟩ = some (.int .i64 (f.A : Int)) := cell_old HGB.out q4
    have k5 : wb.drew.cell? ⟨w.heap.size + 1, 0, none⟩ = some (.slice A1 n1 c1) := cell_old HGB.out q5
    have k6 : wb.drew.cell? ⟨w.heap.size + 1, 1, none⟩ = some (.slice A2 n2 c2) := cell_old HGB.out q6
    have k7 : wb.drew.cell? ⟨w.heap.size + 1, 2, none⟩ = some (.slice A3 n3 c3) := cell_old HGB.out q7
    have k8 : wb.drew.cell? ⟨w.heap.size + 1 + 1, 0, none⟩ = some (.int .u32 0) := cell_old HGB.out q8
    have k9 : wb.drew.cell? ⟨w.heap.size + 1 + 1, 1, none⟩ = some (.int .u64 (tree : Int)) := cell_old HGB.out q9
    have k10 : wb.drew.cell? ⟨w.heap.size + 1 + 1, 2, none⟩ = some (.int .u32 0) := cell_old HGB.out q10
    have k11 : wb.drew.cell? ⟨w.heap.size + 1 + 1, 3, none⟩ = some (.int .u32 (q : Int)) := cell_old HGB.out q11
    have k12 : wb.drew.cell? ⟨w.heap.size + 1 + 1, 4, none⟩ = some (.int .u32 0) := cell_old HGB.out q12
    have k13 : wb.drew.cell? ⟨w.heap.size + 1 + 1, 5, none⟩ = some (.int .u32 0) := cell_old HGB.out q13
    clear hb gb HA p0 p1 p2 p3 p4 p5 p6 p7 p8 p9 p10 p11 p12 p13 q0 q1 q2 q3 q4 q5 q6 q7 q8 q9 q10 q11 q12 q13
    go_wp2_with fail
    refine wp_region_rg (GK wb.heap.size lt rt) 58 11 11 [[], [], [], [], [], [], [], [], [6], [], [8]]
      [.still [] (.agg #[.int .i64 (f.N : Int), .int .i64 (f.L : Int), .int .i64 (f.H : Int), .int .i64 (f.K : Int), .int .i64 (f.A : Int)]), .still [] (.pointer (some ⟨w.heap.size + 1, 2, none⟩)), .still [] (.slice A3 n3 c3), .still [] (.agg #[.int .u32 0, .int .u64 (tree : Int), .int .u32 0, .int .u32 (q : Int), .int .u32 0, .int .u32 0]), .still [] (.int .i64 ((g : Int) + 1)), .still [] (.int .u32 (i : Int)), .grow [] (EmptyV wb.heap.size), .still [] (.slice Aa f.N ca), .grow [6] (OwnV eB wb.heap.size lt), .still [] (.slice Ab f.N cb), .grow [8] (OwnV eB wb.heap.size (lt ++ rt))] (by kernel_rfl) (by kernel_rfl) rfl rfl rfl (GK.trans wb.heap.size lt rt) (GK.refl wb.heap.size lt rt _) ?_
    iterate 6
      refine Obl.still (fun W hg _ => ?_) ?_
      · have c0 := GK.cell hg k0 (by show w.heap.size < wb.heap.size; omega); have c1 := GK.cell hg k1 (by show w.heap.size < wb.heap.size; omega); have c2 := GK.cell hg k2 (by show w.heap.size < wb.heap.size; omega); have c3 := GK.cell hg k3 (by show w.heap.size < wb.heap.size; omega); have c4 := GK.cell hg k4 (by show w.heap.size < wb.heap.size; omega); have c5 := GK.cell hg k5 (by show w.heap.size + 1 < wb.heap.size; omega); have c6 := GK.cell hg k6 (by show w.heap.size + 1 < wb.heap.size; omega); have c7 := GK.cell hg k7 (by show w.heap.size + 1 < wb.heap.size; omega); have c8 := GK.cell hg k8 (by show w.heap.size + 1 + 1 < wb.heap.size; omega); have c9 := GK.cell hg k9 (by show w.heap.size + 1 + 1 < wb.heap.size; omega); have c10 := GK.cell hg k10 (by show w.heap.size + 1 + 1 < wb.heap.size; omega); have c11 := GK.cell hg k11 (by show w.heap.size + 1 + 1 < wb.heap.size; omega); have c12 := GK.cell hg k12 (by show w.heap.size + 1 + 1 < wb.heap.size; omega); have c13 := GK.cell hg k13 (by show w.heap.size + 1 + 1 < wb.heap.size; omega); clear hg k0 k1 k2 k3 k4 k5 k6 k7 k8 k9 k10 k11 k12 k13
        go_wp2
        exact ⟨rfl, rfl, rfl, GK.refl _ _ _ _⟩
      simp only [Act.put, List.setIfInBounds_toArray, List.set_cons_zero, List.set_cons_succ]
    refine Obl.grow (EmptyV.keep _ _ _) (fun W hg _ => ?_) (fun v6 => ?_)
    · have hsW : wb.heap.size ≤ W.heap.size := hg.1.size
      clear hg k0 k1 k2 k3 k4 k5 k6 k7 k8 k9 k10 k11 k12 k13
      go_wp2
      exact ⟨rfl, rfl, ⟨_, rfl, hsW, by simp⟩, GK.of ((Below.refl _ _).alloc (Nat.le_refl _) _) hsW⟩
    simp only [Act.put, List.setIfInBounds_toArray, List.set_cons_zero, List.set_cons_succ]
    refine Obl.still (fun W hg _ => ?_) ?_
    · have c0 := GK.cell hg k0 (by show w.heap.size < wb.heap.size; omega); have c1 := GK.cell hg k1 (by show w.heap.size < wb.heap.size; omega); have c2 := GK.cell hg k2 (by show w.heap.size < wb.heap.size; omega); have c3 := GK.cell hg k3 (by show w.heap.size < wb.heap.size; omega); have c4 := GK.cell hg k4 (by show w.heap.size < wb.heap.size; omega); have c5 := GK.cell hg k5 (by show w.heap.size + 1 < wb.heap.size; omega); have c6 := GK.cell hg k6 (by show w.heap.size + 1 < wb.heap.size; omega); have c7 := GK.cell hg k7 (by show w.heap.size + 1 < wb.heap.size; omega); have c8 := GK.cell hg k8 (by show w.heap.size + 1 + 1 < wb.heap.size; omega); have c9 := GK.cell hg k9 (by show w.heap.size + 1 + 1 < wb.heap.size; omega); have c10 := GK.cell hg k10 (by show w.heap.size + 1 + 1 < wb.heap.size; omega); have c11 := GK.cell hg k11 (by show w.heap.size + 1 + 1 < wb.heap.size; omega); have c12 := GK.cell hg k12 (by show w.heap.size + 1 + 1 < wb.heap.size; omega); have c13 := GK.cell hg k13 (by show w.heap.size + 1 + 1 < wb.heap.size; omega); clear hg k0 k1 k2 k3 k4 k5 k6 k7 k8 k9 k10 k11 k12 k13
      go_wp2
      exact ⟨rfl, rfl, rfl, GK.refl _ _ _ _⟩
    simp only [Act.put, List.setIfInBounds_toArray, List.set_cons_zero, List.set_cons_succ]
    refine Obl.grow (fun _ _ _ ⟨A, n, c, e, o⟩ h => ⟨A, n, c, e, h.2.1 _ _ _ o⟩) (fun W hg ⟨h6, _⟩ => ?_) (fun v8 => ?_)
    · obtain ⟨g6, rfl, hg6, hs6⟩ := h6
      have hsW : wb.heap.size ≤ W.heap.size := hg.1.size
      have HO := Lib.hid (EmptyV.own hg6 hs6)
      have HR := Lib.hid (HA2.out.below (w := wb) ((Below.refl _ _).drew.trans hg.1))
      clear hg k0 k1 k2 k3 k4 k5 k6 k7 k8 k9 k10 k11 k12 k13 hg6 hs6
      refine wpList_append_sl3 rfl _ _ 24 5 (.int .u8 0) 1 rfl Tryz.underlying24 infoB rfl (fun _ => rfl) rfl rfl HO.out HR.out (by omega) (by omega) hsW ?_
      intro A4 c4 w4 h1 h2 h3 h4 h5
      have hq1 := Lib.hid h1
      have hq2 := Lib.hid h2
      have hq3 := Lib.hid h3
      have hq4 := Lib.hid h4
      have hq5 := Lib.hid h5
      clear h1 h2 h3 h4 h5
      go_wp2
      refine ⟨rfl, rfl, ⟨_, _, _, rfl, by simpa using hq1.out⟩, GK.of (hq5.out (by omega)) hsW⟩
    simp only [Act.put, List.setIfInBounds_toArray, List.set_cons_zero, List.set_cons_succ]
    refine Obl.still (fun W hg _ => ?_) ?_
    · have c0 := GK.cell hg k0 (by show w.heap.size < wb.heap.size; omega); have c1 := GK.cell hg k1 (by show w.heap.size < wb.heap.size; omega); have c2 := GK.cell hg k2 (by show w.heap.size < wb.heap.size; omega); have c3 := GK.cell hg k3 (by show w.heap.size < wb.heap.size; omega); have c4 := GK.cell hg k4 (by show w.heap.size < wb.heap.size; omega); have c5 := GK.cell hg k5 (by show w.heap.size + 1 < wb.heap.size; omega); have c6 := GK.cell hg k6 (by show w.heap.size + 1 < wb.heap.size; omega); have c7 := GK.cell hg k7 (by show w.heap.size + 1 < wb.heap.size; omega); have c8 := GK.cell hg k8 (by show w.heap.size + 1 + 1 < wb.heap.size; omega); have c9 := GK.cell hg k9 (by show w.heap.size + 1 + 1 < wb.heap.size; omega); have c10 := GK.cell hg k10 (by show w.heap.size + 1 + 1 < wb.heap.size; omega); have c11 := GK.cell hg k11 (by show w.heap.size + 1 + 1 < wb.heap.size; omega); have c12 := GK.cell hg k12 (by show w.heap.size + 1 + 1 < wb.heap.size; omega); have c13 := GK.cell hg k13 (by show w.heap.size + 1 + 1 < wb.heap.size; omega); clear hg k0 k1 k2 k3 k4 k5 k6 k7 k8 k9 k10 k11 k12 k13
      go_wp2
      exact ⟨rfl, rfl, rfl, GK.refl _ _ _ _⟩
    simp only [Act.put, List.setIfInBounds_toArray, List.set_cons_zero, List.set_cons_succ]
    refine Obl.grow (fun _ _ _ ⟨A, n, c, e, o⟩ h => ⟨A, n, c, e, h.2.2 _ _ _ o⟩) (fun W hg ⟨h8, _⟩ => ?_) (fun v10 => ?_)
    · obtain ⟨Ah8, nh8, ch8, rfl, h8⟩ := h8
      have hsW : wb.heap.size ≤ W.heap.size := hg.1.size
      obtain rfl : f.N = nh8 := by rw [← h8.len]; exact HL0.out.symm
      have HO := Lib.hid h8
      have HR := Lib.hid (HB.out.below (w := wb) ((Below.refl _ _).drew.trans hg.1))
      clear hg k0 k1 k2 k3 k4 k5 k6 k7 k8 k9 k10 k11 k12 k13 h8
      refine wpList_append_sl3 rfl _ _ 24 5 (.int .u8 0) 1 rfl Tryz.underlying24 infoB rfl (fun _ => rfl) rfl rfl HO.out HR.out (by omega) (by omega) hsW ?_
      intro A4 c4 w4 h1 h2 h3 h4 h5
      have hq1 := Lib.hid h1
      have hq2 := Lib.hid h2
      have hq3 := Lib.hid h3
      have hq4 := Lib.hid h4
      have hq5 := Lib.hid h5
      clear h1 h2 h3 h4 h5
      go_wp2
      exact ⟨rfl, rfl, ⟨_, _, _, rfl, hq1.out⟩, ⟨hq2.out, hq3.out, hq4.out⟩⟩
    simp only [Act.put, List.setIfInBounds_toArray, List.set_cons_zero, List.set_cons_succ]
    refine Obl.done (fun W hg hall => ?_)
    obtain ⟨hx, _⟩ := hall
    obtain ⟨Au, nu, cu, rfl, hx⟩ := hx
    have hbW : Below w.heap.size w W := HG0.out.trans ((HGB.out.mono HG0.out.size).trans (((Below.refl _ _).drew.trans hg.1).mono (Nat.le_trans HG0.out.size HGB.out.size)))
    have HC := Lib.hid (rat_any f HM.out.ok A3 Au n3 nu c3 cu m.seed (lt ++ rt) ⟨0, tree, 0, q, 0, 0⟩ 3 (g + 1) i W (HM.out.r3.below hbW) HM.out.seed HM.out.adok (by omega) (by omega) (by omega) hx.rd (by rw [List.length_append, HL0.out, HL1.out]; omega))
    unfold vFew vAd at HC
    rw [show ((g + 1 : Nat) : Int) = (g : Int) + 1 by omega] at HC
    have HBW := Lib.hid hbW
    clear hbW
    clear hg k0 k1 k2 k3 k4 k5 k6 k7 k8 k9 k10 k11 k12 k13 hx
    go_wp2_with fail
    refine HC.out.mono ?_
    rintro e w8 ⟨A8, n8, c8, rfl, h5, h6⟩
    have H5 := Lib.hid (h5.mono HBW.out.size)
    have H8 := Lib.hid (Below.trans HBW.out (h6.mono HBW.out.size))
    clear h5 h6 HC
    go_wp2
    go_ret
    exact ⟨_, _, _, rfl, by rw [HRES.out]; exact H5.out, H8.out⟩


end Go.Proofs.Sl

/- The document's: the number that bytes are; 2 to n. -/
namespace Go.Proofs.Sl
open Go.RowKit Go.Proofs

set_option maxHeartbeats 400000 in
theorem rget_any (A : Option Addr) (n c : Nat) (l : List UInt8) (w : World) (h : Rd eB w A n l) (h8 : n ≤ 8) :
    Calls Tryz.prog 52 #[.slice A n c] w fun e w' => e = .returned (.tuple #[.int .u64 (getBE l : Nat), .bool true]) ∧ w = w' := by
  obtain rfl := h.len
  go_enter Tryz.func52, Tryz.ntmps52
  go_wp2
  go_loop [4, 5] (fun v i => ∃ k : Nat, k ≤ l.length ∧ i = .int .i64 k ∧ v = .int .u64 (getBE (l.take k) : Nat)) (fun _ i => l.length - (intOf i).toNat)
  case atStart => exact ⟨0, Nat.zero_le _, rfl, rfl⟩
  case round =>
    obtain ⟨k, hk, rfl, rfl⟩ := hrel
    by_cases hlt : k < l.length
    · obtain ⟨ad, rfl, hc⟩ := h.at k hlt
      have hb := getBE_take_lt l k hlt h8
      have hx := l[k].toNat_lt
      have hs := getBE_take l k hlt
      have HS := Lib.hid hs
      clear hs
      go_wp2
      go_round
      case rel => exact ⟨k + 1, by omega, by go_num, by rw [HS.out]; go_num⟩
      case measure => simp [intOf]; omega
    · have hk' : k = l.length := by omega
      subst hk'
      go_wp2
      go_ret2
      exact ⟨by simp, rfl⟩

set_option maxHeartbeats 400000 in
theorem rpow_any (n : Nat) (w : World) (hn : n ≤ 63) :
    Calls Tryz.prog 43 #[.int .i64 (n : Int)] w fun e w' => e = .returned (.int .u64 ((2 ^ n : Nat) : Int)) ∧ w = w' := by
  obtain ⟨r, hr⟩ : ∃ r, 2 ^ n = r := ⟨_, rfl⟩
  rw [hr]
  have HRES := Lib.hid hr
  clear hr
  go_enter Tryz.func43, Tryz.ntmps43
  go_wp2
  go_loop [3, 4] (fun v i => ∃ k : Nat, k ≤ n ∧ i = .int .i64 k ∧ v = .int .u64 ((2 ^ k : Nat) : Int)) (fun _ i => n - (intOf i).toNat)
  case atStart => exact ⟨0, Nat.zero_le _, rfl, rfl⟩
  case round =>
    obtain ⟨k, hk, rfl, rfl⟩ := hrel
    have HP : Hid (2 ^ (k + 1) = 2 ^ k * 2 ∧ (k < n → 2 ^ k * 2 < 2 ^ 64)) := Lib.hid ⟨Nat.pow_succ .., fun h => by rw [← Nat.pow_succ]; exact Nat.pow_lt_pow_right (by omega) (by omega)⟩
    have HX : Hid (k = n → 2 ^ k = r) := Lib.hid (fun h => by rw [h]; exact HRES.out)
    generalize 2 ^ k = x at *
    by_cases hlt : k < n
    · go_wp2
      go_round
      case rel =>
        refine ⟨k + 1, by omega, by go_num, ?_⟩
        rw [HP.out.1]
        have h1 := HP.out.2 hlt
        first | rw [wraps_u64 _ (by omega) (by exact_mod_cast h1)] | skip
        rw [Int.natCast_mul]
        rfl
      case measure => simp [intOf]; omega
    · have hk' : k = n := by omega
      obtain rfl := HX.out hk'
      subst hk'
      go_wp2
      go_ret
      exact ⟨rfl, rfl⟩

set_option maxHeartbeats 400000 in
theorem rpow32_any (n : Nat) (w : World) (hn : n ≤ 14) :
    Calls Tryz.prog 74 #[.int .i64 (n : Int)] w fun e w' => e = .returned (.int .u32 ((2 ^ n : Nat) : Int)) ∧ w = w' := by
  obtain ⟨r, hr⟩ : ∃ r, 2 ^ n = r := ⟨_, rfl⟩
  rw [hr]
  have HRES := Lib.hid hr
  clear hr
  go_enter Tryz.func74, Tryz.ntmps74
  go_wp2
  go_loop [3, 4] (fun v i => ∃ k : Nat, k ≤ n ∧ i = .int .i64 k ∧ v = .int .u32 ((2 ^ k : Nat) : Int)) (fun _ i => n - (intOf i).toNat)
  case atStart => exact ⟨0, Nat.zero_le _, rfl, rfl⟩
  case round =>
    obtain ⟨k, hk, rfl, rfl⟩ := hrel
    have HP : Hid (2 ^ (k + 1) = 2 ^ k * 2) := Lib.hid (Nat.pow_succ ..)
    have hb : 2 ^ k ≤ 16384 := Nat.le_trans (Nat.pow_le_pow_right (by omega) (show k ≤ 14 by omega)) (by decide)
    have HX : Hid (k = n → 2 ^ k = r) := Lib.hid (fun h => by rw [h]; exact HRES.out)
    generalize 2 ^ k = x at *
    by_cases hlt : k < n
    · go_wp2
      go_round
      case rel => exact ⟨k + 1, by omega, by go_num, by rw [HP.out]; go_num⟩
      case measure => simp [intOf]; omega
    · have hk' : k = n := by omega
      obtain rfl := HX.out hk'
      subst hk'
      go_wp2
      go_ret
      exact ⟨rfl, rfl⟩
end Go.Proofs.Sl

/- The document's FORS: the numbers of bytes. -/
namespace Go.Proofs.Sl
open Go.RowKit Go.Proofs

theorem bitAt_lt2 (b : List UInt8) (i : Nat) : bitAt b i < 2 := Nat.mod_lt _ (by omega)

set_option maxHeartbeats 2000000 in
theorem rdigits_any (f : Few) (hf : FewOk f) (A : Option Addr) (n c : Nat) (b : List UInt8) (w : World) (hr : Rd eB w A n b) (hn : n ≤ 1048576) (hlen : f.K * f.A ≤ b.length * 8) :
    Calls Tryz.prog 73 #[vFew f, .slice A n c] w (RetOwn eU w (fDigits f b)) := by
  have HM := Lib.hid (fun w => mayI_ok' hf ▸ rmay_any f.N f.L f.H f.K f.A w)
  have HR := Lib.hid hr
  have hbl := hr.len
  have hK1 := hf.K1; have hK2 := hf.K2; have hA1 := hf.A1; have hA2 := hf.A2
  obtain ⟨ka, hka⟩ : ∃ x, f.K * f.A = x := ⟨_, rfl⟩
  have hka1 : (f.K : Int) * (f.A : Int) = (ka : Int) := by rw [← hka, Int.natCast_mul]
  have hka2 : ka ≤ n * 8 := by rw [← hka, ← hbl]; exact hlen
  have hka3 : ka ≤ 560 := by rw [← hka]; exact Nat.le_trans (Nat.mul_le_mul hK2 hA2) (by omega)
  have HKA := Lib.hid hka
  clear hr hlen hka hf
  unfold vFewI at HM
  unfold vFew
  go_enter Tryz.func73, Tryz.ntmps73
  go_wp2_with fail
  refine (HM.out _).mono ?_
  rintro e w1 ⟨rfl, hB⟩
  have q3 : w1.cell? ⟨w.heap.size, 3, none⟩ = some (.int .i64 (f.K : Int)) := (hB.cell (by simp)).trans (by go_simp)
  have q4 : w1.cell? ⟨w.heap.size, 4, none⟩ = some (.int .i64 (f.A : Int)) := (hB.cell (by simp)).trans (by go_simp)
  have HG1 : Hid (Grow w w1) := Lib.hid (((Below.refl _ w).alloc (Nat.le_refl _) _).trans (hB.mono (by simp)))
  clear hB
  go_wp2_with fail
  go_loopw [5, 6] (fun v t wr => ∃ (k : Nat) (A' : Option Addr) (c' : Nat), k ≤ f.K ∧ t = .int .i64 (k : Int) ∧ v = .slice A' k c' ∧ Own eU w1.heap.size wr A' k c' ((fDigits f b).take k) ∧ Grow w1 wr) (fun _ t _ => f.K - (intOf t).toNat)
  case atStart => exact ⟨0, none, 0, Nat.zero_le _, rfl, rfl, Own.nil _ _, Grow.refl _⟩
  case round =>
    obtain ⟨k, A', c', hk, rfl, rfl, ho, hb⟩ := hrel
    have HO := Lib.hid ho
    have HB := Lib.hid hb
    have p3 := cell_old hb q3
    have p4 := cell_old hb q4
    clear ho hb
    by_cases hlt : k < f.K
    · obtain ⟨lo, hlo⟩ : ∃ x, k * f.A = x := ⟨_, rfl⟩
      have hlo1 : (k : Int) * (f.A : Int) = (lo : Int) := by rw [← hlo, Int.natCast_mul]
      have hlo2 : ((k : Int) + 1) * (f.A : Int) = (lo : Int) + (f.A : Int) := by rw [Int.add_mul, hlo1]; simp
      have hlo3 : lo + f.A ≤ ka := by rw [← HKA.out, ← hlo, ← Nat.succ_mul]; exact Nat.mul_le_mul_right _ hlt
      have HLO := Lib.hid hlo
      have HRW := Lib.hid (HR.out.below (Below.trans HG1.out (HB.out.mono HG1.out.size)))
      clear hlo
      go_wp2_with fail
      go_loopw [7, 8] (fun d t wr' => ∃ i : Nat, i ≤ f.A ∧ t = .int .i64 ((lo + i : Nat) : Int) ∧ d = .int .u32 ((digitTo f.A b k i : Nat) : Int) ∧ wr = wr') (fun _ t _ => lo + f.A - (intOf t).toNat)
      case atStart => exact ⟨0, Nat.zero_le _, by simp, by simp [digitTo], rfl⟩
      case round =>
        obtain ⟨i, hi, rfl, rfl, rfl⟩ := hrel
        obtain ⟨at_, hat⟩ : ∃ x, lo + i = x := ⟨_, rfl⟩
        rw [hat]
        by_cases hil : i < f.A
        · have hl1 : at_ < lo + f.A := by omega
          have hl2 : at_ < n * 8 := by omega
          obtain ⟨ad, rfl, hc⟩ := HRW.out.at (at_ / 8) (by omega)
          have hbit : bitAt b at_ = (b[at_ / 8]'(by omega)).toNat / 2 ^ (7 - at_ % 8) % 2 := by
            unfold bitAt
            rw [List.getD_eq_getElem?_getD, List.getElem?_eq_getElem (by omega)]
            rfl
          have hcl := (b[at_ / 8]'(by omega)).toNat_lt
          obtain ⟨cn, hcn⟩ : ∃ x, (b[at_ / 8]'(by omega)).toNat = x := ⟨_, rfl⟩
          rw [hcn] at hbit hcl
          have hc1 : wr.cell? (ad.add (at_ / 8)) = some (.int .u8 (cn : Int)) := by rw [← hcn]; exact hc
          clear hc hcn
          have hst : digitTo f.A b k (i + 1) = 2 * digitTo f.A b k i + bitAt b at_ := by rw [← hat, ← HLO.out]; rfl
          have hdd : digitTo f.A b k i < 16384 := Nat.lt_of_lt_of_le (digitTo_lt f.A b k i) (Nat.le_trans (Nat.pow_le_pow_right (by omega) (show i ≤ 14 by omega)) (by decide))
          rw [hbit] at hst
          generalize digitTo f.A b k i = dd at *
          have hz : (cn : Int) / 2 ^ (7 - at_ % 8) = ((cn / 2 ^ (7 - at_ % 8) : Nat) : Int) := pow_cast _ _
          have hzl : cn / 2 ^ (7 - at_ % 8) < 256 := Nat.lt_of_le_of_lt (Nat.div_le_self _ _) hcl
          have i1 : (at_ : Int) / 8 = ((at_ / 8 : Nat) : Int) := by omega
          have i2 : 7 - (at_ : Int) % 8 = ((7 - at_ % 8 : Nat) : Int) := by omega
          have hs7 : 7 - at_ % 8 ≤ 7 := by omega
          have hk2 : at_ / 8 < n := by omega
          have HAT := Lib.hid hat
          clear hbit hat
          generalize 7 - at_ % 8 = s at *
          generalize cn / 2 ^ s = z at *
          generalize at_ / 8 = j at *
          have HST := Lib.hid hst
          clear hst
          go_wp2
          go_roundw
          case rel => exact ⟨i + 1, by omega, by have := HAT.out; go_num, by rw [HST.out]; go_num, trivial⟩
          case measure => have := HAT.out; simp [intOf]; omega
        · have hi4 : i = f.A := by omega
          have hat2 : at_ = lo + f.A := by omega
          have hl1 : ¬ (at_ : Int) < (lo : Int) + (f.A : Int) := by omega
          rw [hi4]
          have htk : (fDigits f b).take k ++ [digitTo f.A b k f.A] = (fDigits f b).take (k + 1) := by
            rw [List.take_succ_eq_append_getElem (by rw [fDigits_length]; exact hlt), fDigits_at]
          have hdd : digitTo f.A b k f.A < 16384 := Nat.lt_of_lt_of_le (digitTo_lt f.A b k f.A) (Nat.le_trans (Nat.pow_le_pow_right (by omega) hA2) (by decide))
          generalize digitTo f.A b k f.A = dg at *
          have HTK := Lib.hid htk
          have HN : Hid (Rd eU (wr.alloc (.cells #[.int .u32 (dg : Int)] 27)) (some ⟨wr.heap.size, 0, none⟩) 1 [dg]) := Lib.hid ⟨rfl, by omega, fun j hj => ⟨_, rfl, by
            match j, hj with
            | 0, _ => rw [add_zero']; exact cell_new ..⟩⟩
          have HO2 := Lib.hid (HO.out.alloc (.cells #[.int .u32 (dg : Int)] 27))
          have HB2 : Hid (Grow w1 _) := Lib.hid (HB.out.alloc HB.out.size (.cells #[.int .u32 (dg : Int)] 27))
          have hs2 := HB2.out.size
          clear htk hi4 hat hat2
          go_wp2_with (at_builtin; refine wpList_append_sl rfl _ _ 90 27 (.int .u32 0) 4 rfl Tryz.underlying90 infoW rfl (fun _ => rfl) rfl rfl HO2.out HN.out (by omega) (by omega) hs2 ?_; intro A4 c4 w4 h1 h2 h3; have H4 := Lib.hid h1; have H5 : Hid (Grow w1 w4) := Lib.hid (Below.trans HB2.out h3); clear h1 h2 h3)
          go_roundw
          case rel => exact ⟨k + 1, A4, c4, by omega, by go_num, rfl, by rw [← HTK.out]; exact H4.out, H5.out⟩
          case measure => simp [intOf]; omega
    · have hk2 : k = f.K := by omega
      have htk : (fDigits f b).take k = fDigits f b := List.take_of_length_le (by rw [fDigits_length]; omega)
      rw [htk] at HO
      clear htk hk2
      go_wp2
      go_ret
      exact ⟨_, _, _, rfl, HO.out.mono HG1.out.size, Below.trans HG1.out (HB.out.mono HG1.out.size)⟩
end Go.Proofs.Sl
