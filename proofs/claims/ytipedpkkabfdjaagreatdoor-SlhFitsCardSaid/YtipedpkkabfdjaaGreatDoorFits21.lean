/- The plain law: what was signed fits. No program in sight. slh: what holds in the loops of Sign and Fits. A range over a function whose rounds begin by making a variable of their own. -/
import Derived.Test.YtipedpkkabfdjaaGreatDoorFits16
import Derived.Test.YtipedpkkabfdjaaGreatDoorFits18
import Derived.Test.YtipedpkkabfdjaaGreatDoorFits20
import Derived.Test.YtipedpkkabfdjaaGreatDoorFits04
/- The plain law: what was signed fits. No program in sight. -/
namespace Go.Proofs.Sl

theorem cut_left (a b : List UInt8) (N : Nat) (h : a.length = N) : cutL (a ++ b) 0 N = a := by
  unfold cutL; subst h; simp
theorem cut_right (a b : List UInt8) (M i j : Nat) (h : a.length = M) : cutL (a ++ b) (M + i) (M + j) = cutL b i j := by
  unfold cutL
  subst h
  rw [List.take_length_add_append, List.drop_length_add_append]
theorem cut_in (a b : List UInt8) (i j : Nat) (h : j ≤ a.length) : cutL (a ++ b) i j = cutL a i j := by
  unfold cutL
  rw [List.take_append_of_le_length h]
theorem cut_flat (h : Nat → List UInt8) (N : Nat) : ∀ (k j : Nat), (∀ i, i < k → (h i).length = N) → j < k → cutL ((List.range k).flatMap h) (j * N) ((j + 1) * N) = h j
  | 0, _, _, hj => by omega
  | k + 1, j, hh, hj => by
    rw [range_flat']
    have hl := flat_len_r h N k (fun i hi => hh i (by omega))
    by_cases e : j = k
    · subst e
      have := cut_right ((List.range j).flatMap h) (h j) (j * N) 0 N hl
      rw [Nat.add_zero, ← Nat.succ_mul] at this
      rw [this]
      unfold cutL
      rw [List.drop_zero, List.take_of_length_le (by rw [hh j (by omega)]; exact Nat.le_refl _)]
    · have hle : (j + 1) * N ≤ k * N := Nat.mul_le_mul_right _ (by omega)
      rw [cut_in _ _ _ _ (by rw [hl]; exact hle)]
      exact cut_flat h N k j (fun i hi => hh i (by omega)) (by omega)

/-! ### FORS -/
theorem climb_node (f : Few) (hN : f.N ≤ 136) (seed sec : List UInt8) (tree q i : Nat) : ∀ g, g ≤ f.A → fClimb f.N seed tree q (fSecret f.N seed sec tree q i ++ fWay f seed sec tree q i) i g = fNode f.N seed sec tree q g (i / 2 ^ g)
  | 0, _ => by
    show tweakL _ _ _ _ = tweakL _ _ _ _
    rw [cut_left _ _ _ (fSecret_length _ _ _ _ _ _ hN)]
    simp
  | g + 1, hg => by
    have ih := climb_node f hN seed sec tree q i g (by omega)
    have hc : cutL (fSecret f.N seed sec tree q i ++ fWay f seed sec tree q i) ((g + 1) * f.N) ((g + 2) * f.N) = fNode f.N seed sec tree q g (other (i / 2 ^ g)) := by
      have := cut_right (fSecret f.N seed sec tree q i) (fWay f seed sec tree q i) f.N (g * f.N) ((g + 1) * f.N) (fSecret_length _ _ _ _ _ _ hN)
      rw [show (g + 1) * f.N = f.N + g * f.N by rw [Nat.succ_mul, Nat.add_comm], show (g + 2) * f.N = f.N + (g + 1) * f.N by rw [show g + 2 = (g + 1) + 1 by omega, Nat.succ_mul (g + 1), Nat.add_comm], this]
      exact cut_flat _ f.N f.A g (fun _ _ => fNode_length _ _ _ _ _ _ _ hN) (by omega)
    have hd : i / 2 ^ (g + 1) = i / 2 ^ g / 2 := by rw [Nat.pow_succ, Nat.div_div_eq_div_mul]
    show tweakL _ _ _ (if i / 2 ^ g % 2 = 1 then _ else _) = tweakL _ _ _ _
    rw [hc, ih, hd]
    congr 1
    generalize i / 2 ^ g = x
    unfold other
    by_cases hx : x % 2 = 1
    · rw [if_pos hx, if_pos hx, show 2 * (x / 2) = x - 1 by omega, show x - 1 + 1 = x by omega]
    · rw [if_neg hx, if_neg hx, show 2 * (x / 2) = x by omega]

theorem index_div (f : Few) (b : List UInt8) (k : Nat) : fIndex f b k / 2 ^ f.A = k := by
  unfold fIndex
  rw [Nat.mul_comm, Nat.mul_add_div (Nat.two_pow_pos _), Nat.div_eq_of_lt (digitTo_lt _ _ _ _), Nat.add_zero]
theorem flatMap_congr' (l : List Nat) (g h : Nat → List UInt8) (e : ∀ x ∈ l, g x = h x) : l.flatMap g = l.flatMap h := by
  induction l with
  | nil => rfl
  | cons a l ih => rw [List.flatMap_cons, List.flatMap_cons, e a (by simp), ih (fun x hx => e x (by simp [hx]))]
theorem stands_whole (f : Few) (hN : f.N ≤ 136) (seed sec : List UInt8) (tree q : Nat) (b : List UInt8) : fStands f seed tree q b (fTell f seed sec tree q b) = fWhole f seed sec tree q := by
  unfold fStands fWhole
  congr 1
  apply flatMap_congr'
  intro k hk
  have hk : k < f.K := List.mem_range.1 hk
  have hc : cutL (fTell f seed sec tree q b) (k * fEach f) ((k + 1) * fEach f) = fSecret f.N seed sec tree q (fIndex f b k) ++ fWay f seed sec tree q (fIndex f b k) :=
    cut_flat _ (fEach f) f.K k (fun i _ => by rw [List.length_append, fSecret_length _ _ _ _ _ _ hN, fWay_length _ _ _ _ _ _ hN]; unfold fEach; rw [Nat.succ_mul, Nat.add_comm]) hk
  rw [hc, climb_node f hN seed sec tree q _ f.A (Nat.le_refl _), index_div]

/-! ### SLH -/
theorem upL_add (N : Nat) (seed : List UInt8) (layer tree q i : Nat) (x : List UInt8) (d : Nat) : ∀ n, upL N seed layer tree q i d (upL N seed layer tree q i 0 x d) n = upL N seed layer tree q i 0 x (d + n)
  | 0 => rfl
  | n + 1 => by
    show tweakL _ _ _ _ = tweakL _ _ _ _
    rw [upL_add N seed layer tree q i x d n, Nat.zero_add]
    rfl
theorem ends_leaf (N H : Nat) (hN : N ≤ 136) (seed sec : List UInt8) (layer tree q : Nat) (of : List UInt8) : sEnds N seed layer tree q of (sSign N H seed sec layer tree q of) = leafL N seed sec layer tree q := by
  unfold sEnds leafL
  congr 1
  apply flatMap_congr'
  intro i hi
  have hi : i < chainsL N := List.mem_range.1 hi
  have hc : cutL (sSign N H seed sec layer tree q of) (i * N) ((i + 1) * N) = upL N seed layer tree q i 0 (sSecret N seed sec layer tree q i) ((digAll of).getD i 0) := by
    unfold sSign
    rw [cut_in _ _ _ _ (by rw [sChains_length _ _ _ _ _ _ _ hN]; exact Nat.mul_le_mul_right _ (by omega))]
    exact cut_flat _ N (chainsL N) i (fun _ _ => upL_length _ _ _ _ _ _ _ _ (sSecret_length _ _ _ _ _ _ _ hN) hN _) hi
  have hd := digAll_getD_lt of i
  rw [hc, upL_add]
  congr 1
  omega
theorem climb_snode (N H : Nat) (hN : N ≤ 136) (seed sec : List UInt8) (layer tree q : Nat) : ∀ g, g ≤ H → sClimb N seed layer tree q (leafL N seed sec layer tree q) (sWay N H seed sec layer tree q) g = sNode N seed sec layer tree g (q / 2 ^ g)
  | 0, _ => by simp [sClimb, sNode]
  | g + 1, hg => by
    have ih := climb_snode N H hN seed sec layer tree q g (by omega)
    have hc : cutL (sWay N H seed sec layer tree q) (g * N) ((g + 1) * N) = sNode N seed sec layer tree g (other (q / 2 ^ g)) :=
      cut_flat _ N H g (fun _ _ => sNode_length _ _ _ _ _ _ _ hN) (by omega)
    have hd : q / 2 ^ (g + 1) = q / 2 ^ g / 2 := by rw [Nat.pow_succ, Nat.div_div_eq_div_mul]
    show tweakL _ _ _ (if q / 2 ^ g % 2 = 1 then _ else _) = tweakL _ _ _ _
    rw [hc, ih, hd]
    congr 1
    generalize q / 2 ^ g = x
    unfold other
    by_cases hx : x % 2 = 1
    · rw [if_pos hx, if_pos hx, show 2 * (x / 2) = x - 1 by omega, show x - 1 + 1 = x by omega]
    · rw [if_neg hx, if_neg hx, show 2 * (x / 2) = x by omega]
theorem leads_root (N H : Nat) (hN : N ≤ 136) (seed sec : List UInt8) (layer tree q : Nat) (of : List UInt8) (hq : q < 2 ^ H) : sLeads N H seed layer tree q of (sSign N H seed sec layer tree q of) = sNode N seed sec layer tree H 0 := by
  unfold sLeads
  rw [ends_leaf N H hN]
  have hdp : (sSign N H seed sec layer tree q of).drop (chainsL N * N) = sWay N H seed sec layer tree q := by
    unfold sSign
    rw [← sChains_length N seed sec layer tree q of hN, List.drop_left]
  rw [hdp, climb_snode N H hN seed sec layer tree q H (Nat.le_refl _), Nat.div_eq_of_lt hq]

theorem sWay_length (N H : Nat) (hN : N ≤ 136) (seed sec : List UInt8) (layer tree q : Nat) : (sWay N H seed sec layer tree q).length = H * N := flat_len_r _ N H fun _ _ => sNode_length _ _ _ _ _ _ _ hN
theorem sSign_length (N H : Nat) (hN : N ≤ 136) (seed sec : List UInt8) (layer tree q : Nat) (of : List UInt8) : (sSign N H seed sec layer tree q of).length = N * (chainsL N + H) := by
  unfold sSign
  rw [List.length_append, sChains_length _ _ _ _ _ _ _ hN, sWay_length N H hN, ← Nat.add_mul, Nat.mul_comm]
theorem fTell_length (f : Few) (hN : f.N ≤ 136) (seed sec : List UInt8) (tree q : Nat) (b : List UInt8) : (fTell f seed sec tree q b).length = f.K * ((f.A + 1) * f.N) := fTell_part f seed sec tree q b hN f.K
theorem layersL_length (f : Few) (hN : f.N ≤ 136) (m : Sec) (tree q : Nat) (n : Nat) : (layersL f m tree q n).length = n * sEach f := flat_len_r _ (sEach f) n fun _ _ => sSign_length _ _ hN _ _ _ _ _ _
theorem saltL_length (f : Few) (hN : f.N ≤ 136) (m : Sec) (extra text : List UInt8) : (saltL f m extra text).length = f.N := shakeL_length _ _ hN
theorem sHead_eq (f : Few) : sHead f = f.N + f.K * ((f.A + 1) * f.N) := by
  unfold sHead
  rw [Nat.mul_add, Nat.mul_one, ← Nat.mul_assoc f.K, Nat.mul_comm f.N]
theorem signL_length (f : Few) (hN : f.N ≤ 136) (m : Sec) (extra text : List UInt8) : (signL f m extra text).length = sizeL f := by
  unfold signL
  dsimp only
  rw [List.length_append, List.length_append, saltL_length f hN, fTell_length f hN, layersL_length f hN, ← sHead_eq]
  unfold sHead sizeL sEach
  rw [Nat.mul_left_comm f.L f.N, ← Nat.mul_add]

theorem leafAt_lt (f : Few) (tree q : Nat) (hq : q < 2 ^ f.H) : ∀ l, leafAt f.H tree q l < 2 ^ f.H
  | 0 => hq
  | _ + 1 => Nat.mod_lt _ (Nat.two_pow_pos _)
theorem climb_layers (f : Few) (hN : f.N ≤ 136) (m : Sec) (tree q : Nat) (hq : q < 2 ^ f.H) (head : List UInt8) (hh : head.length = sHead f) : ∀ l, l ≤ f.L → climbTo f m.seed tree q (fWhole f m.seed m.secret tree q) (head ++ layersL f m tree q f.L) l = ofAt f m tree q l
  | 0, _ => rfl
  | l + 1, hl => by
    have ih := climb_layers f hN m tree q hq head hh l (by omega)
    show sLeads _ _ _ _ _ _ _ _ = rootL _ _ _ _
    have hc : cutL (head ++ layersL f m tree q f.L) (sHead f + l * sEach f) (sHead f + (l + 1) * sEach f) = sSign f.N f.H m.seed m.secret l (treeAt f.H tree l) (leafAt f.H tree q l) (ofAt f m tree q l) := by
      rw [cut_right _ _ _ _ _ hh]
      exact cut_flat _ (sEach f) f.L l (fun _ _ => sSign_length _ _ hN _ _ _ _ _ _) (by omega)
    rw [ih, hc, leads_root _ _ hN _ _ _ _ _ _ (leafAt_lt f tree q hq l)]
    rfl
theorem sameB_refl (a : List UInt8) : sameB a a = true := by simp [sameB]
theorem signed_fits (f : Few) (m : Sec) (h : MadeOk f m) (extra text : List UInt8) : fitsL f (publicL f m) text (signL f m extra text) = true := by
  have hN : f.N ≤ 136 := by have := h.ok.N.le'; omega
  have hL := h.ok.L1
  have e1 : cutL (signL f m extra text) 0 f.N = saltL f m extra text := by
    unfold signL
    dsimp only
    rw [List.append_assoc, cut_left _ _ _ (saltL_length f hN m extra text)]
  have e2 : cutL (publicL f m) 0 f.N = m.seed := cut_left _ _ _ h.seed
  have e3 : (publicL f m).drop f.N = rootL f m (f.L - 1) 0 := by
    unfold publicL
    rw [← h.seed, List.drop_left]
  unfold fitsL
  dsimp only
  rw [e1, e2, e3]
  generalize hd : digestL f (saltL f m extra text) (publicL f m) text = d
  have hsig : signL f m extra text = (saltL f m extra text ++ fTell f m.seed m.secret (treeOf f d) (leafOf f d) (d.take (pA f))) ++ layersL f m (treeOf f d) (leafOf f d) f.L := by
    unfold signL
    dsimp only
    rw [hd]
  have hh : (saltL f m extra text ++ fTell f m.seed m.secret (treeOf f d) (leafOf f d) (d.take (pA f))).length = sHead f := by
    rw [List.length_append, saltL_length f hN, fTell_length f hN, sHead_eq]
  have e4 : cutL (signL f m extra text) f.N (sHead f) = fTell f m.seed m.secret (treeOf f d) (leafOf f d) (d.take (pA f)) := by
    rw [hsig, cut_in _ _ _ _ (by rw [hh]; exact Nat.le_refl _), sHead_eq]
    have := cut_right (saltL f m extra text) (fTell f m.seed m.secret (treeOf f d) (leafOf f d) (d.take (pA f))) f.N 0 (f.K * ((f.A + 1) * f.N)) (saltL_length f hN m extra text)
    rw [Nat.add_zero] at this
    rw [this]
    unfold cutL
    rw [List.drop_zero, List.take_of_length_le (by rw [fTell_length f hN]; exact Nat.le_refl _)]
  have hq : leafOf f d < 2 ^ f.H := Nat.mod_lt _ (Nat.two_pow_pos _)
  rw [e4, stands_whole f hN, hsig, climb_layers f hN m _ _ hq _ hh f.L (Nat.le_refl _)]
  have ht : treeAt f.H (treeOf f d) (f.L - 1) = 0 := by
    unfold treeAt treeOf
    exact Nat.div_eq_of_lt (Nat.mod_lt _ (Nat.two_pow_pos _))
  have he : ofAt f m (treeOf f d) (leafOf f d) f.L = rootL f m (f.L - 1) 0 := by
    obtain ⟨l, hl⟩ : ∃ l, f.L = l + 1 := ⟨f.L - 1, by omega⟩
    rw [hl]
    show rootL f m l (treeAt f.H _ l) = _
    rw [show l + 1 - 1 = l by omega]
    rw [show f.L - 1 = l by omega] at ht
    rw [ht]
  rw [he]
  exact sameB_refl _
end Go.Proofs.Sl

/- slh: what holds in the loops of Sign and Fits. -/
namespace Go.Proofs.Sl
open Go.RowKit Go.Proofs
attribute [local go_sem] Oper.semAt_some

/-- Both boxes of Sign, in any later world. -/
structure SB (f : Few) (A1 A2 A3 : Option Addr) (n1 n2 n3 c1 c2 c3 : Nat) (b : Nat) (w : World) : Prop where
  k0 : w.cell? ⟨b, 0, none⟩ = some (.int .i64 (f.N : Int))
  k1 : w.cell? ⟨b, 1, none⟩ = some (.int .i64 (f.L : Int))
  k2 : w.cell? ⟨b, 2, none⟩ = some (.int .i64 (f.H : Int))
  k3 : w.cell? ⟨b, 3, none⟩ = some (.int .i64 (f.K : Int))
  k4 : w.cell? ⟨b, 4, none⟩ = some (.int .i64 (f.A : Int))
  m0 : w.cell? ⟨b + 1, 0, none⟩ = some (.slice A1 n1 c1)
  m1 : w.cell? ⟨b + 1, 1, none⟩ = some (.slice A2 n2 c2)
  m2 : w.cell? ⟨b + 1, 2, none⟩ = some (.slice A3 n3 c3)
theorem SB.below {f : Few} {A1 A2 A3 : Option Addr} {n1 n2 n3 c1 c2 c3 : Nat} {b : Nat} {w w' : World} (h : SB f A1 A2 A3 n1 n2 n3 c1 c2 c3 b w) (hb : Below w.heap.size w w') : SB f A1 A2 A3 n1 n2 n3 c1 c2 c3 b w' :=
  ⟨cell_old hb h.k0, cell_old hb h.k1, cell_old hb h.k2, cell_old hb h.k3, cell_old hb h.k4, cell_old hb h.m0, cell_old hb h.m1, cell_old hb h.m2⟩
theorem SB.start (f : Few) (A1 A2 A3 : Option Addr) (n1 n2 n3 c1 c2 c3 : Nat) (w : World) : SB f A1 A2 A3 n1 n2 n3 c1 c2 c3 w.heap.size ((w.alloc (.cells #[.int .i64 (f.N : Int), .int .i64 (f.L : Int), .int .i64 (f.H : Int), .int .i64 (f.K : Int), .int .i64 (f.A : Int)] 23)).alloc (.cells #[.slice A1 n1 c1, .slice A2 n2 c2, .slice A3 n3 c3] 26)) := by
  constructor <;> go_simp
/-- What a digest tells, as a value. -/
def DigV (f : Few) (d : List UInt8) (v : Value) (w : World) : Prop := ∃ A, v = .tuple #[.slice A (pA f) (pA f), .int .u64 (treeOf f d : Int), .int .u32 (leafOf f d : Int)] ∧ Rd eB w A (pA f) (d.take (pA f))
theorem DigV.keep (f : Few) (d : List UInt8) (v : Value) (w w' : World) (h : DigV f d v w) (hg : Grow w w') : DigV f d v w' := by
  obtain ⟨A, e, h⟩ := h
  exact ⟨A, e, h.below hg⟩
def RdA (n : Nat) (l : List UInt8) (v : Value) (w : World) : Prop := ∃ A, v = .slice A n n ∧ Rd eB w A n l
theorem RdA.keep (n : Nat) (l : List UInt8) (v : Value) (w w' : World) (h : RdA n l v w) (hg : Grow w w') : RdA n l v w' := by
  obtain ⟨A, e, h⟩ := h
  exact ⟨A, e, h.below hg⟩
def ValV (c : Value) (v : Value) (_ : World) : Prop := v = c
theorem ValV.keep (c v : Value) (w w' : World) (h : ValV c v w) (_ : Grow w w') : ValV c v w' := h

theorem spots_next {f : Few} {tree q : Nat} {pre : List (Nat × Nat × Nat)} {x : Nat × Nat × Nat} (h : pre ++ [x] <+: spotsL f tree q) : pre.length < f.L ∧ x = (pre.length, treeAt f.H tree pre.length, leafAt f.H tree q pre.length) := by
  have h1 := h.length_le
  have h2 : (spotsL f tree q).length = f.L := by simp [spotsL]
  simp at h1
  refine ⟨by omega, ?_⟩
  have h3 := h.getElem (i := pre.length) (by simp)
  simp [spotsL] at h3
  exact h3
theorem SpotsBox.turned {f : Few} {A : Option Addr} {n c t u B1 B2 B3 B4 : Nat} {w w' : World} (h : SpotsBox f A n c t u B1 B2 B3 B4 w) (hs : StS B3 B4 w w') (hd : B1 ≠ B3 ∧ B1 ≠ B4 ∧ B2 ≠ B3 ∧ B2 ≠ B4 ∧ B3 ≠ B4) : ∃ t' u', SpotsBox f A n c t' u' B1 B2 B3 B4 w' := by
  obtain ⟨d1, d2, d3, d4, d5⟩ := hd
  have e1 := hs.block B1 d1 d2
  have e2 := hs.block B2 d3 d4
  obtain ⟨t', u', rfl⟩ := hs
  have hq : (w.drew.setCell ⟨B3, 0, none⟩ (.int .u64 (t' : Int))).cell? ⟨B4, 0, none⟩ = some (.int .u32 (u : Int)) := (World.cell?_of_block (w := w.drew) (a := ⟨B4, 0, none⟩) (block_set _ _ _ _ (Ne.symm d5))).trans h.q
  refine ⟨t', u', (World.cell?_of_block (w := w) (a := ⟨B1, 0, none⟩) e1).trans h.f0, (World.cell?_of_block (w := w) (a := ⟨B1, 1, none⟩) e1).trans h.f1, (World.cell?_of_block (w := w) (a := ⟨B1, 2, none⟩) e1).trans h.f2, (World.cell?_of_block (w := w) (a := ⟨B1, 3, none⟩) e1).trans h.f3, (World.cell?_of_block (w := w) (a := ⟨B1, 4, none⟩) e1).trans h.f4, (World.cell?_of_block (w := w) (a := ⟨B2, 0, none⟩) e2).trans h.s, ?_, ?_, ?_, ?_⟩
  · exact (World.cell?_of_block (w := w.drew.setCell ⟨B3, 0, none⟩ (.int .u64 (t' : Int))) (a := ⟨B3, 0, none⟩) (block_set _ _ _ _ d5)).trans (cell_set_eq _ _ _ _ (.int .u64 (t : Int)) h.t)
  · exact cell_set_eq _ _ _ _ _ hq
  · rw [frozen_set, frozen_set]; exact h.ft
  · rw [frozen_set, frozen_set]; exact h.fq
theorem kps_kept {B1 B2 B3 B4 : Nat} {A B : World} {row : Option Nat} (hg : A.grownBy B row) (hr : ∀ r, row = some r → ∃ o : Obj, A.heap[r]? = some o ∧ o.isCells = false) : KpS B1 B2 B3 B4 A B :=
  ⟨fun _ _ _ _ hv => cell_kept hv hg hr, fun _ _ _ hv => frozen_kept hv hg hr⟩
theorem SB.kept {f : Few} {A1 A2 A3 : Option Addr} {n1 n2 n3 c1 c2 c3 : Nat} {b : Nat} {w w' : World} {row : Option Nat} (h : SB f A1 A2 A3 n1 n2 n3 c1 c2 c3 b w) (hg : w.grownBy w' row) (hr : ∀ r, row = some r → ∃ o : Obj, w.heap[r]? = some o ∧ o.isCells = false) : SB f A1 A2 A3 n1 n2 n3 c1 c2 c3 b w' :=
  ⟨cell_kept h.k0 hg hr, cell_kept h.k1 hg hr, cell_kept h.k2 hg hr, cell_kept h.k3 hg hr, cell_kept h.k4 hg hr, cell_kept h.m0 hg hr, cell_kept h.m1 hg hr, cell_kept h.m2 hg hr⟩
theorem SB.same {f : Few} {A1 A2 A3 : Option Addr} {n1 n2 n3 c1 c2 c3 : Nat} {b : Nat} {w w' : World} (h : SB f A1 A2 A3 n1 n2 n3 c1 c2 c3 b w) (h0 : w'.heap[b]? = w.heap[b]?) (h1 : w'.heap[b + 1]? = w.heap[b + 1]?) : SB f A1 A2 A3 n1 n2 n3 c1 c2 c3 b w' :=
  ⟨(World.cell?_of_block (w := w) (a := ⟨b, 0, none⟩) h0).trans h.k0, (World.cell?_of_block (w := w) (a := ⟨b, 1, none⟩) h0).trans h.k1, (World.cell?_of_block (w := w) (a := ⟨b, 2, none⟩) h0).trans h.k2, (World.cell?_of_block (w := w) (a := ⟨b, 3, none⟩) h0).trans h.k3, (World.cell?_of_block (w := w) (a := ⟨b, 4, none⟩) h0).trans h.k4, (World.cell?_of_block (w := w) (a := ⟨b + 1, 0, none⟩) h1).trans h.m0, (World.cell?_of_block (w := w) (a := ⟨b + 1, 1, none⟩) h1).trans h.m1, (World.cell?_of_block (w := w) (a := ⟨b + 1, 2, none⟩) h1).trans h.m2⟩
theorem Own.sameBlock {B n c : Nat} {w w' : World} {A : Option Addr} {l : List UInt8} (h : Own eB B w A n c l) (hn : 0 < n) (hs : w.heap.size ≤ w'.heap.size) {b : Nat} {v : Value} (hv : w.cell? ⟨b, 0, none⟩ = some v) (hk : ∀ x : UInt8, v ≠ eB x) {b' : Nat} {v' : Value} (hv' : w.cell? ⟨b', 0, none⟩ = some v') (hk' : ∀ x : UInt8, v' ≠ eB x)
    (hb : ∀ k, k ≠ b → k ≠ b' → w'.heap[k]? = w.heap[k]?) : Own eB B w' A n c l := by
  have h1 := h.neBlock hn hv hk
  have h2 := h.neBlock hn hv' hk'
  exact h.same hs fun g hg => hb g (fun e => h1 (by rw [hg, e]; rfl)) (fun e => h2 (by rw [hg, e]; rfl))

/-- A place's box. -/
structure SpB (f : Few) (A : Option Addr) (n c layer tree q b : Nat) (w : World) : Prop where
  s0 : w.cell? ⟨b, 0, none⟩ = some (.int .i64 (f.N : Int))
  s1 : w.cell? ⟨b, 1, none⟩ = some (.int .i64 (f.L : Int))
  s2 : w.cell? ⟨b, 2, none⟩ = some (.int .i64 (f.H : Int))
  s3 : w.cell? ⟨b, 3, none⟩ = some (.int .i64 (f.K : Int))
  s4 : w.cell? ⟨b, 4, none⟩ = some (.int .i64 (f.A : Int))
  s5 : w.cell? ⟨b, 5, none⟩ = some (.slice A n c)
  s6 : w.cell? ⟨b, 6, none⟩ = some (.int .u32 (layer : Int))
  s7 : w.cell? ⟨b, 7, none⟩ = some (.int .u64 (tree : Int))
  s8 : w.cell? ⟨b, 8, none⟩ = some (.int .u32 (q : Int))
theorem SpB.below {f : Few} {A : Option Addr} {n c layer tree q b : Nat} {w w' : World} (h : SpB f A n c layer tree q b w) (hb : Below w.heap.size w w') : SpB f A n c layer tree q b w' :=
  ⟨cell_old hb h.s0, cell_old hb h.s1, cell_old hb h.s2, cell_old hb h.s3, cell_old hb h.s4, cell_old hb h.s5, cell_old hb h.s6, cell_old hb h.s7, cell_old hb h.s8⟩
theorem SpB.same {f : Few} {A : Option Addr} {n c layer tree q b : Nat} {w w' : World} (h : SpB f A n c layer tree q b w) (e : w'.heap[b]? = w.heap[b]?) : SpB f A n c layer tree q b w' :=
  ⟨(World.cell?_of_block (w := w) (a := ⟨b, 0, none⟩) e).trans h.s0, (World.cell?_of_block (w := w) (a := ⟨b, 1, none⟩) e).trans h.s1, (World.cell?_of_block (w := w) (a := ⟨b, 2, none⟩) e).trans h.s2, (World.cell?_of_block (w := w) (a := ⟨b, 3, none⟩) e).trans h.s3, (World.cell?_of_block (w := w) (a := ⟨b, 4, none⟩) e).trans h.s4, (World.cell?_of_block (w := w) (a := ⟨b, 5, none⟩) e).trans h.s5, (World.cell?_of_block (w := w) (a := ⟨b, 6, none⟩) e).trans h.s6, (World.cell?_of_block (w := w) (a := ⟨b, 7, none⟩) e).trans h.s7, (World.cell?_of_block (w := w) (a := ⟨b, 8, none⟩) e).trans h.s8⟩
theorem SpB.kept {f : Few} {A : Option Addr} {n c layer tree q b : Nat} {w w' : World} {row : Option Nat} (h : SpB f A n c layer tree q b w) (hg : w.grownBy w' row) (hr : ∀ r, row = some r → ∃ o : Obj, w.heap[r]? = some o ∧ o.isCells = false) : SpB f A n c layer tree q b w' :=
  ⟨cell_kept h.s0 hg hr, cell_kept h.s1 hg hr, cell_kept h.s2 hg hr, cell_kept h.s3 hg hr, cell_kept h.s4 hg hr, cell_kept h.s5 hg hr, cell_kept h.s6 hg hr, cell_kept h.s7 hg hr, cell_kept h.s8 hg hr⟩
theorem SpB.new (f : Few) (A : Option Addr) (n c layer tree q : Nat) (w : World) : SpB f A n c layer tree q w.heap.size (w.alloc (.cells #[.int .i64 (f.N : Int), .int .i64 (f.L : Int), .int .i64 (f.H : Int), .int .i64 (f.K : Int), .int .i64 (f.A : Int), .slice A n c, .int .u32 (layer : Int), .int .u64 (tree : Int), .int .u32 (q : Int)] 58)) := by
  constructor <;> exact cell_new ..

/-- What holds of Sign's loop behind k rounds. -/
structure SI (f : Few) (m : Sec) (A1 A2 A3 : Option Addr) (n1 n2 n3 c1 c2 c3 : Nat) (tree q : Nat) (head : List UInt8) (w : World) (b14 b15 B1 B2 B3 B4 : Nat) (k : Nat) (W : World) : Prop where
  sb : SB f A1 A2 A3 n1 n2 n3 c1 c2 c3 w.heap.size W
  out : ∃ Ao co, W.cell? ⟨b14, 0, none⟩ = some (.slice Ao (f.N + f.K * ((f.A + 1) * f.N) + k * sEach f) co) ∧ Own eB (w.heap.size + 2) W Ao (f.N + f.K * ((f.A + 1) * f.N) + k * sEach f) co (head ++ layersL f m tree q k)
  f14 : W.frozen? ⟨b14, 0, none⟩ = false
  of : ∃ Af cf, W.cell? ⟨b15, 0, none⟩ = some (.slice Af f.N cf) ∧ Own eB (w.heap.size + 2) W Af f.N cf (ofAt f m tree q k)
  f15 : W.frozen? ⟨b15, 0, none⟩ = false
  sp : ∃ t u, SpotsBox f A3 n3 c3 t u B1 B2 B3 B4 W
  below : Below w.heap.size w W
/-- How the blocks lie. -/
structure SD (w : World) (b14 b15 B1 B2 B3 B4 : Nat) : Prop where
  h14 : w.heap.size + 2 ≤ b14
  h15 : b14 < b15
  h1 : b15 < B1
  h2 : b15 < B2
  h3 : b15 < B3
  h4 : b15 < B4
  d : B1 ≠ B3 ∧ B1 ≠ B4 ∧ B2 ≠ B3 ∧ B2 ≠ B4 ∧ B3 ≠ B4
section
variable {f : Few} {m : Sec} {A1 A2 A3 : Option Addr} {n1 n2 n3 c1 c2 c3 : Nat} {tree q : Nat} {head : List UInt8} {w : World} {b14 b15 B1 B2 B3 B4 k : Nat} {W : World}
def SJ (f : Few) (m : Sec) (A1 A2 A3 : Option Addr) (n1 n2 n3 c1 c2 c3 : Nat) (tree q : Nat) (head : List UInt8) (w : World) (b14 b15 B1 B2 B3 B4 : Nat) (F : Nat → Nat × Nat × Nat → Array Value) (pre : List (Nat × Nat × Nat)) (x : Nat × Nat × Nat) (a1 : Act) (W : World) : Prop :=
  ∃ b : Nat, a1 = { tmps := F b x, defers := [] } ∧ b ≠ b14 ∧ SpB f A3 n3 c3 x.1 x.2.1 x.2.2 b W ∧ SI f m A1 A2 A3 n1 n2 n3 c1 c2 c3 tree q head w b14 b15 B1 B2 B3 B4 pre.length W
theorem SI.kept (h : SI f m A1 A2 A3 n1 n2 n3 c1 c2 c3 tree q head w b14 b15 B1 B2 B3 B4 k W) {W' : World} {row : Option Nat} (hg : W.grownBy W' row) (hr : ∀ r, row = some r → w.heap.size ≤ r ∧ ∃ o : Obj, W.heap[r]? = some o ∧ o.isCells = false) : SI f m A1 A2 A3 n1 n2 n3 c1 c2 c3 tree q head w b14 b15 B1 B2 B3 B4 k W' := by
  have hr' := fun r e => (hr r e).2
  obtain ⟨Ao, co, o1, o2⟩ := h.out
  obtain ⟨Af, cf, p1, p2⟩ := h.of
  obtain ⟨t, u, hs⟩ := h.sp
  exact ⟨h.sb.kept hg hr', ⟨Ao, co, cell_kept o1 hg hr', o2.kept hg hr'⟩, (frozen_kept o1 hg hr').trans h.f14, ⟨Af, cf, cell_kept p1 hg hr', p2.kept hg hr'⟩, (frozen_kept p1 hg hr').trans h.f15, ⟨t, u, hs.keep (kps_kept hg hr')⟩, h.below.grown hg h.below.size fun r e => (hr r e).1⟩
theorem SI.turned (hN : 1 ≤ f.N) (h : SI f m A1 A2 A3 n1 n2 n3 c1 c2 c3 tree q head w b14 b15 B1 B2 B3 B4 k W) (hd : SD w b14 b15 B1 B2 B3 B4) {W' : World} (hs : StS B3 B4 W W') : SI f m A1 A2 A3 n1 n2 n3 c1 c2 c3 tree q head w b14 b15 B1 B2 B3 B4 k W' := by
  obtain ⟨h14, h15, h1, h2, h3, h4, hdd⟩ := hd
  obtain ⟨Ao, co, o1, o2⟩ := h.out
  obtain ⟨Af, cf, p1, p2⟩ := h.of
  obtain ⟨t, u, hb⟩ := h.sp
  have hsz : W.heap.size ≤ W'.heap.size := by rw [hs.size]; exact Nat.le_refl _
  have hown : ∀ {A : Option Addr} {n c : Nat} {l : List UInt8}, 0 < n → Own eB (w.heap.size + 2) W A n c l → Own eB (w.heap.size + 2) W' A n c l := fun hn ho => ho.sameBlock hn hsz hb.t (fun x => by simp) hb.q (fun x => by simp) fun k e1 e2 => hs.block k e1 e2
  have q14 := hs.block b14 (by omega) (by omega)
  have q15 := hs.block b15 (by omega) (by omega)
  refine ⟨h.sb.same (hs.block _ (by omega) (by omega)) (hs.block _ (by omega) (by omega)), ⟨Ao, co, (World.cell?_of_block (w := W) (a := ⟨b14, 0, none⟩) q14).trans o1, hown (by omega) o2⟩, (World.frozen?_of_block (w := W) (a := ⟨b14, 0, none⟩) q14).trans h.f14,
    ⟨Af, cf, (World.cell?_of_block (w := W) (a := ⟨b15, 0, none⟩) q15).trans p1, hown (by omega) p2⟩, (World.frozen?_of_block (w := W) (a := ⟨b15, 0, none⟩) q15).trans h.f15, hb.turned hs hdd, hs.below h.below (by omega) (by omega)⟩
/-- A block whose first cell is no byte lives through an append onto bytes, and a store elsewhere. -/
theorem next_block {B no co : Nat} {Wa Wb : World} {Ao : Option Addr} {l : List UInt8} (ho : Own eB B Wa Ao no co l) (hn : 0 < no) (hg : Wa.grownBy Wb (Ao.map (·.block))) (b14 : Nat) (v' : Value) {b : Nat} (hb : b ≠ b14) {v : Value} (hv : Wa.cell? ⟨b, 0, none⟩ = some v) (hk : ∀ x : UInt8, v ≠ eB x) : (Wb.setCell ⟨b14, 0, none⟩ v').heap[b]? = Wa.heap[b]? :=
  (block_set _ _ _ _ hb).trans (hg.block b (World.block_lt_of_cell? Wa _ hv) (Ne.symm (ho.neBlock hn hv hk)))
/-- Between the append and the next root. -/
structure SM (f : Few) (A1 A2 A3 : Option Addr) (n1 n2 n3 c1 c2 c3 : Nat) (w : World) (b14 b15 : Nat) (k tree q b : Nat) (Af : Option Addr) (cf : Nat) (Wb Wd : World) : Prop where
  sb : SB f A1 A2 A3 n1 n2 n3 c1 c2 c3 w.heap.size Wd
  c14 : ∃ v, Wb.cell? ⟨b14, 0, none⟩ = some v
  f14 : Wb.frozen? ⟨b14, 0, none⟩ = false
  c15 : Wd.cell? ⟨b15, 0, none⟩ = some (.slice Af f.N cf)
  f15 : Wd.frozen? ⟨b15, 0, none⟩ = false
  sp : SpB f A3 n3 c3 k tree q b Wd
  below : Below w.heap.size w Wd
theorem SI.mid (hN : 1 ≤ f.N) (h : SI f m A1 A2 A3 n1 n2 n3 c1 c2 c3 tree q head w b14 b15 B1 B2 B3 B4 k W) (hd : SD w b14 b15 B1 B2 B3 B4) {Wa Wb : World} {Ao Af : Option Addr} {co cf b t u : Nat} (v' : Value)
    (ho : W.cell? ⟨b14, 0, none⟩ = some (.slice Ao (f.N + f.K * ((f.A + 1) * f.N) + k * sEach f) co)) (hoo : Own eB (w.heap.size + 2) W Ao (f.N + f.K * ((f.A + 1) * f.N) + k * sEach f) co (head ++ layersL f m tree q k))
    (hf : W.cell? ⟨b15, 0, none⟩ = some (.slice Af f.N cf)) (hs : SpB f A3 n3 c3 k t u b W) (hbb : b ≠ b14)
    (g1 : Grow W Wa) (h4 : Wa.grownBy Wb (Ao.map (·.block))) : SM f A1 A2 A3 n1 n2 n3 c1 c2 c3 w b14 b15 k t u b Af cf Wb (Wb.setCell ⟨b14, 0, none⟩ v') := by
  obtain ⟨h14, h15, d1, d2, d3, d4, hdd⟩ := hd
  have hoa := hoo.below g1
  have hn0 : 0 < f.N + f.K * ((f.A + 1) * f.N) + k * sEach f := by omega
  have key : ∀ {b : Nat} {v : Value}, b ≠ b14 → W.cell? ⟨b, 0, none⟩ = some v → (∀ x : UInt8, v ≠ eB x) → (Wb.setCell ⟨b14, 0, none⟩ v').heap[b]? = W.heap[b]? := fun {b v} e1 hv hk =>
    (next_block hoa hn0 h4 b14 v' e1 (cell_old g1 hv) hk).trans (g1.block b (World.block_lt_of_cell? W _ hv))
  have e14 : Wb.heap[b14]? = W.heap[b14]? := (h4.block b14 (World.block_lt_of_cell? Wa _ (cell_old g1 ho)) (Ne.symm (hoa.neBlock hn0 (cell_old g1 ho) (fun x => by simp)))).trans (g1.block b14 (World.block_lt_of_cell? W _ ho))
  refine ⟨h.sb.same (key (by omega) h.sb.k0 (fun x => by simp)) (key (by omega) h.sb.m0 (fun x => by simp)), ⟨_, (World.cell?_of_block (w := W) (a := ⟨b14, 0, none⟩) e14).trans ho⟩, (World.frozen?_of_block (w := W) (a := ⟨b14, 0, none⟩) e14).trans h.f14,
    (World.cell?_of_block (w := W) (a := ⟨b15, 0, none⟩) (key (b := b15) (show b15 ≠ b14 by omega) hf (fun x => by simp))).trans hf, (World.frozen?_of_block (w := W) (a := ⟨b15, 0, none⟩) (key (b := b15) (show b15 ≠ b14 by omega) hf (fun x => by simp))).trans h.f15, hs.same (key hbb hs.s0 (fun x => by simp)), ?_⟩
  have x1 : Below w.heap.size w Wa := h.below.trans (g1.mono h.below.size)
  have x2 : Below w.heap.size w Wb := x1.trans (Below.mono (below_of_grown hoa (by have := World.block_lt_of_cell? Wa _ (cell_old g1 ho); dsimp only at this; omega) h4) (by omega))
  exact x2.setCell (p := ⟨b14, 0, none⟩) (show w.heap.size ≤ b14 by omega) v'
theorem SI.next (hN : 1 ≤ f.N) (h : SI f m A1 A2 A3 n1 n2 n3 c1 c2 c3 tree q head w b14 b15 B1 B2 B3 B4 k W) (hd : SD w b14 b15 B1 B2 B3 B4) {Wa Wb Wc : World} {Ao A' Ar : Option Addr} {co c' cr : Nat} {new : List UInt8}
    (ho : W.cell? ⟨b14, 0, none⟩ = some (.slice Ao (f.N + f.K * ((f.A + 1) * f.N) + k * sEach f) co)) (hoo : Own eB (w.heap.size + 2) W Ao (f.N + f.K * ((f.A + 1) * f.N) + k * sEach f) co (head ++ layersL f m tree q k))
    (g1 : Grow W Wa) (h3 : Own eB (w.heap.size + 2) Wb A' (f.N + f.K * ((f.A + 1) * f.N) + k * sEach f + sEach f) c' (head ++ layersL f m tree q k ++ new)) (h4 : Wa.grownBy Wb (Ao.map (·.block)))
    (hnew : new = sSign f.N f.H m.seed m.secret k (treeAt f.H tree k) (leafAt f.H tree q k) (ofAt f m tree q k))
    (g2 : Grow (Wb.setCell ⟨b14, 0, none⟩ (.slice A' (f.N + f.K * ((f.A + 1) * f.N) + k * sEach f + sEach f) c')) Wc) (hr : Own eB (w.heap.size + 2) Wc Ar f.N cr (rootL f m k (treeAt f.H tree k))) :
    KeepsOthers W (Wc.setCell ⟨b15, 0, none⟩ (.slice Ar f.N cr)) ∧ KpS B1 B2 B3 B4 W (Wc.setCell ⟨b15, 0, none⟩ (.slice Ar f.N cr)) ∧ SI f m A1 A2 A3 n1 n2 n3 c1 c2 c3 tree q head w b14 b15 B1 B2 B3 B4 (k + 1) (Wc.setCell ⟨b15, 0, none⟩ (.slice Ar f.N cr)) := by
  obtain ⟨h14, h15, d1, d2, d3, d4, hdd⟩ := hd
  obtain ⟨Af, cf, p1, p2⟩ := h.of
  obtain ⟨t, u, hb⟩ := h.sp
  have hoa := hoo.below g1
  have hn0 : 0 < f.N + f.K * ((f.A + 1) * f.N) + k * sEach f := by omega
  -- a block of W whose first cell is no byte, and that is neither b14 nor b15
  have key : ∀ {b : Nat} {v : Value}, b ≠ b14 → b ≠ b15 → W.cell? ⟨b, 0, none⟩ = some v → (∀ x : UInt8, v ≠ eB x) → (Wc.setCell ⟨b15, 0, none⟩ (.slice Ar f.N cr)).heap[b]? = W.heap[b]? := fun {b v} e1 e2 hv hk => by
    have hva := cell_old g1 hv
    have e := next_block hoa hn0 h4 b14 (.slice A' (f.N + f.K * ((f.A + 1) * f.N) + k * sEach f + sEach f) c') e1 hva hk
    have hlt := World.block_lt_of_cell? W _ hv
    have hlt' : b < (Wb.setCell ⟨b14, 0, none⟩ (.slice A' (f.N + f.K * ((f.A + 1) * f.N) + k * sEach f + sEach f) c')).heap.size := by
      have := h4.size; have := g1.size; simp only [World.setCell, Array.size_modify]; dsimp only at hlt; omega
    exact (block_set _ _ _ _ e2).trans ((g2.block b hlt').trans (e.trans (g1.block b hlt)))
  have hsb : SB f A1 A2 A3 n1 n2 n3 c1 c2 c3 w.heap.size (Wc.setCell ⟨b15, 0, none⟩ (.slice Ar f.N cr)) := h.sb.same (key (by omega) (by omega) h.sb.k0 (fun x => by simp)) (key (by omega) (by omega) h.sb.m0 (fun x => by simp))
  have hkp : KpS B1 B2 B3 B4 W (Wc.setCell ⟨b15, 0, none⟩ (.slice Ar f.N cr)) := KpS.of_block fun b hb4 => by
    rcases hb4 with rfl | rfl | rfl | rfl
    · exact key (by omega) (by omega) hb.f0 (fun x => by simp)
    · exact key (by omega) (by omega) hb.s (fun x => by simp)
    · exact key (by omega) (by omega) hb.t (fun x => by simp)
    · exact key (by omega) (by omega) hb.q (fun x => by simp)
  have hc14 : Wb.cell? ⟨b14, 0, none⟩ = some (.slice Ao (f.N + f.K * ((f.A + 1) * f.N) + k * sEach f) co) := cell_grown h4 (hoa.neBlock hn0 (cell_old g1 ho) (fun x => by simp)) (cell_old g1 ho)
  have hf14 : Wb.frozen? ⟨b14, 0, none⟩ = false := by
    have hlt := World.block_lt_of_cell? W _ ho
    have hlta := World.block_lt_of_cell? Wa _ (cell_old g1 ho)
    rw [World.frozen?_of_block (w := Wa) (a := ⟨b14, 0, none⟩) (h4.block b14 hlta (Ne.symm (hoa.neBlock hn0 (cell_old g1 ho) (fun x => by simp)))), World.frozen?_of_block (w := W) (a := ⟨b14, 0, none⟩) (g1.block b14 hlt)]
    exact h.f14
  have hd14 := cell_set_eq Wb b14 0 (.slice A' (f.N + f.K * ((f.A + 1) * f.N) + k * sEach f + sEach f) c') _ hc14
  have hcc14 := cell_old g2 hd14
  have hlt14 := World.block_lt_of_cell? _ _ hd14
  have hown := h3.set_other ⟨b14, 0, none⟩ (.slice A' (f.N + f.K * ((f.A + 1) * f.N) + k * sEach f + sEach f) c') (fun e => by have := h3.neBlock (by omega) hc14 (fun x => by simp); rw [e] at this; exact this rfl)
  have hlen : k * sEach f + sEach f = (k + 1) * sEach f := by rw [Nat.succ_mul]
  have hlay : layersL f m tree q k ++ new = layersL f m tree q (k + 1) := by rw [hnew]; exact (range_flat' _ _).symm
  have hbB : Below w.heap.size w (Wc.setCell ⟨b15, 0, none⟩ (.slice Ar f.N cr)) := by
    have x1 : Below w.heap.size w Wa := h.below.trans (g1.mono h.below.size)
    have x2 : Below w.heap.size w Wb := x1.trans (Below.mono (below_of_grown hoa (by have := World.block_lt_of_cell? Wa _ (cell_old g1 ho); dsimp only at this; omega) h4) (by omega))
    have x3 := x2.setCell (p := ⟨b14, 0, none⟩) (show w.heap.size ≤ b14 by omega) (.slice A' (f.N + f.K * ((f.A + 1) * f.N) + k * sEach f + sEach f) c')
    exact (x3.trans (g2.mono x3.size)).setCell (p := ⟨b15, 0, none⟩) (show w.heap.size ≤ b15 by omega) _
  have hown2 := hown.below g2
  have hc15 : Wc.cell? ⟨b15, 0, none⟩ = some (.slice Af f.N cf) := by
    have e := next_block hoa hn0 h4 b14 (.slice A' (f.N + f.K * ((f.A + 1) * f.N) + k * sEach f + sEach f) c') (show b15 ≠ b14 by omega) (cell_old g1 p1) (fun x => by simp)
    exact cell_old g2 ((World.cell?_of_block (w := Wa) (a := ⟨b15, 0, none⟩) e).trans (cell_old g1 p1))
  have hf15 : Wc.frozen? ⟨b15, 0, none⟩ = false := by
    have e := next_block hoa hn0 h4 b14 (.slice A' (f.N + f.K * ((f.A + 1) * f.N) + k * sEach f + sEach f) c') (show b15 ≠ b14 by omega) (cell_old g1 p1) (fun x => by simp)
    have hlt := World.block_lt_of_cell? W _ p1
    have hlt2 := World.block_lt_of_cell? _ _ ((World.cell?_of_block (w := Wa) (a := ⟨b15, 0, none⟩) e).trans (cell_old g1 p1))
    rw [World.frozen?_of_block (a := ⟨b15, 0, none⟩) (g2.block b15 hlt2), World.frozen?_of_block (w := Wa) (a := ⟨b15, 0, none⟩) e, World.frozen?_of_block (w := W) (a := ⟨b15, 0, none⟩) (g1.block b15 hlt)]
    exact h.f15
  have hf14c : Wc.frozen? ⟨b14, 0, none⟩ = false := by
    rw [World.frozen?_of_block (a := ⟨b14, 0, none⟩) (g2.block b14 hlt14), frozen_set]; exact hf14
  refine ⟨?_, hkp, hsb, ⟨A', c', ?_, ?_⟩, ?_, ⟨Ar, cr, cell_set_eq _ _ _ _ _ hc15, ?_⟩, ?_, ⟨t, u, hb.keep hkp⟩, hbB⟩
  · exact ((((keeps_below g1).trans (hoa.keepsO (.inr (by have := hoa.nc; omega)) h4)).trans (KeepsOthers.setCell _ _ _)).trans (keeps_below g2)).trans (KeepsOthers.setCell _ _ _)
  · rw [← hlen, ← Nat.add_assoc]
    exact (World.cell?_of_block (w := Wc) (a := ⟨b14, 0, none⟩) (block_set _ _ _ _ (by dsimp only; omega))).trans hcc14
  · rw [← hlen, ← Nat.add_assoc, ← hlay, ← List.append_assoc]
    exact hown2.set_other ⟨b15, 0, none⟩ _ (fun e => by have := hown2.neBlock (by omega) hc15 (fun x => by simp); rw [e] at this; exact this rfl)
  · rw [frozen_set]; exact hf14c
  · exact hr.set_other ⟨b15, 0, none⟩ _ (fun e => by have := hr.neBlock (by omega) hc15 (fun x => by simp); rw [e] at this; exact this rfl)
  · rw [frozen_set]; exact hf15
end
end Go.Proofs.Sl

/- A range over a function whose rounds begin by making a variable of their own. -/
namespace Go.Proofs.Sl
open Go Go.RowKit

variable {F : Fence} {n : Nat} {P : Program}

theorem wpIn_rangeFunc_as {α : Type} {g : Operand} {ps : Array Tmp} {assign body : Code} {Q : Exit → Act → World → Prop} {a : Act} {w : World}
    (hro : F.round = none) (h1 : 1 ≤ n) {gf : Nat} {lb : Array Value} (hg : a.eval g = .func (.func gf) #[] lb) (hFg : F.fn gf) (eg : ∀ args w, (callFunc gf args).run P w = .ok (.enter gf args) w)
    {encs : α → Array Value} {Kp St : World → World → Prop} {xs : List α} (hseq : SeqSt F (n - 1) P gf lb encs Kp St xs w) (hStK : ∀ W W', St W W' → KeepsOthers W W')
    (hKt : ∀ {A B C : World}, Kp A B → Kp B C → Kp A C) (hKb : ∀ (W : World) (l : Nat) (o o' : Obj), w.heap.size ≤ l → W.heap[l]? = some o → o.isCells = false → o.isWalk = false → Kp W (W.putObj l o')) (hps : ∀ x, (encs x).size = ps.size)
    (I : List α → World → Prop) (Ix : Code → List α → World → Prop) (hI : OwnFrom w.heap.size I) (hIx : ∀ c, OwnFrom w.heap.size (Ix c)) (hISt : ∀ pre W W', I pre W → St W W' → I pre W') (h0 : I [] w) (J : List α → α → Act → World → Prop) (hJ : ∀ pre x a1, OwnFrom w.heap.size (fun (_ : Unit) W => J pre x a1 W))
    (hassign : ∀ (l : Nat) (pre : List α) (x : α) (W : World), I pre W → pre ++ [x] <+: xs →
      assign.wpIn (F.inRound l) (n - 1 - 1) P (Exit.then (fun a1 Wq => KeepsOthers W Wq ∧ Kp W Wq ∧ J pre x a1 Wq) (fun _ _ _ => False)) { tmps := (ps.zip (encs x)).foldl (fun t (p, v) => t.setIfInBounds p v) a.tmps, defers := [] } W)
    (hbody : ∀ (l : Nat) (pre : List α) (x : α) (a1 : Act) (W : World), pre ++ [x] <+: xs → J pre x a1 W → body.wpIn (F.inRound l) (n - 1 - 1) P (ownPostK Kp I Ix (pre ++ [x]) W) a1 W)
    (hdone : ∀ (D : Nat) (W : World), w.heap.size ≤ D → I xs W → W.heap[D]? = some (.deferred (some [])) → Q .normal { a with defers := { target := .collected D, args := #[] } :: a.defers } W)
    (hstop : ∀ (D : Nat) (c : Code) (pre : List α) (W : World), w.heap.size ≤ D → pre <+: xs → Ix c pre W → W.heap[D]? = some (.deferred (some [])) → c.wpIn F n P Q { a with defers := { target := .collected D, args := #[] } :: a.defers } W) :
    (Code.rangeFunc g ps assign body).wpIn F n P Q a w := by
  refine wpIn_rangeFunc ?_
  intro fn hfn
  rw [hro]
  obtain ⟨rec, hrec⟩ : ∃ rec : LoopState → Option Code → Loop, rec = fun st pe => { state := st, pending := pe, fn, tmps := a.tmps, params := ps, assign, body, defers := w.heap.size } := ⟨_, rfl⟩
  generalize hW1 : (w.alloc (.deferred (some []))).alloc (.loop (rec .ready none)) = W1
  have hL1 : W1.heap[w.heap.size + 1]? = some (.loop (rec .ready none)) := by
    rw [← hW1]; have := World.alloc_heap_new (w.alloc (.deferred (some []))) (.loop (rec .ready none)); rwa [World.size_alloc] at this
  have hK1 : W1.heap[w.heap.size]? = some (.deferred (some [])) := by
    rw [← hW1]; exact (Below.heap_alloc _ _ _ (by simp)).trans (World.alloc_heap_new w _)
  have hI1 : I [] W1 := by rw [← hW1]; exact hI.alloc _ (hI.alloc _ h0)
  have hb1 : Below w.heap.size w W1 := by
    rw [← hW1]; exact ((Below.refl _ w).alloc (Nat.le_refl _) _).alloc (by simp) _
  refine ⟨w.heap.size + 1, [{ target := .collected w.heap.size, args := #[] }], W1, { target := .fn (.func gf) lb, args := #[.func (.yield (w.heap.size + 1)) #[] #[]] }, W1, gf,
    #[.func (.yield (w.heap.size + 1)) #[] #[]] ++ lb, W1, ?_, ?_, ?_, ?_, fun _ => h1, ?_⟩
  · rw [← hW1, hrec]; exact run_enterLoop_outer _ _ _ _ _
  · simp only [resolve, hg]
    simp [go_sem]
  · intro f' hf'; simp [Target.leads] at hf'; subst hf'; exact hFg
  · simp [invoke, go_sem, eg]
  refine (hseq (w.heap.size + 1)
    (fun pre W => I pre W ∧ W.heap[w.heap.size + 1]? = some (.loop (rec .ready none)) ∧ W.heap[w.heap.size]? = some (.deferred (some [])))
    (fun pre W => ∃ c, Ix c pre W ∧ W.heap[w.heap.size + 1]? = some (.loop (rec .done (some c))) ∧ W.heap[w.heap.size]? = some (.deferred (some [])))
    W1 hb1
    (fun pre A B hs hst => ⟨hISt pre A B hs.1 hst, (hStK _ _ hst).same _ _ hs.2.1 rfl, (hStK _ _ hst).same _ _ hs.2.2 rfl⟩)
    ?_ ⟨hI1, hL1, hK1⟩).mono ?_
  · rintro pre x W ⟨hi, hl, hk⟩ hpre
    have hlt : w.heap.size + 1 < W.heap.size := (Array.getElem?_eq_some_iff.1 hl).1
    have hy := run_yield (P := P) (args := encs x) hl (by rw [hrec]; exact hps x)
    rw [hrec] at hy
    refine ⟨fn, _, assign, body, hy, roundIn_of_wpIn hfn (wpIn_mono (hassign _ pre x W hi hpre) ?_)⟩
    intro e a1 Wq hq
    obtain rfl : e = .normal := by cases e <;> first | rfl | exact hq.elim
    obtain ⟨hkq, hkpq, hjq⟩ := hq
    have hl := hkq.same _ _ hl rfl
    have hk := hkq.same _ _ hk rfl
    have hlt : w.heap.size + 1 < Wq.heap.size := (Array.getElem?_eq_some_iff.1 hl).1
    refine ⟨_, run_beginRound hl (by rw [hrec]), ?_⟩
    have hl2 : (Wq.putObj (w.heap.size + 1) (.loop { rec .ready none with state := .busy })).heap[w.heap.size + 1]? = some (.loop { rec .ready none with state := .busy }) := World.putObj_heap_same hlt
    have hk2 : (Wq.putObj (w.heap.size + 1) (.loop { rec .ready none with state := .busy })).heap[w.heap.size]? = some (.deferred (some [])) := (World.putObj_heap_other (by omega)).trans hk
    have hw2 : Kp W (Wq.putObj (w.heap.size + 1) (.loop { rec .ready none with state := .busy })) := hKt hkpq (hKb _ _ _ _ (by omega) hl rfl rfl)
    refine wpIn_mono (hbody _ pre x a1 _ hpre (hJ pre x a1 () _ _ (some (w.heap.size + 1)) hjq (grownBy_putObj' _ _ _) (fun r e => by cases e; exact ⟨by omega, _, hl, rfl⟩))) ?_
    have fin : ∀ (jump : Option Code) (W3 : World), KeepsOthers (Wq.putObj (w.heap.size + 1) (.loop { rec .ready none with state := .busy })) W3 →
        (Instr.endRound (w.heap.size + 1) jump).run P W3 = .ok (.bool jump.isNone) (W3.putObj (w.heap.size + 1) (.loop (rec (if jump.isNone then .ready else .done) jump))) ∧
        W3.heap[w.heap.size + 1]? = some (.loop { rec .ready none with state := .busy }) ∧
        (W3.putObj (w.heap.size + 1) (.loop (rec (if jump.isNone then .ready else .done) jump))).heap[w.heap.size + 1]? = some (.loop (rec (if jump.isNone then .ready else .done) jump)) ∧
        (W3.putObj (w.heap.size + 1) (.loop (rec (if jump.isNone then .ready else .done) jump))).heap[w.heap.size]? = some (.deferred (some [])) := fun jump W3 hk3 => by
      have hl3 := hk3.same _ _ hl2 rfl
      have := run_endRound (P := P) jump hl3
      rw [hrec] at this ⊢
      exact ⟨this, by rw [hrec] at hl3; exact hl3, World.putObj_heap_same (Array.getElem?_eq_some_iff.1 hl3).1, (World.putObj_heap_other (by omega)).trans (hk3.same _ _ hk2 rfl)⟩
    rintro e a3 W3 hp
    cases e with
    | normal =>
      obtain ⟨hk3, hkp3, hi3⟩ := hp
      obtain ⟨hr, hl3, hl4, hk4⟩ := fin none W3 hk3
      exact ⟨_, _, hr, .inl ⟨rfl, ⟨hI.putObj _ hi3 (by omega) hl3 rfl, hl4, hk4⟩, hKt (hKt hw2 hkp3) (hKb _ _ _ _ (by omega) hl3 rfl rfl)⟩⟩
    | ret =>
      obtain ⟨hk3, hi3⟩ := hp
      obtain ⟨hr, hl3, hl4, hk4⟩ := fin (some .ret) W3 hk3
      exact ⟨_, _, hr, .inr ⟨rfl, .ret, (hIx _).putObj _ hi3 (by omega) hl3 rfl, hl4, hk4⟩⟩
    | exit id =>
      obtain ⟨hk3, hi3⟩ := hp
      obtain ⟨hr, hl3, hl4, hk4⟩ := fin (some (.exit id)) W3 hk3
      exact ⟨_, _, hr, .inr ⟨rfl, .exit id, (hIx _).putObj _ hi3 (by omega) hl3 rfl, hl4, hk4⟩⟩
    | goto t =>
      obtain ⟨hk3, hi3⟩ := hp
      obtain ⟨hr, hl3, hl4, hk4⟩ := fin (some (.goto t)) W3 hk3
      exact ⟨_, _, hr, .inr ⟨rfl, .goto t, (hIx _).putObj _ hi3 (by omega) hl3 rfl, hl4, hk4⟩⟩
    | panic ch => exact hp.elim
    | outgrown => exact hp.elim
  · rintro e W2 ⟨⟨v, rfl⟩, (⟨hi, hl, hk⟩ | ⟨pre, hSp, c, hi, hl, hk⟩)⟩
    · exact ⟨none, _, by have := run_endLoop (P := P) hl (by rw [hrec]; simp); rw [hrec] at this; exact this, hdone _ _ (Nat.le_refl _) (hI.putObj _ hi (by omega) hl rfl) ((World.putObj_heap_other (by omega)).trans hk)⟩
    · exact ⟨some c, _, by have := run_endLoop (P := P) hl (by rw [hrec]; simp); rw [hrec] at this; exact this, hstop _ c pre _ (Nat.le_refl _) hSp ((hIx c).putObj _ hi (by omega) hl rfl) ((World.putObj_heap_other (by omega)).trans hk)⟩
end Go.Proofs.Sl
