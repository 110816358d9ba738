/- slh: the places of a tree and a leaf, layer by layer (an iterator that keeps state in variables of its own). slh: where a digest leads. The document's SLH: how many chains; how large a signature is; a digest's parts. The document's SLH: what is gone up; the secret of a chain. -/
import Derived.Test.YtipedpkkabfdjaaGreatDoorFits18
import Derived.Test.YtipedpkkabfdjaaGreatDoorFits13
import Derived.Test.YtipedpkkabfdjaaGreatDoorFits12
/- slh: the places of a tree and a leaf, layer by layer (an iterator that keeps state in variables of its own). -/
namespace Go.Proofs.Sl
open Go.RowKit Go.Proofs
attribute [local go_sem] Oper.semAt_some

def spotsL (f : Few) (tree q : Nat) : List (Nat × Nat × Nat) := (List.range f.L).map fun l => (l, treeAt f.H tree l, leafAt f.H tree q l)
abbrev encSpot (f : Few) (A : Option Addr) (n c : Nat) (x : Nat × Nat × Nat) : Array Value := #[vSpot f A n c x.1 x.2.1 x.2.2]
theorem treeAt_succ (H tree l : Nat) : treeAt H tree (l + 1) = treeAt H tree l / 2 ^ H := by
  unfold treeAt
  rw [Nat.succ_mul, Nat.pow_add, Nat.div_div_eq_div_mul]
theorem treeAt_le (H tree l : Nat) : treeAt H tree l ≤ tree := Nat.div_le_self _ _

/-- What a round keeps: the iterator's four variables. -/
structure KpS (B1 B2 B3 B4 : Nat) (W W' : World) : Prop where
  cell : ∀ b, (b = B1 ∨ b = B2 ∨ b = B3 ∨ b = B4) → ∀ o v, W.cell? ⟨b, o, none⟩ = some v → W'.cell? ⟨b, o, none⟩ = some v
  free : ∀ b, (b = B1 ∨ b = B2 ∨ b = B3 ∨ b = B4) → ∀ v, W.cell? ⟨b, 0, none⟩ = some v → W'.frozen? ⟨b, 0, none⟩ = W.frozen? ⟨b, 0, none⟩
theorem KpS.trans {B1 B2 B3 B4 : Nat} {X Y Z : World} (h : KpS B1 B2 B3 B4 X Y) (k : KpS B1 B2 B3 B4 Y Z) : KpS B1 B2 B3 B4 X Z :=
  ⟨fun b hb o v hv => k.cell b hb o v (h.cell b hb o v hv), fun b hb v hv => (k.free b hb v (h.cell b hb 0 v hv)).trans (h.free b hb v hv)⟩
theorem KpS.put {B1 B2 B3 B4 : Nat} (W : World) (k : Nat) (o o' : Obj) (h : W.heap[k]? = some o) (ho : o.isCells = false) : KpS B1 B2 B3 B4 W (W.putObj k o') :=
  ⟨fun _ _ _ _ hv => cell_kept hv (grownBy_putObj' W k o') (fun r e => by cases e; exact ⟨o, h, ho⟩), fun _ _ _ hv => frozen_kept hv (grownBy_putObj' W k o') (fun r e => by cases e; exact ⟨o, h, ho⟩)⟩
theorem KpS.of_block {B1 B2 B3 B4 : Nat} {W W' : World} (h : ∀ b, (b = B1 ∨ b = B2 ∨ b = B3 ∨ b = B4) → W'.heap[b]? = W.heap[b]?) : KpS B1 B2 B3 B4 W W' :=
  ⟨fun b hb o _ hv => (World.cell?_of_block (w := W) (a := ⟨b, o, none⟩) (h b hb)).trans hv, fun b hb _ _ => World.frozen?_of_block (w := W) (a := ⟨b, 0, none⟩) (h b hb)⟩
/-- What the iterator itself turns: the tree's and the leaf's number. -/
def StS (B3 B4 : Nat) (W W' : World) : Prop := ∃ t u : Nat, W' = (W.drew.setCell ⟨B3, 0, none⟩ (.int .u64 (t : Int))).setCell ⟨B4, 0, none⟩ (.int .u32 (u : Int))
theorem StS.keeps {B3 B4 : Nat} (W W' : World) (h : StS B3 B4 W W') : KeepsOthers W W' := by
  obtain ⟨t, u, rfl⟩ := h
  exact ((KeepsOthers.drew W).trans (KeepsOthers.setCell _ _ _)).trans (KeepsOthers.setCell _ _ _)
theorem StS.block {B3 B4 : Nat} {W W' : World} (h : StS B3 B4 W W') (k : Nat) (h3 : k ≠ B3) (h4 : k ≠ B4) : W'.heap[k]? = W.heap[k]? := by
  obtain ⟨t, u, rfl⟩ := h
  exact (block_set _ _ _ _ h4).trans (block_set _ _ _ _ h3)
theorem StS.size {B3 B4 : Nat} {W W' : World} (h : StS B3 B4 W W') : W'.heap.size = W.heap.size := by
  obtain ⟨t, u, rfl⟩ := h
  simp only [World.setCell, Array.size_modify]
  rfl
theorem StS.below {B3 B4 n₀ : Nat} {w W W' : World} (h : StS B3 B4 W W') (hb : Below n₀ w W) (h3 : n₀ ≤ B3) (h4 : n₀ ≤ B4) : Below n₀ w W' := by
  obtain ⟨t, u, rfl⟩ := h
  exact (hb.drew.setCell (p := ⟨B3, 0, none⟩) h3 _).setCell (p := ⟨B4, 0, none⟩) h4 _

structure SpotsBox (f : Few) (A : Option Addr) (n c t u B1 B2 B3 B4 : Nat) (w : World) : Prop where
  f0 : w.cell? ⟨B1, 0, none⟩ = some (.int .i64 (f.N : Int))
  f1 : w.cell? ⟨B1, 1, none⟩ = some (.int .i64 (f.L : Int))
  f2 : w.cell? ⟨B1, 2, none⟩ = some (.int .i64 (f.H : Int))
  f3 : w.cell? ⟨B1, 3, none⟩ = some (.int .i64 (f.K : Int))
  f4 : w.cell? ⟨B1, 4, none⟩ = some (.int .i64 (f.A : Int))
  s : w.cell? ⟨B2, 0, none⟩ = some (.slice A n c)
  t : w.cell? ⟨B3, 0, none⟩ = some (.int .u64 (t : Int))
  q : w.cell? ⟨B4, 0, none⟩ = some (.int .u32 (u : Int))
  ft : w.frozen? ⟨B3, 0, none⟩ = false
  fq : w.frozen? ⟨B4, 0, none⟩ = false
theorem SpotsBox.below {f : Few} {A : Option Addr} {n c t u B1 B2 B3 B4 : Nat} {w w' : World} (h : SpotsBox f A n c t u B1 B2 B3 B4 w) (hb : Below w.heap.size w w') : SpotsBox f A n c t u B1 B2 B3 B4 w' :=
  ⟨cell_old hb h.f0, cell_old hb h.f1, cell_old hb h.f2, cell_old hb h.f3, cell_old hb h.f4, cell_old hb h.s, cell_old hb h.t, cell_old hb h.q, (World.frozen?_of_block (w := w) (a := ⟨B3, 0, none⟩) (hb.block _ (World.block_lt_of_cell? w _ h.t))).trans h.ft, (World.frozen?_of_block (w := w) (a := ⟨B4, 0, none⟩) (hb.block _ (World.block_lt_of_cell? w _ h.q))).trans h.fq⟩
theorem SpotsBox.keep {f : Few} {A : Option Addr} {n c t u B1 B2 B3 B4 : Nat} {w w' : World} (h : SpotsBox f A n c t u B1 B2 B3 B4 w) (k : KpS B1 B2 B3 B4 w w') : SpotsBox f A n c t u B1 B2 B3 B4 w' :=
  ⟨k.cell _ (.inl rfl) _ _ h.f0, k.cell _ (.inl rfl) _ _ h.f1, k.cell _ (.inl rfl) _ _ h.f2, k.cell _ (.inl rfl) _ _ h.f3, k.cell _ (.inl rfl) _ _ h.f4, k.cell _ (.inr (.inl rfl)) _ _ h.s, k.cell _ (.inr (.inr (.inl rfl))) _ _ h.t, k.cell _ (.inr (.inr (.inr rfl))) _ _ h.q, (k.free _ (.inr (.inr (.inl rfl))) _ h.t).trans h.ft, (k.free _ (.inr (.inr (.inr rfl))) _ h.q).trans h.fq⟩

theorem spots_any (f : Few) (A : Option Addr) (n c tree q : Nat) (w : World) :
    Calls Tryz.prog 31 #[vFew f, .slice A n c, .int .u64 (tree : Int), .int .u32 (q : Int)] w (fun e w' => ∃ B1 B2 B3 B4, e = .returned (.func (.func 65) #[] #[.pointer (some ⟨B1, 0, none⟩), .pointer (some ⟨B2, 0, none⟩), .pointer (some ⟨B3, 0, none⟩), .pointer (some ⟨B4, 0, none⟩)]) ∧
      w.heap.size ≤ B1 ∧ w.heap.size ≤ B2 ∧ w.heap.size ≤ B3 ∧ w.heap.size ≤ B4 ∧ (B1 ≠ B3 ∧ B1 ≠ B4 ∧ B2 ≠ B3 ∧ B2 ≠ B4 ∧ B3 ≠ B4) ∧ SpotsBox f A n c tree q B1 B2 B3 B4 w' ∧ Grow w w') := by
  unfold vFew
  go_enter Tryz.func31, Tryz.ntmps31
  go_wp2
  go_ret
  refine ⟨_, _, _, _, rfl, by omega, by omega, by omega, by omega, ⟨by omega, by omega, by omega, by omega, by omega⟩, ?_, ?_⟩
  · constructor <;> go_simp
  · exact ((((Below.refl _ w).alloc (Nat.le_refl _) _).alloc (by simp) _).alloc (by simp; omega) _).alloc (by simp; omega) _

set_option maxHeartbeats 4000000 in
theorem spots_seq (n1 : Nat) (hn1 : 1 ≤ n1) (f : Few) (A : Option Addr) (n c tree q B1 B2 B3 B4 : Nat) (w : World) (hf : FewOk f) (ht : W64 tree) (hd : B1 ≠ B3 ∧ B1 ≠ B4 ∧ B2 ≠ B3 ∧ B2 ≠ B4 ∧ B3 ≠ B4) (hS : SpotsBox f A n c tree q B1 B2 B3 B4 w) :
    SeqSt Fence.wide n1 Tryz.prog 65 #[.pointer (some ⟨B1, 0, none⟩), .pointer (some ⟨B2, 0, none⟩), .pointer (some ⟨B3, 0, none⟩), .pointer (some ⟨B4, 0, none⟩)] (encSpot f A n c) (KpS B1 B2 B3 B4) (StS B3 B4) (spotsL f tree q) w := by
  intro l J Jx W hW hJst hY h0
  have hS' := Lib.hid (hS.below hW)
  have HT := Lib.hid ht
  have HDD := Lib.hid hd
  have hL := hf.L2
  have hH := hf.H2
  have hH1 := hf.H1
  have e1 : (f.L : Int) % 4294967296 = (f.L : Int) := by omega
  have hll : (spotsL f tree q).length = f.L := by simp [spotsL]
  have hp : 2 ^ f.H ≤ 512 := by calc 2 ^ f.H ≤ 2 ^ 9 := Nat.pow_le_pow_right (by omega) hH
                                    _ = 512 := by decide
  have HP := Lib.hid hp
  clear hS hW ht hf hd hp
  refine callsIn_of_wp Tryz.func65 rfl trivial ?_ rfl
  simp only [Tryz.ntmps65, List.size_toArray, List.length_cons, List.length_nil, Nat.reduceAdd, Nat.reduceSub, Array.replicate_succ, Array.replicate_zero, List.push_toArray, List.append_toArray, List.nil_append, List.cons_append]
  have kL := hS'.out.f1
  gi_wp2
  clear kL
  gi_loopw [10] (fun p wr => ∃ k : Nat, k ≤ f.L ∧ p = .int .u32 (k : Int) ∧ J ((spotsL f tree q).take k) wr ∧ SpotsBox f A n c (treeAt f.H tree k) (leafAt f.H tree q k) B1 B2 B3 B4 wr) (fun p _ => f.L - (intOf p).toNat)
  case atStart => exact ⟨0, Nat.zero_le _, rfl, by simpa using h0, by simpa [treeAt, leafAt] using hS'.out⟩
  case round =>
    clear h0 hS'
    obtain ⟨k, hk, rfl, hJ, hB⟩ := hrel
    by_cases hlt : k < f.L
    · have hpre : (spotsL f tree q).take k ++ [(k, treeAt f.H tree k, leafAt f.H tree q k)] = (spotsL f tree q).take (k + 1) := take_next _ _ (by rw [hll]; exact hlt) _ (by simp [spotsL])
      obtain ⟨fn, tmps, assign, body, hy, hRo⟩ := hY ((spotsL f tree q).take k) (k, treeAt f.H tree k, leafAt f.H tree q k) wr hJ (by rw [hpre]; exact List.take_prefix _ _)
      rw [hpre] at hRo
      have htl : treeAt f.H tree k < 18446744073709551616 := Nat.lt_of_le_of_lt (treeAt_le _ _ _) HT.out
      have HTL := Lib.hid htl
      have HTS := Lib.hid (treeAt_succ f.H tree k)
      have HLS : Hid (leafAt f.H tree q (k + 1) = treeAt f.H tree k % 2 ^ f.H) := Lib.hid rfl
      clear htl hpre
      generalize treeAt f.H tree k = t at *
      generalize leafAt f.H tree q k = u at *
      have hBB := Lib.hid hB
      have k0 := hB.f0; have k1 := hB.f1; have k2 := hB.f2; have k3 := hB.f3; have k4 := hB.f4; have k5 := hB.s; have k6 := hB.t; have k7 := hB.q
      dsimp only [encSpot, vSpot] at hy
      clear hB
      gi_wp2
      refine hRo.mono ?_
      rintro e W3 (⟨rfl, hJ3, hk3⟩ | ⟨rfl, hJx3⟩)
      · have HB3 := Lib.hid (hBB.out.keep hk3)
        clear hk3 hy hRo k0 k1 k2 k3 k4 k5 k6 k7
        have q2 : W3.drew.cell? ⟨B1, 2, none⟩ = some (.int .i64 (f.H : Int)) := HB3.out.f2
        have q6 : W3.drew.cell? ⟨B3, 0, none⟩ = some (.int .u64 (t : Int)) := HB3.out.t
        have q7 : W3.drew.cell? ⟨B4, 0, none⟩ = some (.int .u32 (u : Int)) := HB3.out.q
        have g6 : W3.drew.frozen? ⟨B3, 0, none⟩ = false := HB3.out.ft
        have g7 : W3.drew.frozen? ⟨B4, 0, none⟩ = false := HB3.out.fq
        obtain ⟨t2, ht2⟩ : ∃ t2, t % 2 ^ f.H = t2 := ⟨_, rfl⟩
        have hmk : bits .and .u64 (t : Int) (2 ^ f.H - 1) = (t2 : Int) := by rw [mask_u64 t f.H HTL.out (by omega), ht2]
        have hpI : (2 : Int) ^ f.H = ((2 ^ f.H : Nat) : Int) := by rw [Int.natCast_pow]; rfl
        have hp1 : 1 ≤ 2 ^ f.H := Nat.one_le_two_pow
        have hw1 : IntKind.u64.wrap ((2 : Int) ^ f.H) = 2 ^ f.H := wraps_u64 _ (by rw [hpI]; omega) (by rw [hpI]; have := HP.out; omega)
        have hw2 : IntKind.u64.wrap ((2 : Int) ^ f.H - 1) = 2 ^ f.H - 1 := wraps_u64 _ (by rw [hpI]; omega) (by rw [hpI]; have := HP.out; omega)
        clear hpI hp1
        have ht22 : t2 < 512 := by rw [← ht2]; exact Nat.lt_of_lt_of_le (Nat.mod_lt _ (Nat.two_pow_pos _)) HP.out
        have HT2 := Lib.hid ht2
        have h34 := HDD.out.2.2.2.2
        have q7' : (W3.drew.setCell ⟨B3, 0, none⟩ (.int .u64 ((t : Int) / 2 ^ f.H))).cell? ⟨B4, 0, none⟩ = some (.int .u32 (u : Int)) := (World.cell?_of_block (w := W3.drew) (a := ⟨B4, 0, none⟩) (block_set _ _ _ _ (Ne.symm h34))).trans q7
        have g7' : (W3.drew.setCell ⟨B3, 0, none⟩ (.int .u64 ((t : Int) / 2 ^ f.H))).frozen? ⟨B4, 0, none⟩ = false := (frozen_set _ _ _ _).trans g7
        have q7'' : (W3.setCell ⟨B3, 0, none⟩ (.int .u64 ((t : Int) / 2 ^ f.H))).drew.cell? ⟨B4, 0, none⟩ = some (.int .u32 (u : Int)) := q7'
        have g7'' : (W3.setCell ⟨B3, 0, none⟩ (.int .u64 ((t : Int) / 2 ^ f.H))).drew.frozen? ⟨B4, 0, none⟩ = false := g7'
        have q2'' : (W3.setCell ⟨B3, 0, none⟩ (.int .u64 ((t : Int) / 2 ^ f.H))).drew.cell? ⟨B1, 2, none⟩ = some (.int .i64 (f.H : Int)) := (World.cell?_of_block (w := W3) (a := ⟨B1, 2, none⟩) (block_set _ _ _ _ HDD.out.1)).trans HB3.out.f2
        clear ht2
        gi_wp2_with fail
        gi_region
        all_goals gi_wp2_with fail
        have hv : (t : Int) / 2 ^ f.H = ((t / 2 ^ f.H : Nat) : Int) := pow_cast t f.H
        have hst : StS B3 B4 W3 (((W3.setCell ⟨B3, 0, none⟩ (.int .u64 ((t : Int) / 2 ^ f.H))).setCell ⟨B4, 0, none⟩ (.int .u32 (t2 : Int))).drew) := ⟨t / 2 ^ f.H, t2, by rw [hv]; rfl⟩
        obtain ⟨hd13, hd14, hd23, hd24, _⟩ := HDD.out
        have hob : ∀ b, b ≠ B3 → b ≠ B4 → ∀ o v, W3.cell? ⟨b, o, none⟩ = some v → (((W3.setCell ⟨B3, 0, none⟩ (.int .u64 ((t : Int) / 2 ^ f.H))).setCell ⟨B4, 0, none⟩ (.int .u32 (t2 : Int))).drew).cell? ⟨b, o, none⟩ = some v := fun b h1 h2 o v h => (World.cell?_of_block (w := W3) (a := ⟨b, o, none⟩) (hst.block b h1 h2)).trans h
        refine ⟨⟨k + 1, by omega, by go_num, hJst _ _ _ hJ3 hst, ?_⟩, by simp [intOf]; omega⟩
        rw [HTS.out, HLS.out, HT2.out]
        refine ⟨hob B1 hd13 hd14 _ _ HB3.out.f0, hob B1 hd13 hd14 _ _ HB3.out.f1, hob B1 hd13 hd14 _ _ HB3.out.f2, hob B1 hd13 hd14 _ _ HB3.out.f3, hob B1 hd13 hd14 _ _ HB3.out.f4, hob B2 hd23 hd24 _ _ HB3.out.s, ?_, ?_, ?_, ?_⟩
        · rw [← hv]
          exact (World.cell?_of_block (a := ⟨B3, 0, none⟩) (block_set (W3.setCell ⟨B3, 0, none⟩ (.int .u64 ((t : Int) / 2 ^ f.H))) _ _ _ h34)).trans (cell_set_eq _ _ _ _ _ HB3.out.t)
        · exact cell_set_eq _ _ _ _ _ q7''
        · exact (frozen_set _ _ _ _).trans ((frozen_set _ _ _ _).trans HB3.out.ft)
        · exact (frozen_set _ _ _ _).trans ((frozen_set _ _ _ _).trans HB3.out.fq)
      · gi_wp2
        refine bodyPost_ret (results_none rfl _ _ _) rfl ?_
        exact ⟨⟨_, rfl⟩, .inr ⟨_, List.take_prefix _ _, hJx3⟩⟩
    · obtain rfl : k = f.L := by omega
      gi_wp2
      go_end0
      exact ⟨⟨_, rfl⟩, .inl (by rw [List.take_of_length_le (by omega)] at hJ; exact hJ)⟩
end Go.Proofs.Sl

/- slh: where a digest leads. -/
namespace Go.Proofs.Sl
open Go.RowKit Go.Proofs

theorem cell_box {w w1 : World} (f : Few) (hB : Below (w.heap.size + 1) (w.alloc (.cells #[.int .i64 (f.N : Int), .int .i64 (f.L : Int), .int .i64 (f.H : Int), .int .i64 (f.K : Int), .int .i64 (f.A : Int)] 23)) w1) :
    w1.cell? ⟨w.heap.size, 0, none⟩ = some (.int .i64 (f.N : Int)) ∧ w1.cell? ⟨w.heap.size, 1, none⟩ = some (.int .i64 (f.L : Int)) ∧ w1.cell? ⟨w.heap.size, 2, none⟩ = some (.int .i64 (f.H : Int)) ∧ w1.cell? ⟨w.heap.size, 3, none⟩ = some (.int .i64 (f.K : Int)) ∧ w1.cell? ⟨w.heap.size, 4, none⟩ = some (.int .i64 (f.A : Int)) ∧ Below w.heap.size w w1 :=
  ⟨(hB.cell (by simp)).trans (by go_simp), (hB.cell (by simp)).trans (by go_simp), (hB.cell (by simp)).trans (by go_simp), (hB.cell (by simp)).trans (by go_simp), (hB.cell (by simp)).trans (by go_simp), ((Below.refl _ w).alloc (Nat.le_refl _) _).trans (hB.mono (by omega))⟩
theorem three_cells {w : World} {b x y z : Nat} (h0 : w.cell? ⟨b, 0, none⟩ = some (eN x)) (h1 : w.cell? ⟨b, 1, none⟩ = some (eN y)) (h2 : w.cell? ⟨b, 2, none⟩ = some (eN z)) : Rd eN w (some ⟨b, 0, none⟩) 3 [x, y, z] :=
  ⟨rfl, by omega, fun j hj => by
    have : j = 0 ∨ j = 1 ∨ j = 2 := by simp at hj; omega
    rcases this with rfl | rfl | rfl
    · exact ⟨_, rfl, by rw [add_zero']; exact h0⟩
    · exact ⟨_, rfl, by rw [add_zero']; exact h1⟩
    · exact ⟨_, rfl, by rw [add_zero']; exact h2⟩⟩
theorem pA_le {f : Few} (hf : FewOk f) : pA f ≤ 70 := by
  have : f.K * f.A ≤ 560 := Nat.le_trans (Nat.mul_le_mul hf.K2 hf.A2) (by omega)
  unfold pA wholeB; omega
theorem pB_le {f : Few} (hf : FewOk f) : pB f ≤ 8 := by have := hf.LH; unfold pB wholeB; omega
theorem pC_le {f : Few} (hf : FewOk f) : pC f ≤ 2 := by have := hf.H2; unfold pC wholeB; omega

/-- What is handed back of a digest of n bytes. -/
def whereV (f : Few) (n : Nat) (l : List UInt8) : Value := if n = pA f + pB f + pC f then .tuple #[.int .u64 (treeOf f l : Int), .int .u32 (leafOf f l : Int), .bool true] else .tuple #[.int .u64 0, .int .u32 0, .bool false]

theorem pow256_le {k : Nat} (h : k ≤ 8) : 256 ^ k ≤ 2 ^ 64 := Nat.le_trans (Nat.pow_le_pow_right (by omega) h) (by decide)
theorem pow512_le {k : Nat} (h : k ≤ 9) : 2 ^ k ≤ 512 := Nat.le_trans (Nat.pow_le_pow_right (by omega) h) (by decide)
theorem shl_wraps (k : Nat) (hk : k ≤ 63) : IntKind.u64.wrap ((2 : Int) ^ k) = 2 ^ k ∧ IntKind.u64.wrap ((2 : Int) ^ k - 1) = 2 ^ k - 1 := by
  have hpI : (2 : Int) ^ k = ((2 ^ k : Nat) : Int) := by rw [Int.natCast_pow]; rfl
  have h1 : 1 ≤ 2 ^ k := Nat.one_le_two_pow
  have h2 : 2 ^ k ≤ 2 ^ 63 := Nat.pow_le_pow_right (by omega) hk
  rw [hpI]
  exact ⟨wraps_u64 _ (by omega) (by omega), wraps_u64 _ (by omega) (by omega)⟩

theorem where_not (N L H K A : Int) (x : Value) (w : World) (h : mayI N L H K A = false) : Calls Tryz.prog 19 #[vFewI N L H K A, x] w (RetV w (.tuple #[.int .u64 0, .int .u32 0, .bool false])) := by
  have HM := Lib.hid (fun w => h ▸ may_any N L H K A w)
  unfold vFewI at *
  go_enter Tryz.func19, Tryz.ntmps19
  go_wp2_with fail
  refine (HM.out _).mono ?_
  rintro e w1 ⟨rfl, hB⟩
  have g1 : Grow w w1 := ((Below.refl _ w).alloc (Nat.le_refl _) _).trans (hB.mono (by simp))
  clear hB
  go_wp2
  go_ret3
  exact ⟨rfl, g1⟩

set_option maxHeartbeats 2000000 in
set_option maxRecDepth 20000 in
theorem where_any (f : Few) (hf : FewOk f) (A : Option Addr) (n c : Nat) (l : List UInt8) (w : World) (hr : Rd eB w A n l) (hc : n ≤ c) (hcb : c ≤ maxLen) :
    Calls Tryz.prog 19 #[vFew f, .slice A n c] w (RetV w (whereV f n l)) := by
  have HM := Lib.hid (fun w => mayI_ok' hf ▸ may_any f.N f.L f.H f.K f.A w)
  have HF := Lib.hid hf
  have HP := Lib.hid (fun w => parts_any f hf w)
  have HR := Lib.hid hr
  have hH := hf.H2
  have hA := pA_le hf
  have hB8 := pB_le hf
  have hC2 := pC_le hf
  clear hf hr
  unfold vFewI at HM
  unfold vFew at HP ⊢
  go_enter Tryz.func19, Tryz.ntmps19
  go_wp2_with fail
  refine (HM.out _).mono ?_
  rintro e W0 ⟨rfl, hB⟩
  have hB' := cell_box f (by simpa using hB)
  clear hB
  obtain ⟨k0, k1, k2, k3, k4, g0⟩ := hB'
  go_wp2_with fail
  refine (HP.out W0).mono ?_
  rintro e w1 ⟨rfl, hB⟩
  replace k0 := cell_old hB k0; replace k1 := cell_old hB k1; replace k2 := cell_old hB k2; replace k3 := cell_old hB k3; replace k4 := cell_old hB k4
  have g1 : Below w.heap.size w w1 := g0.trans (hB.mono g0.size)
  clear hB g0
  have HS := Lib.hid (three_cells (w := w1.alloc (.cells #[eN (pA f), eN (pB f), eN (pC f)] 3)) (b := w1.heap.size) (x := pA f) (y := pB f) (z := pC f) (cell_new ..) (cell_new ..) (cell_new ..))
  have g2 : Below w.heap.size w (w1.alloc (.cells #[eN (pA f), eN (pB f), eN (pC f)] 3)) := g1.alloc g1.size _
  have HC := Lib.hid (cut_any A (some ⟨w1.heap.size, 0, none⟩) n c 3 3 l [pA f, pB f, pC f] _ (HR.out.below g2) hc hcb HS.out (by omega) (by intro x hx; simp at hx; omega))
  have HG2 := Lib.hid g2
  have hsum : [pA f, pB f, pC f].sum = pA f + pB f + pC f := by simp [Nat.add_assoc]
  have HSUM := Lib.hid hsum
  have hga : Below w1.heap.size w1 (w1.alloc (.cells #[eN (pA f), eN (pB f), eN (pC f)] 3)) := (Below.refl _ _).alloc (Nat.le_refl _) _
  replace k0 := cell_old hga k0; replace k1 := cell_old hga k1; replace k2 := cell_old hga k2; replace k3 := cell_old hga k3; replace k4 := cell_old hga k4
  have HK := Lib.hid (And.intro k0 (And.intro k1 (And.intro k2 (And.intro k3 k4))))
  clear hsum g2 g1 hga k0 k1 k2 k3 k4
  go_wp2_with fail
  refine HC.out.mono ?_
  rintro e w3 ⟨g3, ⟨hn, Ao, co, ps, rfl, ho, hpt⟩ | ⟨hn, code, hcode, rfl⟩⟩
  · rw [HSUM.out] at hn
    have HV : Hid (whereV f n l = .tuple #[.int .u64 (treeOf f l : Int), .int .u32 (leafOf f l : Int), .bool true]) := Lib.hid (if_pos hn.symm)
    have hpl : ps.length = 3 := ho.len
    have HG : Hid (Below w.heap.size w w3.drew) := Lib.hid (HG2.out.trans (g3.mono HG2.out.size)).drew
    obtain ⟨k0, k1, k2, k3, k4⟩ := HK.out
    replace k0 := cell_old g3 k0; replace k1 := cell_old g3 k1; replace k2 := cell_old g3 k2; replace k3 := cell_old g3 k3; replace k4 := cell_old g3 k4
    obtain ⟨g, rfl⟩ : ∃ g, Ao = some ⟨g, 0, none⟩ := by
      rcases ho.at_ with ⟨h1, h2⟩ | ⟨g, h1, _⟩
      · have := ho.nc; simp at this; omega
      · exact ⟨g, h1⟩
    have q1 := ho.cell_at 1 (by simp)
    have q2 := ho.cell_at 2 (by simp)
    have hp1 := (hpt 1 (by omega)).rd
    have hp2 := (hpt 2 (by omega)).rd
    have e1 : cutL l (offs [pA f, pB f, pC f] 1) (offs [pA f, pB f, pC f] (1 + 1)) = cutL l (pA f) (pA f + pB f) := by simp [offs]
    have e2 : cutL l (offs [pA f, pB f, pC f] 2) (offs [pA f, pB f, pC f] (2 + 1)) = cutL l (pA f + pB f) (pA f + pB f + pC f) := by simp [offs, Nat.add_assoc]
    rw [e1] at hp1
    rw [e2] at hp2
    have hl1 : (cutL l (pA f) (pA f + pB f)).length = pB f := by rw [cutL_length _ _ _ (by omega) (by rw [HR.out.len]; omega)]; omega
    have hl2 : (cutL l (pA f + pB f) (pA f + pB f + pC f)).length = pC f := by rw [cutL_length _ _ _ (by omega) (by rw [HR.out.len]; omega)]; omega
    clear hpt
    generalize ps[1] = p1 at hp1 q1
    generalize ps[2] = p2 at hp2 q2
    obtain ⟨A1, n1, c1⟩ := p1
    obtain ⟨A2, n2, c2⟩ := p2
    dsimp only [eS] at q1 q2 hp1 hp2
    have hn1 : n1 ≤ 8 := by rw [← hp1.len, hl1]; exact hB8
    have hn2 : n2 ≤ 8 := by rw [← hp2.len, hl2]; omega
    have HG1 := Lib.hid (get_any A1 n1 c1 _ w3 hp1 hn1)
    have HG2 := Lib.hid (get_any A2 n2 c2 _ w3 hp2 hn2)
    have hb1 := getBE_lt (cutL l (pA f) (pA f + pB f))
    have hb2 := getBE_lt (cutL l (pA f + pB f) (pA f + pB f + pC f))
    have hw1 : getBE (cutL l (pA f) (pA f + pB f)) < 2 ^ 64 := Nat.lt_of_lt_of_le hb1 (by rw [hl1]; exact pow256_le hB8)
    have hw2 : getBE (cutL l (pA f + pB f) (pA f + pB f + pC f)) < 2 ^ 64 := Nat.lt_of_lt_of_le hb2 (by rw [hl2]; exact pow256_le (by omega))
    have HT : Hid (treeOf f l = getBE (cutL l (pA f) (pA f + pB f)) % 2 ^ ((f.L - 1) * f.H)) := Lib.hid rfl
    have HU : Hid (leafOf f l = getBE (cutL l (pA f + pB f) (pA f + pB f + pC f)) % 2 ^ f.H) := Lib.hid rfl
    generalize getBE (cutL l (pA f) (pA f + pB f)) = g1 at *
    generalize getBE (cutL l (pA f + pB f) (pA f + pB f + pC f)) = g2 at *
    obtain ⟨ab, hab⟩ : ∃ ab, (f.L - 1) * f.H = ab := ⟨_, rfl⟩
    have hab2 : ab ≤ 63 := by rw [← hab]; exact HF.out.LH
    obtain ⟨t, ht⟩ : ∃ t, g1 % 2 ^ ab = t := ⟨_, rfl⟩
    obtain ⟨u, hu⟩ : ∃ u, g2 % 2 ^ f.H = u := ⟨_, rfl⟩
    have hm1 : bits .and .u64 (g1 : Int) (2 ^ ab - 1) = (t : Int) := by rw [mask_u64 g1 ab hw1 (by omega), ht]
    have hm2 : bits .and .u64 (g2 : Int) (2 ^ f.H - 1) = (u : Int) := by rw [mask_u64 g2 f.H hw2 (by omega), hu]
    have hs1 := shl_wraps ab hab2
    have hs2 := shl_wraps f.H (by omega)
    obtain ⟨hs11, hs12⟩ := hs1
    obtain ⟨hs21, hs22⟩ := hs2
    have hu2 : u < 512 := by
      rw [← hu]
      exact Nat.lt_of_lt_of_le (Nat.mod_lt _ (Nat.two_pow_pos _)) (pow512_le hH)
    rw [hab, ht] at HT
    rw [hu] at HU
    have HAB := Lib.hid hab
    clear hab ht hu hw1 hw2 hb1 hb2 hl1 hl2 e1 e2 hp1 hp2 hpl hn HC HK g3 HM HP HS
    go_wp2_with fail
    refine HG1.out.mono ?_
    rintro e w4 ⟨rfl, rfl⟩
    go_wp2_with fail
    refine HG2.out.mono ?_
    rintro e w4 ⟨rfl, rfl⟩
    go_wp2_with fail
    clear q1 q2 HG1 HG2
    refine wp_region_rg Grow 63 16 10 [[], [], [], [], [], [], [], [], [], [], [], [], [], [], [], []]
      [.still [] (.int .u64 (g1 : Int)), .still [] (.agg #[.int .i64 (f.N : Int), .int .i64 (f.L : Int), .int .i64 (f.H : Int), .int .i64 (f.K : Int), .int .i64 (f.A : Int)]), .still [] (.int .i64 (ab : Int)), .still [] (.int .u64 (2 ^ ab)), .still [] (.int .u64 (2 ^ ab - 1)), .still [] (.int .u64 (t : Int)), .still [] (.int .u64 (g2 : Int)), .still [] (.pointer (some ⟨w.heap.size, 2, none⟩)), .still [] (.int .i64 (f.H : Int)), .still [] (.int .u64 (2 ^ f.H)), .still [] (.int .u64 (2 ^ f.H - 1)), .still [] (.int .u64 (u : Int)), .still [] (.int .u32 (u : Int)), .still [] (.int .u64 (t : Int)), .still [] (.int .u32 (u : Int)), .still [] (.bool true)] (by kernel_rfl) (by kernel_rfl) rfl rfl rfl Grow.trans (Grow.refl _) ?_
    refine Obl.still (fun W hg _ => ?_) ?_
    · have c0 := cell_old hg k0; have c1 := cell_old hg k1; have c2 := cell_old hg k2; have c3 := cell_old hg k3; have c4 := cell_old hg k4; clear hg k0 k1 k2 k3 k4
      go_wp2
      exact ⟨rfl, rfl, rfl, Grow.refl _⟩
    simp only [Act.put, List.setIfInBounds_toArray, List.set_cons_zero, List.set_cons_succ]
    refine Obl.still (fun W hg _ => ?_) ?_
    · have c0 := cell_old hg k0; have c1 := cell_old hg k1; have c2 := cell_old hg k2; have c3 := cell_old hg k3; have c4 := cell_old hg k4; clear hg k0 k1 k2 k3 k4
      go_wp2
      exact ⟨rfl, rfl, rfl, Grow.refl _⟩
    simp only [Act.put, List.setIfInBounds_toArray, List.set_cons_zero, List.set_cons_succ]
    refine Obl.still (fun W hg _ => ?_) ?_
    · have HC := Lib.hid (above_any f HF.out W)
      unfold vFew at HC
      rw [HAB.out] at HC
      clear hg k0 k1 k2 k3 k4
      go_wp2_with fail
      refine (HC.out).mono ?_
      rintro e w' ⟨rfl, hB⟩
      have hG : Grow W w' := hB
      clear hB
      go_wp2
      exact ⟨rfl, rfl, rfl, hG⟩
    simp only [Act.put, List.setIfInBounds_toArray, List.set_cons_zero, List.set_cons_succ]
    refine Obl.still (fun W hg _ => ?_) ?_
    · have c0 := cell_old hg k0; have c1 := cell_old hg k1; have c2 := cell_old hg k2; have c3 := cell_old hg k3; have c4 := cell_old hg k4; clear hg k0 k1 k2 k3 k4
      go_wp2
      exact ⟨rfl, rfl, rfl, Grow.refl _⟩
    simp only [Act.put, List.setIfInBounds_toArray, List.set_cons_zero, List.set_cons_succ]
    refine Obl.still (fun W hg _ => ?_) ?_
    · have c0 := cell_old hg k0; have c1 := cell_old hg k1; have c2 := cell_old hg k2; have c3 := cell_old hg k3; have c4 := cell_old hg k4; clear hg k0 k1 k2 k3 k4
      go_wp2
      exact ⟨rfl, rfl, rfl, Grow.refl _⟩
    simp only [Act.put, List.setIfInBounds_toArray, List.set_cons_zero, List.set_cons_succ]
    refine Obl.still (fun W hg _ => ?_) ?_
    · have c0 := cell_old hg k0; have c1 := cell_old hg k1; have c2 := cell_old hg k2; have c3 := cell_old hg k3; have c4 := cell_old hg k4; clear hg k0 k1 k2 k3 k4
      go_wp2
      exact ⟨rfl, rfl, rfl, Grow.refl _⟩
    simp only [Act.put, List.setIfInBounds_toArray, List.set_cons_zero, List.set_cons_succ]
    refine Obl.still (fun W hg _ => ?_) ?_
    · have c0 := cell_old hg k0; have c1 := cell_old hg k1; have c2 := cell_old hg k2; have c3 := cell_old hg k3; have c4 := cell_old hg k4; clear hg k0 k1 k2 k3 k4
      go_wp2
      exact ⟨rfl, rfl, rfl, Grow.refl _⟩
    simp only [Act.put, List.setIfInBounds_toArray, List.set_cons_zero, List.set_cons_succ]
    refine Obl.still (fun W hg _ => ?_) ?_
    · have c0 := cell_old hg k0; have c1 := cell_old hg k1; have c2 := cell_old hg k2; have c3 := cell_old hg k3; have c4 := cell_old hg k4; clear hg k0 k1 k2 k3 k4
      go_wp2
      exact ⟨rfl, rfl, rfl, Grow.refl _⟩
    simp only [Act.put, List.setIfInBounds_toArray, List.set_cons_zero, List.set_cons_succ]
    refine Obl.still (fun W hg _ => ?_) ?_
    · have c0 := cell_old hg k0; have c1 := cell_old hg k1; have c2 := cell_old hg k2; have c3 := cell_old hg k3; have c4 := cell_old hg k4; clear hg k0 k1 k2 k3 k4
      go_wp2
      exact ⟨rfl, rfl, rfl, Grow.refl _⟩
    simp only [Act.put, List.setIfInBounds_toArray, List.set_cons_zero, List.set_cons_succ]
    refine Obl.still (fun W hg _ => ?_) ?_
    · have c0 := cell_old hg k0; have c1 := cell_old hg k1; have c2 := cell_old hg k2; have c3 := cell_old hg k3; have c4 := cell_old hg k4; clear hg k0 k1 k2 k3 k4
      go_wp2
      exact ⟨rfl, rfl, rfl, Grow.refl _⟩
    simp only [Act.put, List.setIfInBounds_toArray, List.set_cons_zero, List.set_cons_succ]
    refine Obl.still (fun W hg _ => ?_) ?_
    · have c0 := cell_old hg k0; have c1 := cell_old hg k1; have c2 := cell_old hg k2; have c3 := cell_old hg k3; have c4 := cell_old hg k4; clear hg k0 k1 k2 k3 k4
      go_wp2
      exact ⟨rfl, rfl, rfl, Grow.refl _⟩
    simp only [Act.put, List.setIfInBounds_toArray, List.set_cons_zero, List.set_cons_succ]
    refine Obl.still (fun W hg _ => ?_) ?_
    · have c0 := cell_old hg k0; have c1 := cell_old hg k1; have c2 := cell_old hg k2; have c3 := cell_old hg k3; have c4 := cell_old hg k4; clear hg k0 k1 k2 k3 k4
      go_wp2
      exact ⟨rfl, rfl, rfl, Grow.refl _⟩
    simp only [Act.put, List.setIfInBounds_toArray, List.set_cons_zero, List.set_cons_succ]
    refine Obl.still (fun W hg _ => ?_) ?_
    · have c0 := cell_old hg k0; have c1 := cell_old hg k1; have c2 := cell_old hg k2; have c3 := cell_old hg k3; have c4 := cell_old hg k4; clear hg k0 k1 k2 k3 k4
      go_wp2
      exact ⟨rfl, rfl, rfl, Grow.refl _⟩
    simp only [Act.put, List.setIfInBounds_toArray, List.set_cons_zero, List.set_cons_succ]
    refine Obl.still (fun W hg _ => ?_) ?_
    · have c0 := cell_old hg k0; have c1 := cell_old hg k1; have c2 := cell_old hg k2; have c3 := cell_old hg k3; have c4 := cell_old hg k4; clear hg k0 k1 k2 k3 k4
      go_wp2
      exact ⟨rfl, rfl, rfl, Grow.refl _⟩
    simp only [Act.put, List.setIfInBounds_toArray, List.set_cons_zero, List.set_cons_succ]
    refine Obl.still (fun W hg _ => ?_) ?_
    · have c0 := cell_old hg k0; have c1 := cell_old hg k1; have c2 := cell_old hg k2; have c3 := cell_old hg k3; have c4 := cell_old hg k4; clear hg k0 k1 k2 k3 k4
      go_wp2
      exact ⟨rfl, rfl, rfl, Grow.refl _⟩
    simp only [Act.put, List.setIfInBounds_toArray, List.set_cons_zero, List.set_cons_succ]
    refine Obl.still (fun W hg _ => ?_) ?_
    · have c0 := cell_old hg k0; have c1 := cell_old hg k1; have c2 := cell_old hg k2; have c3 := cell_old hg k3; have c4 := cell_old hg k4; clear hg k0 k1 k2 k3 k4
      go_wp2
      exact ⟨rfl, rfl, rfl, Grow.refl _⟩
    simp only [Act.put, List.setIfInBounds_toArray, List.set_cons_zero, List.set_cons_succ]
    refine Obl.done (fun W hg hall => ?_)
    have hB := HG.out.trans (hg.mono HG.out.size)
    clear hg k0 k1 k2 k3 k4 hall
    go_wp2
    refine bodyPost_ret (v := .tuple #[_, _, _]) (by simp [results, Tryz.f19, go_sem]; exact ⟨rfl, rfl, rfl⟩) rfl ⟨?_, hB⟩
    rw [HV.out, HT.out, HU.out]
  · rw [HSUM.out] at hn
    have HV : Hid (whereV f n l = .tuple #[.int .u64 0, .int .u32 0, .bool false]) := Lib.hid (if_neg (fun e => hn e.symm))
    have HG : Hid (Below w.heap.size w w3) := Lib.hid (HG2.out.trans (g3.mono HG2.out.size))
    have hc2 : (code != 0) = true := by simpa using hcode
    clear g3 HC
    go_wp2
    go_ret3
    exact ⟨by rw [HV.out]; rfl, HG.out⟩
end Go.Proofs.Sl

/- The document's SLH: how many chains; how large a signature is; a digest's parts. -/
namespace Go.Proofs.Sl
open Go.RowKit Go.Proofs

theorem mayI_few (N L H K A : Int) (h : mayI N L H K A = true) : ∃ f : Few, FewOk f ∧ N = f.N ∧ L = f.L ∧ H = f.H ∧ K = f.K ∧ A = f.A := by
  rw [mayI_parts] at h
  have hp : ∀ x y : Nat, ((x : Int) - 1) * (y : Int) < 64 → 1 ≤ x → (x - 1) * y ≤ 63 := by
    intro x y h1 h2
    have e : ((x : Int) - 1) * (y : Int) = (((x - 1) * y : Nat) : Int) := by rw [Int.natCast_mul]; congr 1; omega
    omega
  simp only [Bool.and_eq_true, decide_eq_true_eq, sizeI] at h
  obtain ⟨h0, ⟨⟨⟨⟨⟨⟨⟨⟨h1, h2⟩, h3⟩, h4⟩, h5⟩, h6⟩, h7⟩, h8⟩, h9⟩⟩ := h
  obtain ⟨n, rfl⟩ : ∃ n : Nat, N = n := ⟨N.toNat, by omega⟩
  obtain ⟨l, rfl⟩ : ∃ n : Nat, L = n := ⟨L.toNat, by omega⟩
  obtain ⟨x, rfl⟩ : ∃ n : Nat, H = n := ⟨H.toNat, by omega⟩
  obtain ⟨k, rfl⟩ : ∃ n : Nat, K = n := ⟨K.toNat, by omega⟩
  obtain ⟨a, rfl⟩ : ∃ n : Nat, A = n := ⟨A.toNat, by omega⟩
  have h10 := hp l x h5 (by omega)
  refine ⟨⟨n, l, x, k, a⟩, ⟨?_, ?_, ?_, ?_, ?_, h10, ?_, ?_, ?_, ?_⟩, rfl, rfl, rfl, rfl, rfl⟩ <;> first | (show n = 16 ∨ n = 24 ∨ n = 32; omega) | (dsimp only; omega) | (simp only []; omega)

theorem rchains_any (f : Few) (hf : FewOk f) (w : World) : Calls Tryz.prog 18 #[vFew f] w (RetV w (.int .i64 ((chainsL f.N : Nat) : Int))) := by
  have HM := Lib.hid (fun w => mayI_ok' hf ▸ rmay_any f.N f.L f.H f.K f.A w)
  have HN := Lib.hid hf.N
  have h2 := hf.N.le'
  unfold vFewI at HM
  unfold vFew
  go_enter Tryz.func18, Tryz.ntmps18
  go_wp2_with fail
  refine (HM.out _).mono ?_
  rintro e w1 ⟨rfl, hB⟩
  have k0 : w1.cell? ⟨w.heap.size, 0, none⟩ = some (.int .i64 (f.N : Int)) := (hB.cell (by simp)).trans (by go_simp)
  have g1 : Grow w w1 := ((Below.refl _ w).alloc (Nat.le_refl _) _).trans (hB.mono (by simp))
  clear hB
  go_wp2_with fail
  refine (rshape_any f.N HN.out w1).mono ?_
  rintro e w2 ⟨rfl, g2⟩
  have gg := g1.trans _ _ _ g2
  clear g1 g2 k0
  go_wp2
  go_ret
  exact ⟨by unfold chainsL; congr 1, gg⟩

theorem rchains_no (N L H K A : Int) (w : World) (h : mayI N L H K A = false) : Calls Tryz.prog 18 #[vFewI N L H K A] w (RetV w (.int .i64 0)) := by
  have HM := Lib.hid (fun w => h ▸ rmay_any N L H K A w)
  unfold vFewI at *
  go_enter Tryz.func18, Tryz.ntmps18
  go_wp2_with fail
  refine (HM.out _).mono ?_
  rintro e w1 ⟨rfl, hB⟩
  have g1 : Grow w w1 := ((Below.refl _ w).alloc (Nat.le_refl _) _).trans (hB.mono (by simp))
  clear hB
  go_wp2
  go_ret
  exact ⟨rfl, g1⟩

set_option maxHeartbeats 2000000 in
theorem rparts_any (f : Few) (hf : FewOk f) (w : World) : Calls Tryz.prog 36 #[vFew f] w (RetV w (.agg #[.int .i64 ((pA f : Nat) : Int), .int .i64 ((pB f : Nat) : Int), .int .i64 ((pC f : Nat) : Int)])) := by
  have hH := hf.H2
  have hL1 := hf.L1
  have hL2 := hf.L2
  obtain ⟨ka, hka⟩ : ∃ ka, f.K * f.A = ka := ⟨_, rfl⟩
  obtain ⟨ab, hab⟩ : ∃ ab, (f.L - 1) * f.H = ab := ⟨_, rfl⟩
  have hka1 : (f.K : Int) * (f.A : Int) = (ka : Int) := by rw [← hka]; simp
  have hka2 : ka ≤ 560 := by rw [← hka]; exact Nat.le_trans (Nat.mul_le_mul hf.K2 hf.A2) (by omega)
  have hab2 : ab ≤ 63 := by rw [← hab]; exact hf.LH
  have hab1 : ((f.L : Int) - 1) * (f.H : Int) = (ab : Int) := by rw [← hab, Int.natCast_mul]; congr 1; omega
  have HP : Hid (((ka : Int) + 7) / 8 = ((pA f : Nat) : Int) ∧ ((ab : Int) + 7) / 8 = ((pB f : Nat) : Int) ∧ ((f.H : Int) + 7) / 8 = ((pC f : Nat) : Int)) := Lib.hid (by unfold pA pB pC wholeB; rw [hka, hab]; omega)
  clear hka hab hf
  unfold vFew
  go_enter Tryz.func36, Tryz.ntmps36
  go_wp2
  refine bodyPost_ret (v := .agg #[.int .i64 (((ka : Int) + 7) / 8), .int .i64 (((ab : Int) + 7) / 8), .int .i64 (((f.H : Int) + 7) / 8)]) (by simp [results, Tryz.f36, go_sem]) rfl ⟨by rw [HP.out.1, HP.out.2.1, HP.out.2.2], ?_⟩
  exact ((Below.refl _ _).alloc (Nat.le_refl _) _).alloc (by simp) _
end Go.Proofs.Sl

/- The document's SLH: what is gone up; the secret of a chain. -/
namespace Go.Proofs.Sl
open Go.RowKit Go.Proofs

/-- The variables of a call: a set at b7, an address at b9 of which the last number turns. -/
structure UBox (f : Few) (b7 b9 : Nat) (layer tree a i : Nat) (w : World) : Prop where
  ne : b7 ≠ b9
  n : w.cell? ⟨b7, 0, none⟩ = some (.int .i64 (f.N : Int))
  c0 : w.cell? ⟨b9, 0, none⟩ = some (.int .u32 (layer : Int))
  c1 : w.cell? ⟨b9, 1, none⟩ = some (.int .u64 (tree : Int))
  c2 : w.cell? ⟨b9, 2, none⟩ = some (.int .u32 0)
  c3 : w.cell? ⟨b9, 3, none⟩ = some (.int .u32 (a : Int))
  c4 : w.cell? ⟨b9, 4, none⟩ = some (.int .u32 (i : Int))
  c5 : ∃ v : Nat, w.cell? ⟨b9, 5, none⟩ = some (.int .u32 (v : Int))
  f5 : w.frozen? ⟨b9, 5, none⟩ = false
theorem UBox.grow {f : Few} {b7 b9 layer tree a i : Nat} {w w' : World} (h : UBox f b7 b9 layer tree a i w) (g : Grow w w') : UBox f b7 b9 layer tree a i w' :=
  ⟨h.ne, cell_old g h.n, cell_old g h.c0, cell_old g h.c1, cell_old g h.c2, cell_old g h.c3, cell_old g h.c4, by obtain ⟨v, hv⟩ := h.c5; exact ⟨v, cell_old g hv⟩, by
    obtain ⟨v, hv⟩ := h.c5
    exact (World.frozen?_of_block (w := w) (a := ⟨b9, 5, none⟩) (g.block _ (World.block_lt_of_cell? w _ hv))).trans h.f5⟩
theorem UBox.set {f : Few} {b7 b9 layer tree a i : Nat} {w : World} (h : UBox f b7 b9 layer tree a i w) (v : Nat) : UBox f b7 b9 layer tree a i (w.setCell ⟨b9, 5, none⟩ (.int .u32 (v : Int))) := by
  obtain ⟨x, hx⟩ := h.c5
  have ho : ∀ q : Addr, q ≠ ⟨b9, 5, none⟩ → (w.setCell ⟨b9, 5, none⟩ (.int .u32 (v : Int))).cell? q = w.cell? q := fun q hq => World.cell?_setCell_other _ _ _ _ (Ne.symm hq)
  refine ⟨h.ne, (ho _ (by intro e; injection e with e; exact h.ne e)).trans h.n, (ho _ (by simp)).trans h.c0, (ho _ (by simp)).trans h.c1, (ho _ (by simp)).trans h.c2, (ho _ (by simp)).trans h.c3, (ho _ (by simp)).trans h.c4, ⟨v, World.cell?_setCell_same _ _ _ hx⟩, by simpa using h.f5⟩
theorem UBox.last {f : Few} {b7 b9 layer tree a i : Nat} {w : World} (h : UBox f b7 b9 layer tree a i w) (v : Nat) : (w.setCell ⟨b9, 5, none⟩ (.int .u32 (v : Int))).cell? ⟨b9, 5, none⟩ = some (.int .u32 (v : Int)) := by
  obtain ⟨x, hx⟩ := h.c5
  exact World.cell?_setCell_same _ _ _ hx

set_option maxHeartbeats 2000000 in
theorem rup_any (f : Few) (hf : FewOk f) (A Ax : Option Addr) (n c nx cx : Nat) (seed x : List UInt8) (ad : Ad) (i fr ub : Nat) (w : World) (hs : Rd eB w A n seed) (hsl : seed.length = f.N) (had : ad.Ok) (hi : i ≤ 1000) (hft : fr ≤ ub) (hto : ub ≤ 1000) (hx : Rd eB w Ax nx x) (hxl : x.length = f.N) :
    Calls Tryz.prog 40 #[vFew f, .slice A n c, vAd ad, .int .i64 (i : Int), .int .i64 (fr : Int), .int .i64 (ub : Int), .slice Ax nx cx] w (RetRd eB w (upL f.N seed ad.layer ad.tree ad.a i fr x (ub - fr))) := by
  obtain ⟨layer, tree, kind, a, bb, cc⟩ := ad
  have HS := Lib.hid hs
  have HX := Lib.hid hx
  have HAD := Lib.hid had
  have HF := Lib.hid hf
  have HSL := Lib.hid hsl
  have HXL := Lib.hid hxl
  have hN := hf.N.le'
  clear hs hx had hf hsl hxl
  unfold vFew vAd
  dsimp only
  have e1 : (i : Int) % 4294967296 = (i : Int) := by omega
  go_enter Tryz.func40, Tryz.ntmps40
  go_wp2_with fail
  generalize hW0 : World.alloc (World.alloc w _) _ = W0
  have hb0 : Below w.heap.size w W0 := by
    rw [← hW0]
    exact ((Below.refl _ w).alloc (Nat.le_refl _) _).alloc (by simp) _
  have hU : UBox f w.heap.size (w.heap.size + 1) layer tree a i W0 := by
    subst hW0
    refine ⟨by omega, ?_, ?_, ?_, ?_, ?_, ?_, ⟨cc, ?_⟩, ?_⟩ <;> go_simp
  have hs0 : w.heap.size + 2 ≤ W0.heap.size := by rw [← hW0]; simp
  have hxs : ∀ u, Rd eB (W0.setCell ⟨w.heap.size + 1, 5, none⟩ u) Ax nx (upL f.N seed layer tree a i fr x 0) := fun u => HX.out.below (hb0.setCell (p := ⟨w.heap.size + 1, 5, none⟩) (by show w.heap.size ≤ w.heap.size + 1; omega) u)
  have HS0 := Lib.hid (And.intro hb0 (And.intro hU (And.intro hs0 hxs)))
  clear hb0 hU hs0 hxs hW0
  go_loopw [6, 15] (fun v g wr => ∃ (k : Nat) (Ak : Option Addr) (nk ck : Nat), k ≤ ub - fr ∧ g = .int .i64 ((fr : Int) + (k : Int)) ∧ v = .slice Ak nk ck ∧ (∀ u, Rd eB (wr.setCell ⟨w.heap.size + 1, 5, none⟩ u) Ak nk (upL f.N seed layer tree a i fr x k)) ∧ UBox f w.heap.size (w.heap.size + 1) layer tree a i wr ∧ Below w.heap.size w wr ∧ w.heap.size + 2 ≤ wr.heap.size) (fun _ g _ => ub - (intOf g).toNat)
  case atStart => exact ⟨0, Ax, nx, cx, Nat.zero_le _, by simp, rfl, HS0.out.2.2.2, HS0.out.2.1, HS0.out.1, HS0.out.2.2.1⟩
  case round =>
    clear HS0
    obtain ⟨k, Ak, nk, ck, hk, rfl, rfl, ho, hu, hb, hz⟩ := hrel
    have HO := Lib.hid ho
    have HU := Lib.hid hu
    have HB := Lib.hid hb
    have HZ := Lib.hid hz
    by_cases hlt : k < ub - fr
    · have e2 : ((fr : Int) + (k : Int)) % 4294967296 = (fr : Int) + (k : Int) := by omega
      obtain ⟨v5, hv5⟩ := hu.c5
      have hf5 := hu.f5
      have hkk : (((fr + k : Nat) : Nat) : Int) = (fr : Int) + (k : Int) := by omega
      have hu2 := hu.set (fr + k)
      have hl2 := hu.last (fr + k)
      rw [hkk] at hu2 hl2
      have m0 := hu2.n; have m1 := hu2.c0; have m2 := hu2.c1; have m3 := hu2.c2; have m4 := hu2.c3; have m5 := hu2.c4
      have hb2 := hb.setCell (p := ⟨w.heap.size + 1, 5, none⟩) (show w.heap.size ≤ w.heap.size + 1 by omega) (.int .u32 ((fr : Int) + (k : Int)))
      have HC := Lib.hid (rtweak_any f.N A Ak n c nk ck seed (upL f.N seed layer tree a i fr x k) ⟨layer, tree, 0, a, i, fr + k⟩ (wr.setCell ⟨w.heap.size + 1, 5, none⟩ (.int .u32 ((fr : Int) + (k : Int)))) HF.out.N (HS.out.below hb2) HSL.out (ho _) (by rw [upL_length _ _ _ _ _ _ _ _ HXL.out (by omega)]; omega) ⟨HAD.out.layer, HAD.out.tree, by show (0 : Nat) < _; omega, HAD.out.a, by show i < _; omega, by show fr + k < _; omega⟩)
      unfold vAd at HC
      dsimp only at HC
      rw [hkk] at HC
      have HB2 := Lib.hid hb2
      have HU2 := Lib.hid hu2
      have hsz : (wr.setCell ⟨w.heap.size + 1, 5, none⟩ (.int .u32 ((fr : Int) + (k : Int)))).heap.size = wr.heap.size := by simp [World.setCell]
      have HSZ := Lib.hid hsz
      clear ho hu hb hz hkk hb2 hu2 hsz
      go_wp2_with fail
      refine HC.out.mono ?_
      rintro e w3 ⟨A3, n3, c3, rfl, h5, h6⟩
      have g6 : Grow (wr.setCell ⟨w.heap.size + 1, 5, none⟩ (.int .u32 ((fr : Int) + (k : Int)))) w3 := h6
      have hz3 := h6.size
      rw [HSZ.out] at hz3
      have HN : Hid ((∀ u, Rd eB (w3.setCell ⟨w.heap.size + 1, 5, none⟩ u) A3 n3 (upL f.N seed layer tree a i fr x (k + 1))) ∧ UBox f w.heap.size (w.heap.size + 1) layer tree a i w3 ∧ Below w.heap.size w w3 ∧ w.heap.size + 2 ≤ w3.heap.size) := Lib.hid (by
        refine ⟨fun u => ?_, HU2.out.grow g6, HB2.out.trans (h6.mono HB2.out.size), by have := HZ.out; omega⟩
        have h5' : Own eB (wr.heap.size) w3 A3 n3 c3 (upL f.N seed layer tree a i fr x (k + 1)) := h5.mono (by rw [HSZ.out]; exact Nat.le_refl _)
        refine (h5'.set_other ⟨w.heap.size + 1, 5, none⟩ u ?_).rd
        intro e
        have h0 : 0 < c3 := by have := h5'.nc; have := h5'.len; rw [upL_length _ _ _ _ _ _ _ _ HXL.out (by omega)] at this; have := HF.out.N.pos'; omega
        have h9 := (h5'.lt _ e h0).1
        dsimp only at h9
        have := HZ.out
        omega)
      clear HC h5 h6 g6 m0 m1 m2 m3 m4 m5 hl2 hv5 hf5
      go_wp2
      go_roundw
      case rel => exact ⟨k + 1, A3, n3, c3, by omega, by go_num, rfl, HN.out.1, HN.out.2.1, HN.out.2.2.1, HN.out.2.2.2⟩
      case measure => simp [intOf]; omega
    · obtain rfl : k = ub - fr := by omega
      clear ho hu hb hz
      have HR : Hid (Rd eB wr Ak nk (upL f.N seed layer tree a i fr x (ub - fr))) := Lib.hid (by
        obtain ⟨v5, hv5⟩ := HU.out.c5
        have h := HO.out (.int .u32 (v5 : Int))
        refine ⟨h.len, h.big, fun j hj => ?_⟩
        obtain ⟨adr, e, hc⟩ := h.cell j hj
        refine ⟨adr, e, ?_⟩
        by_cases hq : (⟨w.heap.size + 1, 5, none⟩ : Addr) = adr.add j
        · rw [← hq] at hc ⊢
          rw [World.cell?_setCell_same _ _ _ hv5] at hc
          rw [hv5]; exact hc
        · rw [World.cell?_setCell_other _ _ _ _ hq] at hc; exact hc)
      go_wp2
      go_ret
      exact ⟨_, _, _, rfl, HR.out, HB.out⟩

set_option maxHeartbeats 1000000 in
theorem rsecret_any (f : Few) (hf : FewOk f) (A1 A2 A3 : Option Addr) (n1 n2 n3 c1 c2 c3 : Nat) (seed sec : List UInt8) (ad : Ad) (i : Nat) (w : World) (h3 : Rd eB w A3 n3 seed) (hsl : seed.length = f.N) (had : ad.Ok) (hi : i ≤ 1000) (h1 : Rd eB w A1 n1 sec) (hxl : sec.length = f.N) :
    Calls Tryz.prog 41 #[vFew f, vSec A1 A2 A3 n1 n2 n3 c1 c2 c3, vAd ad, .int .i64 (i : Int)] w (RetOwn eB w (sSecret f.N seed sec ad.layer ad.tree ad.a i)) := by
  obtain ⟨layer, tree, kind, a, bb, cc⟩ := ad
  have H1 := Lib.hid h1
  have H3 := Lib.hid h3
  have HAD := Lib.hid had
  have HF := Lib.hid hf
  have hN := hf.N.le'
  have HSL := Lib.hid hsl
  have HXL := Lib.hid hxl
  clear h1 h3 had hf hsl hxl
  unfold vFew vAd vSec
  dsimp only
  have e1 : (i : Int) % 4294967296 = (i : Int) := by omega
  go_enter Tryz.func41, Tryz.ntmps41
  go_wp2_with fail
  generalize hW0 : World.alloc (World.alloc (World.alloc w _) _) _ = W0
  have hb0 : Below w.heap.size w W0 := by
    rw [← hW0]
    exact (((Below.refl _ w).alloc (Nat.le_refl _) _).alloc (by simp) _).alloc (by simp; omega) _
  have HC := Lib.hid (rtweak_any f.N A3 A1 n3 c3 n1 c1 seed sec ⟨layer, tree, 5, a, i, 0⟩ W0 HF.out.N (H3.out.below hb0) HSL.out (H1.out.below hb0) (by rw [HXL.out]; omega) ⟨HAD.out.layer, HAD.out.tree, by show (5 : Nat) < _; omega, HAD.out.a, by show i < _; omega, by show (0 : Nat) < _; omega⟩)
  unfold vAd at HC
  have HB := Lib.hid hb0
  clear hW0 hb0
  refine HC.out.mono ?_
  rintro e w1 ⟨A', n', c', rfl, h5, h6⟩
  have H5 := Lib.hid (h5.mono HB.out.size)
  have H6 := Lib.hid (HB.out.trans (h6.mono HB.out.size))
  clear h5 h6 HC
  go_wp2
  go_ret
  exact ⟨_, _, _, rfl, H5.out, H6.out⟩
end Go.Proofs.Sl
