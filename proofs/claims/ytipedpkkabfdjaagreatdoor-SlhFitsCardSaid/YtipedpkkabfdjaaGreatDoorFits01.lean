/- Words of this claim: a slice of a list's elements that is read (Rd), one that the call itself made (Own), and their laws, whatever the program. What the functions of the layers compute, as plain functions on lists of bytes and numbers: no program in sight. Bits of whole numbers, as the walk leaves them. append onto a slice of the call's own, whatever it reads from: the law of the run, and for the walk (plain and fenced). -/
import Derived.WalkKit
import Derived.Lib.Hide
import Derived.WalkLawsBesides
import Derived.WalkSpells
import Derived.Shelf.Abstract
import Derived.OwnWalkIn
import Derived.Deep.QuietTactic
import Derived.BigQuiet
import Derived.Deep.RegionHeld3
import Derived.Deep.DeepCutAuto
import Derived.KernelRfl
/- Words of this claim: a slice of a list's elements that is read (Rd), one that the call itself made (Own), and their laws, whatever the program. -/
namespace Go.Proofs.Sl
open Go.RowKit

abbrev eB (x : UInt8) : Value := .int .u8 (x.toNat : Int)
abbrev eI (x : Int) : Value := .int .i64 x
abbrev eW (x : UInt32) : Value := .int .u32 (x.toNat : Int)
abbrev eQ (x : UInt64) : Value := .int .u64 (x.toNat : Int)

/-- The slice at A, of n elements of one cell each, reads as the list l. -/
structure Rd {α : Type} (enc : α → Value) (w : World) (A : Option Addr) (n : Nat) (l : List α) : Prop where
  len : l.length = n
  big : n ≤ 140737488355328
  cell : ∀ j (h : j < l.length), ∃ ad, A = some ad ∧ w.cell? (ad.add j) = some (enc l[j])

/-- The slice at A with capacity c is the call's own (in a block from B on, not frozen), and its first n elements are l. -/
structure Own {α : Type} (enc : α → Value) (B : Nat) (w : World) (A : Option Addr) (n c : Nat) (l : List α) : Prop where
  len : l.length = n
  big : n ≤ 140737488355328
  nc : n ≤ c
  cm : c ≤ maxLen
  at_ : (A = none ∧ c = 0) ∨ ∃ g, A = some ⟨g, 0, none⟩ ∧ B ≤ g ∧ g < w.heap.size ∧ (∀ i, i < c → ∃ v, w.cell? ⟨g, i, none⟩ = some v) ∧ (∀ i, i < c → w.frozen? ⟨g, i, none⟩ = false) ∧
    ∀ j (h : j < l.length), w.cell? ⟨g, j, none⟩ = some (enc l[j])

/-- What a call hands back: a new slice of l; what was there is as it was. -/
def RetOwn {α : Type} (enc : α → Value) (w : World) (l : List α) (e : Ending) (w' : World) : Prop :=
  ∃ A n c, e = .returned (.slice A n c) ∧ Own enc w.heap.size w' A n c l ∧ Below w.heap.size w w'

/-- A call that hands back v and leaves what was there as it was. -/
def RetV (w : World) (v : Value) (e : Ending) (w' : World) : Prop := e = .returned v ∧ Below w.heap.size w w'

theorem below_drewN {B : Nat} {w W : World} (h : Below B w W) (n : Nat) : Below B w (W.drewN n) := ⟨h.os, h.tape, h.output, h.size, h.block⟩

theorem cell_old {w w' : World} (hb : Below w.heap.size w w') {a : Addr} {v : Value} (h : w.cell? a = some v) : w'.cell? a = some v :=
  (hb.cell (World.block_lt_of_cell? w a h)).trans h

theorem add_zero' (g j : Nat) : (⟨g, 0, none⟩ : Addr).add j = ⟨g, j, none⟩ := by unfold Addr.add; split <;> simp_all
theorem add_plain (g o j : Nat) : (⟨g, o, none⟩ : Addr).add j = ⟨g, o + j, none⟩ := by unfold Addr.add; split <;> simp_all
theorem add_add (a : Addr) (i j : Nat) : (a.add i).add j = a.add (i + j) := by
  unfold Addr.add
  by_cases hi : i = 0
  · subst hi; simp
  · by_cases hj : j = 0
    · subst hj; simp [hi]
    · simp [hi, hj, Nat.add_assoc]
theorem add_block (a : Addr) (i : Nat) : (a.add i).block = a.block := by unfold Addr.add; split <;> rfl

section
variable {α : Type} {enc : α → Value} {w w' : World} {A : Option Addr} {n c B : Nat} {l : List α}

theorem Rd.below (h : Rd enc w A n l) (hb : Below w.heap.size w w') : Rd enc w' A n l :=
  ⟨h.len, h.big, fun j hj => by
    obtain ⟨ad, e, hc⟩ := h.cell j hj
    exact ⟨ad, e, cell_old hb hc⟩⟩

theorem Rd.nil (w : World) (A : Option Addr) : Rd enc w A 0 ([] : List α) := ⟨rfl, by omega, fun j h => by simp at h⟩

theorem Rd.at (h : Rd enc w A n l) (j : Nat) (hj : j < n) : ∃ ad, A = some ad ∧ w.cell? (ad.add j) = some (enc (l[j]'(by rw [h.len]; exact hj))) :=
  h.cell j (by rw [h.len]; exact hj)

theorem Own.rd (h : Own enc B w A n c l) : Rd enc w A n l :=
  ⟨h.len, h.big, fun j hj => by
    rcases h.at_ with ⟨rfl, hc⟩ | ⟨g, rfl, _, _, _, _, hcell⟩
    · have := h.len; have := h.nc; omega
    · exact ⟨_, rfl, by rw [add_zero']; exact hcell j hj⟩⟩

theorem Own.mono {B' : Nat} (h : Own enc B w A n c l) (hB : B' ≤ B) : Own enc B' w A n c l :=
  ⟨h.len, h.big, h.nc, h.cm, by
    rcases h.at_ with h | ⟨g, h1, h2, h3⟩
    · exact .inl h
    · exact .inr ⟨g, h1, Nat.le_trans hB h2, h3⟩⟩

/-- Kept where its own block reads as before. -/
theorem Own.same (h : Own enc B w A n c l) (hs : w.heap.size ≤ w'.heap.size) (hb : ∀ g, A = some ⟨g, 0, none⟩ → w'.heap[g]? = w.heap[g]?) : Own enc B w' A n c l :=
  ⟨h.len, h.big, h.nc, h.cm, by
    rcases h.at_ with h | ⟨g, h1, h2, h3, h4, h5, h6⟩
    · exact .inl h
    · have hg := hb g h1
      refine .inr ⟨g, h1, h2, by omega, fun i hi => ?_, fun i hi => ?_, fun j hj => ?_⟩
      · obtain ⟨v, hv⟩ := h4 i hi
        exact ⟨v, (World.cell?_of_block (w := w) (a := ⟨g, i, none⟩) hg).trans hv⟩
      · exact (World.frozen?_of_block (w := w) (a := ⟨g, i, none⟩) hg).trans (h5 i hi)
      · exact (World.cell?_of_block (w := w) (a := ⟨g, j, none⟩) hg).trans (h6 j hj)⟩

theorem Own.lt (h : Own enc B w A n c l) : ∀ g, A = some ⟨g, 0, none⟩ → 0 < c → B ≤ g ∧ g < w.heap.size := by
  intro g hg hc
  rcases h.at_ with ⟨rfl, h0⟩ | ⟨g', h1, h2, h3, _⟩
  · omega
  · rw [h1] at hg
    cases hg
    exact ⟨h2, h3⟩

theorem Own.below (h : Own enc B w A n c l) (hb : Below w.heap.size w w') : Own enc B w' A n c l := by
  rcases h.at_ with h0 | ⟨g, h1, h2, h3, h4⟩
  · exact ⟨h.len, h.big, h.nc, h.cm, .inl h0⟩
  · exact h.same hb.size fun g' hg' => by rw [h1] at hg'; cases hg'; exact hb.block g h3

theorem Own.nil (B : Nat) (w : World) : Own enc B w none 0 0 ([] : List α) := ⟨rfl, by omega, by omega, by simp only [maxLen]; omega, .inl ⟨rfl, rfl⟩⟩

end
end Go.Proofs.Sl

/- What the functions of the layers compute, as plain functions on lists of bytes and numbers: no program in sight. -/
namespace Go.Proofs.Sl

/-- A number of 64 bits (behind a name: the walk doesn't bear the numeral). -/
def W64 (v : Nat) : Prop := v < 18446744073709551616

/-- n bytes of a number, the highest first. -/
def putBE (v : Nat) : Nat → List UInt8
  | 0 => []
  | n + 1 => UInt8.ofNat (v / 256 ^ n % 256) :: putBE v n

/-- The number that bytes are. -/
def getBE (l : List UInt8) : Nat := l.foldl (fun v c => v * 256 + c.toNat) 0

/-- An address: a layer, a tree, a kind, and three numbers. -/
structure Ad where
  layer : Nat
  tree : Nat
  kind : Nat
  a : Nat
  b : Nat
  c : Nat

/-- Its words have 32 bits, the tree's number 64. -/
structure Ad.Ok (x : Ad) : Prop where
  layer : x.layer < 4294967296
  tree : W64 x.tree
  kind : x.kind < 4294967296
  a : x.a < 4294967296
  b : x.b < 4294967296
  c : x.c < 4294967296

/-- An address as 32 bytes. -/
def plainL (x : Ad) : List UInt8 := putBE x.layer 4 ++ putBE 0 4 ++ putBE x.tree 8 ++ (putBE x.kind 4 ++ putBE x.a 4 ++ putBE x.b 4 ++ putBE x.c 4)

/-! ### Keccak -/
def lane (s : List UInt64) (i : Nat) : UInt64 := s.getD i 0
def rotl (w : UInt64) (n : Nat) : UInt64 := (w <<< UInt64.ofNat n) ||| (w >>> UInt64.ofNat (64 - n))
def colC (s : List UInt64) (x : Nat) : UInt64 := lane s x ^^^ lane s (x + 5) ^^^ lane s (x + 10) ^^^ lane s (x + 15) ^^^ lane s (x + 20)
def thetaL (s : List UInt64) : List UInt64 := (List.range 25).map fun i => lane s i ^^^ (colC s ((i + 4) % 5) ^^^ rotl (colC s ((i + 1) % 5)) 1)
def turnsL : List Nat := [0, 1, 62, 28, 27, 36, 44, 6, 55, 20, 3, 10, 43, 25, 39, 41, 45, 15, 21, 8, 18, 2, 61, 56, 14]
def rcL : List Nat := [1, 32898, 9223372036854808714, 9223372039002292224, 32907, 2147483649, 9223372039002292353, 9223372036854808585, 138, 136, 2147516425, 2147483658, 2147516555, 9223372036854775947, 9223372036854808713, 9223372036854808579, 9223372036854808578, 9223372036854775936, 32778, 9223372039002259466, 9223372039002292353, 9223372036854808704, 2147483649, 9223372039002292232]

def notL (w : UInt64) : UInt64 := w ^^^ 18446744073709551615
def rhoPi (s : List UInt64) : List UInt64 := (List.range 25).map fun k => let x := k % 5; let y := k / 5; let i := (x + 3 * y) % 5 + 5 * x; rotl (lane s i) (turnsL.getD i 0)
def chiL (b : List UInt64) : List UInt64 := (List.range 25).map fun k => let x := k % 5; let y := k / 5; lane b k ^^^ (notL (lane b ((x + 1) % 5 + 5 * y)) &&& lane b ((x + 2) % 5 + 5 * y))
def roundL (s : List UInt64) (rc : Nat) : List UInt64 := let t := chiL (rhoPi (thetaL s)); t.set 0 (lane t 0 ^^^ UInt64.ofNat rc)
def permL (s : List UInt64) : List UInt64 := (List.range 24).foldl (fun s i => roundL s (rcL.getD i 0)) s

/-! ### SHAKE256 -/
def le64 (b : List UInt8) : UInt64 := b.foldr (fun c v => v * 256 + c.toUInt64) 0
def xorB (s : List UInt64) (blk : List UInt8) : List UInt64 := (List.range 25).map fun i => if i < 17 then lane s i ^^^ le64 ((blk.drop (8 * i)).take 8) else lane s i
def giveL (s : List UInt64) : List UInt8 := (List.range 136).map fun i => (lane s (i / 8) >>> UInt64.ofNat (8 * (i % 8))).toUInt8
def zerosL (l : List UInt8) : Nat := (136 - (l.length + 1) % 136) % 136
def padL (l : List UInt8) : List UInt8 := let t := l ++ [31] ++ List.replicate (zerosL l) 0; t.set (t.length - 1) (t.getD (t.length - 1) 0 ^^^ 128)
def absorbL (t : List UInt8) : Nat → List UInt64
  | 0 => List.replicate 25 0
  | k + 1 => permL (xorB (absorbL t k) ((t.drop (136 * k)).take 136))
/-- The first bytes (136 at the most) of what a text gives. -/
def shakeL (l : List UInt8) (n : Nat) : List UInt8 := (giveL (absorbL (padL l) ((padL l).length / 136))).take n

theorem giveL_length (s : List UInt64) : (giveL s).length = 136 := by simp [giveL]
theorem shakeL_length (l : List UInt8) (n : Nat) (h : n ≤ 136) : (shakeL l n).length = n := by simp [shakeL, giveL_length]; omega

/-- A sum without masks. -/
def tweakL (n : Nat) (seed : List UInt8) (x : Ad) (text : List UInt8) : List UInt8 := shakeL (seed ++ plainL x ++ text) n
theorem tweakL_length (n : Nat) (seed : List UInt8) (x : Ad) (text : List UInt8) (h : n ≤ 136) : (tweakL n seed x text).length = n := shakeL_length _ _ h

end Go.Proofs.Sl

/- Bits of whole numbers, as the walk leaves them. -/
namespace Go.Proofs.Sl
open Go Go.RowKit

theorem wraps_u32 (n : Int) (h₀ : 0 ≤ n) (h₁ : n < 2 ^ 32) : IntKind.u32.wrap n = n := by rw [IntKind.wrap_u32]; omega
theorem wrap_u64x (n : Int) : IntKind.u64.wrap n = n % 2 ^ 64 := by simp [IntKind.wrap, IntKind.bits, IntKind.signed]
theorem wraps_u64 (n : Int) (h₀ : 0 ≤ n) (h₁ : n < 2 ^ 64) : IntKind.u64.wrap n = n := by rw [wrap_u64x]; omega
theorem and1_u8 (x : Nat) (h : x < 256) : bits .and .u8 (x : Int) 1 = ((x % 2 : Nat) : Int) := by
  have := bits_mask .u8 8 (by decide) wraps_u8 1 (by decide) (x : Int) (by omega) (by omega)
  simpa using this
theorem and1_u32 (x : Nat) (h : x < 4294967296) : bits .and .u32 (x : Int) 1 = ((x % 2 : Nat) : Int) := by
  have := bits_mask .u32 32 (by decide) wraps_u32 1 (by decide) (x : Int) (by omega) (by omega)
  simpa using this
theorem or_u32 (a b i : Nat) (hb : b < 2 ^ i) (h : a * 2 ^ i + b < 4294967296) : bits .or .u32 ((a * 2 ^ i : Nat) : Int) (b : Int) = ((a * 2 ^ i + b : Nat) : Int) := by
  have h1 : a * 2 ^ i < 4294967296 := by omega
  have h2 : b < 4294967296 := by omega
  rw [(bits_nat .u32 32 (by decide) wraps_u32 (a * 2 ^ i) b (by omega) (by omega)).2]
  congr 1
  rw [Nat.mul_comm, ← Nat.two_pow_add_eq_or_of_lt hb a]
theorem xor1 (x : Nat) : x ^^^ 1 = if x % 2 = 1 then x - 1 else x + 1 := by
  have h := Nat.div_add_mod x 2
  have hm : x % 2 < 2 := Nat.mod_lt _ (by omega)
  have h1 : (x ^^^ 1) / 2 = x / 2 := by
    have := Nat.xor_div_two_pow (a := x) (b := 1) (n := 1)
    simpa using this
  have h2 : (x ^^^ 1) % 2 = (x % 2) ^^^ 1 := by
    exact Nat.xor_mod_two_pow (a := x) (b := 1) (n := 1)
  have h3 := Nat.div_add_mod (x ^^^ 1) 2
  rcases Nat.lt_or_ge (x % 2) 1 with h0 | h0
  · have : x % 2 = 0 := by omega
    have h4 : (x ^^^ 1) % 2 = 1 := by rw [h2, this]; rfl
    rw [if_neg (by omega)]
    omega
  · have : x % 2 = 1 := by omega
    have h4 : (x ^^^ 1) % 2 = 0 := by rw [h2, this]; rfl
    rw [if_pos this]
    omega
theorem xor_u32 (a b : Nat) (ha : a < 4294967296) (hb : b < 4294967296) : bits .xor .u32 (a : Int) (b : Int) = ((a ^^^ b : Nat) : Int) := by
  have hx : a ^^^ b < 2 ^ 32 := Nat.xor_lt_two_pow (by omega) (by omega)
  have h1 : (BitVec.ofInt 32 (a : Int)).toNat = a := by
    rw [BitVec.ofInt_natCast, BitVec.toNat_ofNat]; exact Nat.mod_eq_of_lt (by omega)
  have h2 : (BitVec.ofInt 32 (b : Int)).toNat = b := by
    rw [BitVec.ofInt_natCast, BitVec.toNat_ofNat]; exact Nat.mod_eq_of_lt (by omega)
  show IntKind.u32.wrap ((BitVec.ofInt 32 (a : Int) ^^^ BitVec.ofInt 32 (b : Int)).toNat : Int) = _
  rw [BitVec.toNat_xor, h1, h2, IntKind.wrap_u32]
  omega
theorem pow_cast (x k : Nat) : (x : Int) / 2 ^ k = ((x / 2 ^ k : Nat) : Int) := by
  rw [Int.natCast_ediv, Int.natCast_pow]; rfl
theorem mask_u64 (x k : Nat) (h : x < 2 ^ 64) (hk : k ≤ 64) : bits .and .u64 (x : Int) (2 ^ k - 1) = ((x % 2 ^ k : Nat) : Int) := by
  have := bits_mask .u64 64 (by decide) wraps_u64 k hk (x : Int) (by omega) (by exact_mod_cast h)
  rw [this]
  push_cast
  rfl
end Go.Proofs.Sl

/- append onto a slice of the call's own, whatever it reads from: the law of the run, and for the walk (plain and fenced). -/
namespace Go.Proofs.Sl
open Go.RowKit

/-- vs have been stored in block g from o on; nothing else has turned. -/
structure Splice (w w' : World) (g o : Nat) (vs : List Value) : Prop where
  os : w'.os = w.os
  tape : w'.tape = w.tape
  output : w'.output = w.output
  size : w'.heap.size = w.heap.size
  block : ∀ k, k ≠ g → w'.heap[k]? = w.heap[k]?
  frozen : ∀ x, w'.frozen? ⟨g, x, none⟩ = w.frozen? ⟨g, x, none⟩
  inside : ∀ x (_ : o ≤ x) (h : x - o < vs.length), w'.cell? ⟨g, x, none⟩ = some vs[x - o]
  outside : ∀ x, x < o ∨ o + vs.length ≤ x → w'.cell? ⟨g, x, none⟩ = w.cell? ⟨g, x, none⟩

theorem cell_set_ne (w : World) (g x y : Nat) (v : Value) (h : x ≠ y) : (w.setCell ⟨g, x, none⟩ v).cell? ⟨g, y, none⟩ = w.cell? ⟨g, y, none⟩ := by
  simp only [World.cell?, World.setCell, Array.getElem?_modify, if_true]
  cases hg : w.heap[g]? with
  | none => rfl
  | some o => cases o <;> simp [Array.getElem?_setIfInBounds_ne, h]

theorem cell_set_eq (w : World) (g x : Nat) (v u : Value) (h : w.cell? ⟨g, x, none⟩ = some u) : (w.setCell ⟨g, x, none⟩ v).cell? ⟨g, x, none⟩ = some v := by
  simp only [World.cell?, World.setCell, Array.getElem?_modify, if_true] at *
  cases hg : w.heap[g]? with
  | none => simp [hg] at h
  | some o =>
    cases o <;> simp [hg] at h ⊢
    rename_i c _ _
    have hx : x < c.size := (Array.getElem?_eq_some_iff.1 h).1
    simp [hx]

theorem frozen_set (w : World) (a : Addr) (v : Value) (b : Addr) : (w.setCell a v).frozen? b = w.frozen? b := World.frozen?_setCell ..

theorem block_set (w : World) (a : Addr) (v : Value) (k : Nat) (h : k ≠ a.block) : (w.setCell a v).heap[k]? = w.heap[k]? := Below.heap_setCell w a v k h

theorem cell_new (W : World) (cs : Array Value) (e : TypeId) (j : Nat) : (W.alloc (.cells cs e)).cell? ⟨W.heap.size, j, none⟩ = cs[j]? := by
  have h := heap_alloc_new W (.cells cs e)
  unfold World.cell?
  dsimp only
  rw [h]
  rfl

theorem cell_newAt {W : World} {cs : Array Value} {e : TypeId} {B j : Nat} {v : Value} (h : B = W.heap.size) (hv : cs[j]? = some v) : (W.alloc (.cells cs e)).cell? ⟨B, j, none⟩ = some v := by
  subst h
  rw [cell_new]
  exact hv

theorem frozen_new (W : World) (cs : Array Value) (e : TypeId) (j : Nat) : (W.alloc (.cells cs e)).frozen? ⟨W.heap.size, j, none⟩ = false := by
  have h := heap_alloc_new W (.cells cs e)
  unfold World.frozen?
  dsimp only
  rw [h]
  simp

variable {P : Program}

theorem run_store_one (w : World) (g x : Nat) (v u : Value) (h1 : v.oneCell' = true) (hc : w.cell? ⟨g, x, none⟩ = some u) (hf : w.frozen? ⟨g, x, none⟩ = false) :
    (store ⟨g, x, none⟩ v).run P w = .ok () (w.setCell ⟨g, x, none⟩ v) := by
  rw [run_store P w _ v _ h1, hc]
  simp [hf]

theorem run_storeCells_gen (g o : Nat) : ∀ (vs : List Value) (i : Nat) (w : World), (∀ k, k < vs.length → ∃ v, w.cell? ⟨g, o + i + k, none⟩ = some v) →
    (∀ k, k < vs.length → w.frozen? ⟨g, o + i + k, none⟩ = false) → (∀ v ∈ vs, v.oneCell' = true) → ∃ w', (storeCells ⟨g, o, none⟩ vs i).run P w = .ok () w' ∧ Splice w w' g (o + i) vs
  | [], i, w, _, _, _ => ⟨w, rfl, rfl, rfl, rfl, rfl, fun _ _ => rfl, fun _ => rfl, fun x _ h => by simp at h, fun _ _ => rfl⟩
  | v :: rest, i, w, hc, hf, h1 => by
    obtain ⟨u, hu⟩ := hc 0 (by simp)
    have hf0 := hf 0 (by simp)
    simp only [Nat.add_zero] at hu hf0
    have hst := run_store_one (P := P) w g (o + i) v u (h1 v (by simp)) hu hf0
    obtain ⟨w', hr, hs⟩ := run_storeCells_gen g o rest (i + 1) (w.setCell ⟨g, o + i, none⟩ v)
      (fun k hk => by
        obtain ⟨x, hx⟩ := hc (k + 1) (by simp; omega)
        exact ⟨x, by rw [cell_set_ne _ _ _ _ _ (by omega)]; rw [← hx]; congr 2; omega⟩)
      (fun k hk => by
        have := hf (k + 1) (by simp; omega)
        rw [frozen_set]; rw [← this]; congr 2; omega)
      (fun x hx => h1 x (by simp [hx]))
    refine ⟨w', ?_, ?_⟩
    · rw [storeCells]
      simp only [Sem.run_bind, add_plain, hst, Result.andThen_ok]
      exact hr
    · refine ⟨hs.os, hs.tape, hs.output, by rw [hs.size]; simp [World.setCell], fun k hk => (hs.block k hk).trans (block_set _ _ _ _ hk), fun x => (hs.frozen x).trans (frozen_set ..), ?_, ?_⟩
      · intro x hx hl
        by_cases e : x = o + i
        · subst e
          rw [hs.outside _ (by omega), cell_set_eq _ _ _ _ _ hu]
          simp
        · rw [hs.inside x (by omega) (by simp at hl; omega)]
          congr 1
          have : x - (o + i) = (x - (o + (i + 1))) + 1 := by omega
          simp only [this, List.getElem_cons_succ]
      · intro x hx
        rw [hs.outside x (by simp at hx; omega), cell_set_ne _ _ _ _ _ (by simp at hx; omega)]

section
variable {α : Type} {enc : α → Value} {w : World} {A A2 : Option Addr} {n m c c2 B : Nat} {l l2 : List α}

theorem Rd.news (h : Rd enc w A n l) {ad : Addr} (hA : A = some ad) : ∀ j v, (l.map enc)[j]? = some v → w.cell? (ad.add j) = some v := by
  intro j v hv
  have hj : j < l.length := by have := (List.getElem?_eq_some_iff.1 hv).1; simpa using this
  obtain ⟨ad', e, hc⟩ := h.cell j hj
  rw [hA] at e
  cases e
  rw [hc]
  simp [hj] at hv
  rw [hv]

theorem size_zeros (z : Value) (k : Nat) (h : z.cells.size = 1) : (Builtin.zeroCells z.cells k).size = k := by rw [size_zeroCells, h, Nat.mul_one]

theorem run_append_sl2 (t ty e : TypeId) (z : Value) (bytes : Nat) (ht : P.underlying t = some (.slice e)) (hinfo : (P.info? e).map (fun i => (i.zero, i.size, i.bytes)) = some (some z, 1, bytes)) (hzs : z.cells.size = 1)
    (ho : Own enc B w A n c l) (hr : Rd enc w A2 m l2) (henc : ∀ x, (enc x).oneCell' = true) (hby : (n + m) * bytes ≤ 140737488355328) (hnm : n + m ≤ 140737488355328) (hB : B ≤ w.heap.size) :
    ∃ A' c' w', (Builtin.append_ #[t, t] ty #[.slice A n c, .slice A2 m c2]).run P w = .ok (.slice A' (n + m) c') w' ∧ Own enc B w' A' (n + m) c' (l ++ l2) ∧ w.grownBy w' (A.map (·.block)) ∧ (A' = A ∨ ∃ g, A' = some ⟨g, 0, none⟩ ∧ w.heap.size ≤ g) := by
  obtain ⟨i, hi, hzz⟩ := Option.map_eq_some_iff.1 hinfo
  simp only [Prod.mk.injEq] at hzz
  obtain ⟨hz, hsz, hbyt⟩ := hzz
  have hl2 : (l2.map enc).length = m * i.size := by rw [List.length_map, hr.len, hsz, Nat.mul_one]
  by_cases hroom : n + m ≤ c
  · -- there is room
    have hnews : (Builtin.firstCells 1 m (.slice A2 m c2)).run P w = .ok (l2.map enc).toArray w := by
      cases A2 with
      | none =>
        have : l2 = [] := by
          cases l2 with
          | nil => rfl
          | cons x r => obtain ⟨ad, e, _⟩ := hr.cell 0 (by simp); cases e
        subst this
        rw [run_firstCells_none]; rfl
      | some ad =>
        have := run_firstCells_some (P := P) w 1 m ad m c2 (l2.map enc) (by rw [hl2, hsz]) (hr.news rfl)
        exact this
    rcases ho.at_ with ⟨rfl, hc0⟩ | ⟨g, rfl, hg1, hg2, hg3, hg4, hg5⟩
    · have hm0 : m = 0 := by omega
      have hn0 : n = 0 := by omega
      subst hm0 hn0
      have hl0 : l = [] := List.eq_nil_of_length_eq_zero ho.len
      have hl20 : l2 = [] := List.eq_nil_of_length_eq_zero hr.len
      subst hl0 hl20
      refine ⟨none, c, w, ?_, ho, ⟨rfl, rfl, rfl, Nat.le_refl _, fun _ _ _ => rfl⟩, .inl rfl⟩
      simp [Builtin.append_, run_underlying ht, sizeOf, typeInfo, hi, hsz, Builtin.lenOf, hnews]
    · obtain ⟨w', hrun, hs⟩ := run_storeCells_gen (P := P) g n (l2.map enc) 0 w (fun k hk => hg3 _ (by rw [List.length_map, hr.len] at hk; omega)) (fun k hk => hg4 _ (by rw [List.length_map, hr.len] at hk; omega))
        (fun v hv => by obtain ⟨x, _, rfl⟩ := List.mem_map.1 hv; exact henc x)
      have hln := ho.len
      have hln2 := hr.len
      refine ⟨some ⟨g, 0, none⟩, c, w', ?_, ⟨by rw [List.length_append, ho.len, hr.len], hnm, hroom, ho.cm, .inr ⟨g, rfl, hg1, by rw [hs.size]; exact hg2, ?_, ?_, ?_⟩⟩, ⟨hs.os, hs.tape, hs.output, Nat.le_of_eq hs.size.symm, fun k _ hk => hs.block k (by simpa using hk)⟩, .inl rfl⟩
      · simp [Builtin.append_, run_underlying ht, sizeOf, typeInfo, hi, hsz, Builtin.lenOf, hroom, hnews, add_zero', hrun]
      · intro x hx
        by_cases h : n ≤ x ∧ x - n < (l2.map enc).length
        · exact ⟨_, hs.inside x (by omega) (by simpa using h.2)⟩
        · rw [hs.outside x (by simp at h ⊢; omega)]
          exact hg3 x hx
      · intro x hx
        rw [hs.frozen]
        exact hg4 x hx
      · intro j hj
        by_cases h : j < l.length
        · rw [hs.outside j (by omega), List.getElem_append_left h]
          exact hg5 j h
        · have hj' : j - n < (l2.map enc).length := by rw [List.length_append] at hj; rw [List.length_map]; omega
          rw [hs.inside j (by omega) (by simpa using hj')]
          rw [List.getElem_append_right (by omega)]
          simp [hln]
  · -- a new array
    have hmpos : 0 < m := by have := ho.nc; omega
    obtain ⟨ad, hA2, _⟩ := hr.cell 0 (by rw [hr.len]; exact hmpos)
    have hln := ho.len
    have hln2 := hr.len
    have fits : ∀ old, old < n + m → Builtin.nextslicecap (n + m) old * i.bytes ≤ 281474976710656 := fun old h => growslice_fits h (by rw [hbyt]; exact hby)
    have hrun : ∃ old cap, cap = grownCap w (n + m) old e ∧ (Builtin.append_ #[t, t] ty #[.slice A n c, .slice A2 m c2]).run P w =
        .ok (.slice (some ⟨w.heap.size, 0, none⟩) (n + m) cap) (w.drew.alloc (.cells ((l.map enc).toArray ++ (l2.map enc).toArray ++ Builtin.zeroCells z.cells (cap - (n + m))) e)) := by
      rcases ho.at_ with ⟨rfl, hc0⟩ | ⟨g, rfl, hg1, hg2, hg3, hg4, hg5⟩
      · have hn0 : n = 0 := by have := ho.nc; omega
        subst hn0 hc0
        have hl0 : l = [] := List.eq_nil_of_length_eq_zero ho.len
        subst hl0
        have hby' : m * bytes ≤ 140737488355328 := by rw [Nat.zero_add] at hby; exact hby
        refine ⟨0, _, rfl, ?_⟩
        have := run_append_nil (P := P) w t ty e i z ht hi hz ad m c2 (l2.map enc) hl2 (hr.news hA2) hmpos (by omega) (by rw [hbyt]; omega)
        rw [hA2]
        simp only [Nat.zero_add, List.map_nil]
        rw [this]
        simp
      · refine ⟨c, _, rfl, ?_⟩
        have hlo : (l.map enc).length = n * i.size := by rw [List.length_map, hln, hsz, Nat.mul_one]
        have holds := (Own.rd ⟨ho.len, ho.big, ho.nc, ho.cm, .inr ⟨g, rfl, hg1, hg2, hg3, hg4, hg5⟩⟩ : Rd enc w (some ⟨g, 0, none⟩) n l).news rfl
        rw [hA2]
        exact run_append_grow (P := P) w t ty e i z ht hi hz ⟨g, 0, none⟩ n c (l.map enc) hlo holds ad m c2 (l2.map enc) hl2 (hr.news hA2) (by omega) (by omega) (fits c (by omega))
    obtain ⟨old, cap, hcap, hrun⟩ := hrun
    have hge : n + m ≤ cap := by rw [hcap]; exact grownCap_ge w (n + m) old e
    have hcm : cap ≤ maxLen := by rw [hcap]; exact grownCap_le_maxLen w (n + m) old e (by simp only [maxLen]; omega)
    have hsize : ((l.map enc).toArray ++ (l2.map enc).toArray ++ Builtin.zeroCells z.cells (cap - (n + m))).size = cap := by
      simp only [Array.size_append, List.size_toArray, List.length_map, size_zeros z _ hzs, hln, hln2]
      omega
    have hcell : ∀ j, (w.drew.alloc (.cells ((l.map enc).toArray ++ (l2.map enc).toArray ++ Builtin.zeroCells z.cells (cap - (n + m))) e)).cell? ⟨w.heap.size, j, none⟩ =
        ((l.map enc).toArray ++ (l2.map enc).toArray ++ Builtin.zeroCells z.cells (cap - (n + m)))[j]? := by
      exact fun j => cell_new w.drew _ e j
    refine ⟨_, cap, _, hrun, ⟨by rw [List.length_append, hln, hln2], hnm, hge, hcm, .inr ⟨w.heap.size, rfl, hB, by simp, ?_, ?_, ?_⟩⟩, ⟨rfl, rfl, rfl, by simp, fun k hk _ => heap_alloc_old w.drew _ hk⟩, .inr ⟨_, rfl, Nat.le_refl _⟩⟩
    · intro x hx
      rw [hcell]
      exact ⟨_, Array.getElem?_eq_getElem (by rw [hsize]; exact hx)⟩
    · intro x _
      exact frozen_new w.drew _ e x
    · intro j hj
      rw [hcell, Array.getElem?_append_left (by simpa using hj)]
      simp only [List.append_toArray, List.getElem?_toArray, ← List.map_append, List.getElem?_map, List.getElem?_eq_getElem hj, Option.map_some]

theorem run_append_sl (t ty e : TypeId) (z : Value) (bytes : Nat) (ht : P.underlying t = some (.slice e)) (hinfo : (P.info? e).map (fun i => (i.zero, i.size, i.bytes)) = some (some z, 1, bytes)) (hzs : z.cells.size = 1)
    (ho : Own enc B w A n c l) (hr : Rd enc w A2 m l2) (henc : ∀ x, (enc x).oneCell' = true) (hby : (n + m) * bytes ≤ 140737488355328) (hnm : n + m ≤ 140737488355328) (hB : B ≤ w.heap.size) :
    ∃ A' c' w', (Builtin.append_ #[t, t] ty #[.slice A n c, .slice A2 m c2]).run P w = .ok (.slice A' (n + m) c') w' ∧ Own enc B w' A' (n + m) c' (l ++ l2) ∧ w.grownBy w' (A.map (·.block)) := by
  obtain ⟨A', c', w', h1, h2, h3, _⟩ := run_append_sl2 (P := P) (c2 := c2) t ty e z bytes ht hinfo hzs ho hr henc hby hnm hB
  exact ⟨A', c', w', h1, h2, h3⟩

theorem below_of_grown (h : Own enc B w A n c l) (hB : B ≤ w.heap.size) {w' : World} (hg : w.grownBy w' (A.map (·.block))) : Below B w w' :=
  (Below.refl B w).grown hg hB fun k hk => by
    rcases h.at_ with ⟨rfl, _⟩ | ⟨g, rfl, h1, _⟩
    · simp at hk
    · simp at hk; omega

/-- Another row of the call's own lives on. -/
theorem Own.other {β : Type} {enc' : β → Value} {B' n' c' : Nat} {A' : Option Addr} {l' : List β} {w' : World} (h : Own enc' B' w A' n' c' l') {row : Option Nat} (hg : w.grownBy w' row) (hne : ∀ g, A' = some ⟨g, 0, none⟩ → row ≠ some g) : Own enc' B' w' A' n' c' l' := by
  rcases h.at_ with h0 | ⟨g, h1, h2, h3, h4⟩
  · exact ⟨h.len, h.big, h.nc, h.cm, .inl h0⟩
  · exact h.same hg.size fun g' hg' => by rw [h1] at hg'; cases hg'; exact hg.block g h3 (fun e => hne g h1 e.symm)

section walk
variable {ops : Array Oper} {o : Oper} {a : Act} {Q : Exit → Act → World → Prop} {rest : List Oper}

theorem wp_append_sl {K : Act → World → Prop} (s x : Operand) (t e : TypeId) (z : Value) (bytes : Nat)
    (hop : o.op = .call { callee := .builtin .append, args := #[s, x], argTypes := #[t, t] }) (ht : P.underlying t = some (.slice e)) (hinfo : (P.info? e).map (fun i => (i.zero, i.size, i.bytes)) = some (some z, 1, bytes)) (hzs : z.cells.size = 1)
    (henc : ∀ x, (enc x).oneCell' = true) (hs : a.eval s = .slice A n c) (hx : a.eval x = .slice A2 m c2) (ho : Own enc B w A n c l) (hr : Rd enc w A2 m l2) (hby : (n + m) * bytes ≤ 140737488355328) (hnm : n + m ≤ 140737488355328) (hB : B ≤ w.heap.size)
    (h : ∀ A' c' w', Own enc B w' A' (n + m) c' (l ++ l2) → w.grownBy w' (A.map (·.block)) → Below B w w' → K (a.put o.dst (.slice A' (n + m) c')) w') : o.wp P a w K Q := by
  obtain ⟨A', c', w', hrun, h1, h2⟩ := run_append_sl (P := P) (c2 := c2) t o.type e z bytes ht hinfo hzs ho hr henc hby hnm hB
  unfold Oper.wp execOp
  simp only [hop, resolve, invoke, builtin, Sem.run_bind, Sem.run_pure, Result.andThen_ok, List.map_toArray, List.map_cons, List.map_nil, hs, hx, hrun]
  exact h A' c' w' h1 h2 (below_of_grown ho hB h2)

theorem wpList_append_sl (hgd : o.guard = none) (s x : Operand) (t e : TypeId) (z : Value) (bytes : Nat)
    (hop : o.op = .call { callee := .builtin .append, args := #[s, x], argTypes := #[t, t] }) (ht : P.underlying t = some (.slice e)) (hinfo : (P.info? e).map (fun i => (i.zero, i.size, i.bytes)) = some (some z, 1, bytes)) (hzs : z.cells.size = 1)
    (henc : ∀ x, (enc x).oneCell' = true) (hs : a.eval s = .slice A n c) (hx : a.eval x = .slice A2 m c2) (ho : Own enc B w A n c l) (hr : Rd enc w A2 m l2) (hby : (n + m) * bytes ≤ 140737488355328) (hnm : n + m ≤ 140737488355328) (hB : B ≤ w.heap.size)
    (h : ∀ A' c' w', Own enc B w' A' (n + m) c' (l ++ l2) → w.grownBy w' (A.map (·.block)) → Below B w w' → wpList P ops Q rest (a.put o.dst (.slice A' (n + m) c')) w') : wpList P ops Q (o :: rest) a w :=
  wpList_plain hgd fun _ hK => wp_append_sl s x t e z bytes hop ht hinfo hzs henc hs hx ho hr hby hnm hB fun A' c' w' h1 h2 h3 => hK _ _ (h A' c' w' h1 h2 h3)

theorem wpList_append_sl2 (hgd : o.guard = none) (s x : Operand) (t e : TypeId) (z : Value) (bytes : Nat)
    (hop : o.op = .call { callee := .builtin .append, args := #[s, x], argTypes := #[t, t] }) (ht : P.underlying t = some (.slice e)) (hinfo : (P.info? e).map (fun i => (i.zero, i.size, i.bytes)) = some (some z, 1, bytes)) (hzs : z.cells.size = 1)
    (henc : ∀ x, (enc x).oneCell' = true) (hs : a.eval s = .slice A n c) (hx : a.eval x = .slice A2 m c2) (ho : Own enc B w A n c l) (hr : Rd enc w A2 m l2) (hby : (n + m) * bytes ≤ 140737488355328) (hnm : n + m ≤ 140737488355328) (hB : B ≤ w.heap.size)
    (h : ∀ A' c' w', Own enc B w' A' (n + m) c' (l ++ l2) → w.grownBy w' (A.map (·.block)) → Below B w w' → (A' = A ∨ ∃ g, A' = some ⟨g, 0, none⟩ ∧ w.heap.size ≤ g) → wpList P ops Q rest (a.put o.dst (.slice A' (n + m) c')) w') : wpList P ops Q (o :: rest) a w :=
  wpList_plain hgd fun _ hK => by
    obtain ⟨A', c', w', hrun, h1, h2, h3⟩ := run_append_sl2 (P := P) (c2 := c2) t o.type e z bytes ht hinfo hzs ho hr henc hby hnm hB
    unfold Oper.wp execOp
    simp only [hop, resolve, invoke, builtin, Sem.run_bind, Sem.run_pure, Result.andThen_ok, List.map_toArray, List.map_cons, List.map_nil, hs, hx, hrun]
    exact hK _ _ (h A' c' w' h1 h2 (below_of_grown ho hB h2) h3)

theorem step_append_sl {K : Act → World → Prop} {E : Prop} (hgd : o.guard = none) (s x : Operand) (t e : TypeId) (z : Value) (bytes : Nat)
    (hop : o.op = .call { callee := .builtin .append, args := #[s, x], argTypes := #[t, t] }) (ht : P.underlying t = some (.slice e)) (hinfo : (P.info? e).map (fun i => (i.zero, i.size, i.bytes)) = some (some z, 1, bytes)) (hzs : z.cells.size = 1)
    (henc : ∀ x, (enc x).oneCell' = true) (hs : a.eval s = .slice A n c) (hx : a.eval x = .slice A2 m c2) (ho : Own enc B w A n c l) (hr : Rd enc w A2 m l2) (hby : (n + m) * bytes ≤ 140737488355328) (hnm : n + m ≤ 140737488355328) (hB : B ≤ w.heap.size)
    (h : ∀ A' c' w', Own enc B w' A' (n + m) c' (l ++ l2) → w.grownBy w' (A.map (·.block)) → Below B w w' → K (a.put o.dst (.slice A' (n + m) c')) w') :
    if Region.wanted o (yielded ops a.tmps) = true then Oper.wp P o a w K Q else E := by
  rw [if_pos (by simp [Region.wanted, hgd])]
  exact wp_append_sl s x t e z bytes hop ht hinfo hzs henc hs hx ho hr hby hnm hB h

theorem wpIn_append_sl {F : Fence} {k : Nat} {K : Act → World → Prop} (s x : Operand) (t e : TypeId) (z : Value) (bytes : Nat)
    (hop : o.op = .call { callee := .builtin .append, args := #[s, x], argTypes := #[t, t] }) (ht : P.underlying t = some (.slice e)) (hinfo : (P.info? e).map (fun i => (i.zero, i.size, i.bytes)) = some (some z, 1, bytes)) (hzs : z.cells.size = 1)
    (henc : ∀ x, (enc x).oneCell' = true) (hs : a.eval s = .slice A n c) (hx : a.eval x = .slice A2 m c2) (ho : Own enc B w A n c l) (hr : Rd enc w A2 m l2) (hby : (n + m) * bytes ≤ 140737488355328) (hnm : n + m ≤ 140737488355328) (hB : B ≤ w.heap.size)
    (h : ∀ A' c' w', Own enc B w' A' (n + m) c' (l ++ l2) → w.grownBy w' (A.map (·.block)) → Below B w w' → K (a.put o.dst (.slice A' (n + m) c')) w') : o.wpIn F k P a w K Q := by
  obtain ⟨A', c', w', hrun, h1, h2⟩ := run_append_sl (P := P) (c2 := c2) t o.type e z bytes ht hinfo hzs ho hr henc hby hnm hB
  unfold Oper.wpIn
  refine ⟨?_, ?_⟩
  · simp [Oper.about, hop, resolve, Target.leads, Sem.run_pure]
  · rw [Oper.semAt_plain F _ _ (by rw [hop]; intro c hc'; cases hc')]
    simp [execOp, hop, resolve, invoke, builtin, hs, hx, hrun, Result.andThen]
    exact h A' c' w' h1 h2 (below_of_grown ho hB h2)

theorem wpListIn_append_sl {F : Fence} {k : Nat} (hgd : o.guard = none) (s x : Operand) (t e : TypeId) (z : Value) (bytes : Nat)
    (hop : o.op = .call { callee := .builtin .append, args := #[s, x], argTypes := #[t, t] }) (ht : P.underlying t = some (.slice e)) (hinfo : (P.info? e).map (fun i => (i.zero, i.size, i.bytes)) = some (some z, 1, bytes)) (hzs : z.cells.size = 1)
    (henc : ∀ x, (enc x).oneCell' = true) (hs : a.eval s = .slice A n c) (hx : a.eval x = .slice A2 m c2) (ho : Own enc B w A n c l) (hr : Rd enc w A2 m l2) (hby : (n + m) * bytes ≤ 140737488355328) (hnm : n + m ≤ 140737488355328) (hB : B ≤ w.heap.size)
    (h : ∀ A' c' w', Own enc B w' A' (n + m) c' (l ++ l2) → w.grownBy w' (A.map (·.block)) → Below B w w' → wpListIn F k P ops Q rest (a.put o.dst (.slice A' (n + m) c')) w') : wpListIn F k P ops Q (o :: rest) a w :=
  wpListIn_plain hgd fun _ hK => wpIn_append_sl s x t e z bytes hop ht hinfo hzs henc hs hx ho hr hby hnm hB fun A' c' w' h1 h2 h3 => hK _ _ (h A' c' w' h1 h2 h3)
end walk

theorem Own.cell_at {g : Nat} (h : Own enc B w (some ⟨g, 0, none⟩) n c l) (i : Nat) (hi : i < n) : w.cell? ⟨g, i, none⟩ = some (enc (l[i]'(by rw [h.len]; exact hi))) := by
  rcases h.at_ with ⟨h0, _⟩ | ⟨g', h1, _, _, _, _, h6⟩
  · cases h0
  · cases h1; exact h6 i (by rw [h.len]; exact hi)
theorem Own.free_at {g : Nat} (h : Own enc B w (some ⟨g, 0, none⟩) n c l) (i : Nat) (hi : i < n) : w.frozen? ⟨g, i, none⟩ = false := by
  have := h.nc
  rcases h.at_ with ⟨h0, _⟩ | ⟨g', h1, _, _, _, h5, _⟩
  · cases h0
  · cases h1; exact h5 i (by omega)
theorem Own.some_at {g : Nat} (h : Own enc B w (some ⟨g, 0, none⟩) n c l) (i : Nat) (hi : i < n) : ∃ x, w.cell? ⟨g, i, none⟩ = some (enc x) := ⟨_, h.cell_at i hi⟩
theorem Own.base {g : Nat} (h : Own enc B w (some ⟨g, 0, none⟩) n c l) : B ≤ g ∧ g < w.heap.size := by
  rcases h.at_ with ⟨h0, _⟩ | ⟨g', h1, h2, h3, _⟩
  · cases h0
  · cases h1; exact ⟨h2, h3⟩

theorem Own.set {g : Nat} (h : Own enc B w (some ⟨g, 0, none⟩) n c l) (i : Nat) (hi : i < n) (x : α) : Own enc B (w.setCell ⟨g, i, none⟩ (enc x)) (some ⟨g, 0, none⟩) n c (l.set i x) := by
  have hc := h.cell_at i hi
  rcases h.at_ with ⟨h0, _⟩ | ⟨g', h1, h2, h3, h4, h5, h6⟩
  · cases h0
  · cases h1
    refine ⟨by simp [h.len], h.big, h.nc, h.cm, .inr ⟨g, rfl, h2, by simpa [World.setCell] using h3, fun j hj => ?_, fun j hj => by rw [frozen_set]; exact h5 j hj, fun j hj => ?_⟩⟩
    · by_cases e : i = j
      · subst e; exact ⟨_, cell_set_eq _ _ _ _ _ hc⟩
      · rw [cell_set_ne _ _ _ _ _ e]; exact h4 j hj
    · by_cases e : i = j
      · subst e; rw [cell_set_eq _ _ _ _ _ hc]; simp
      · rw [cell_set_ne _ _ _ _ _ e, List.getElem_set_ne e]; exact h6 j (by simpa using hj)

/-- Kept where a store goes into another block. -/
theorem Own.set_other (h : Own enc B w A n c l) (a : Addr) (u : Value) (hne : A ≠ some ⟨a.block, 0, none⟩) : Own enc B (w.setCell a u) A n c l :=
  h.same (by simp [World.setCell]) fun g hg => block_set _ _ _ _ (fun e => hne (by rw [hg, e]))
theorem Own.alloc (h : Own enc B w A n c l) (o : Obj) : Own enc B (w.alloc o) A n c l := h.below ((Below.refl _ w).alloc (Nat.le_refl _) o)
theorem Own.drew (h : Own enc B w A n c l) : Own enc B w.drew A n c l := h.below (Below.refl _ w).drew
theorem Rd.alloc (h : Rd enc w A n l) (o : Obj) : Rd enc (w.alloc o) A n l := h.below ((Below.refl _ w).alloc (Nat.le_refl _) o)
theorem Rd.drew (h : Rd enc w A n l) : Rd enc w.drew A n l := h.below (Below.refl _ w).drew

/-- A new block, whole. -/
theorem Own.new (w : World) (e : TypeId) (l : List α) (hB : B ≤ w.heap.size) (hl : l.length ≤ 140737488355328) : Own enc B (w.alloc (.cells (l.map enc).toArray e)) (some ⟨w.heap.size, 0, none⟩) l.length l.length l :=
  ⟨rfl, hl, Nat.le_refl _, by simp only [maxLen]; omega, .inr ⟨w.heap.size, rfl, hB, by simp, fun i hi => by rw [cell_new]; exact ⟨_, Array.getElem?_eq_getElem (by simpa using hi)⟩, fun i _ => frozen_new ..,
    fun j hj => by rw [cell_new]; simp [hj]⟩⟩

/-- 'x[lo:hi]' of a slice of one-cell elements, whatever bounds are spelt. -/
theorem Rd.sub (h : Rd enc w A n l) (lo hi : Nat) (h1 : lo ≤ hi) (h2 : hi ≤ n) : Rd enc w (A.map (·.add lo)) (hi - lo) ((l.take hi).drop lo) :=
  ⟨by simp [h.len]; omega, by have := h.big; omega, fun j hj => by
    have hj' : lo + j < l.length := by simp [h.len] at hj; rw [h.len]; omega
    obtain ⟨ad, e, hc⟩ := h.cell (lo + j) hj'
    subst e
    refine ⟨ad.add lo, rfl, ?_⟩
    rw [add_add, hc]
    simp⟩

/-- The address of 'x[lo:..]' as the model gives it. -/
def cutAt (A : Option Addr) (lo c : Nat) : Option Addr := if c = lo then A else A.map (·.add lo)

theorem Rd.cut (h : Rd enc w A n l) (lo hi c : Nat) (h1 : lo ≤ hi) (h2 : hi ≤ n) (h3 : n ≤ c) : Rd enc w (cutAt A lo c) (hi - lo) ((l.take hi).drop lo) := by
  unfold cutAt
  split
  · have : hi = lo := by omega
    subst this
    rw [Nat.sub_self]
    have e : (l.take hi).drop hi = [] := List.drop_eq_nil_of_le (by simp; omega)
    rw [e]
    exact Rd.nil _ _
  · exact h.sub lo hi h1 h2
end
end Go.Proofs.Sl
