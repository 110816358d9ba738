/- octet.Put and the document's Put: a number as bytes; and word, words. adrs.words, the document's Cat and Same: rows of bytes, one behind the other; the same bytes. DERIVED: THE SHELF's CONTRACTS AT THIS DUMP, IN PLAIN WORDS (tools/lay-plain.mjs out of 'TryzShelf.lean', which tools/lay-shelf.mjs wrote): THE SAME DECLARATIONS UNDER THE SAME NAMES: 'import', 'namespace', 'open', 'def', 'theorem' AND NOTHING ELSE: no command of the shelf's: FOR A HAND-IN. Each laying: the table of numbers ('.._ren') and one theorem, a field a fact of the dump's own or the kernel's comparison; each contract: ONE APPLICATION. octet.Cat, octet.Same, bytes.Clone: by the library's contracts. -/
import Derived.Test.YtipedpkkabfdjaaGreatDoorFits01
import Derived.Test.YtipedpkkabfdjaaGreatDoorProg
import Derived.Deep.OwnRows
import Derived.KernelRfl
import Derived.Shelf.Small.Bits
import Derived.Shelf.Strconv.Itoa0
import Derived.Shelf.Slices.Turned
import Derived.Shelf.Bytes.SlSearch0
import Derived.Ground.SlbCloneProg
import Derived.Shelf.Bytes.SlClone
import Derived.Ground.SlbNamesProg
import Derived.Shelf.Bytes.SlJoin
import Derived.Shelf.Bytes.SlEqualAll
import Derived.Shelf.Bytes.Small
/- octet.Put and the document's Put: a number as bytes; and word, words. -/
namespace Go.Proofs.Sl
open Go.RowKit Go.Proofs

theorem infoB : (Tryz.prog.info? 5).map (fun i => (i.zero, i.size, i.bytes)) = some (some (.int .u8 0), 1, 1) := by kernel_rfl
theorem infoI : (Tryz.prog.info? 3).map (fun i => (i.zero, i.size, i.bytes)) = some (some (.int .i64 0), 1, 8) := by kernel_rfl
theorem infoW : (Tryz.prog.info? 27).map (fun i => (i.zero, i.size, i.bytes)) = some (some (.int .u32 0), 1, 4) := by kernel_rfl

theorem putBE_length (v n : Nat) : (putBE v n).length = n := by
  induction n with
  | zero => rfl
  | succ n ih => simp [putBE, ih]

theorem made_replicate (n : Nat) : madeCells #[Value.int .u8 0] n = Array.replicate n (.int .u8 0) := by
  apply Array.ext
  · simp [size_madeCells]
  · intro i h1 h2
    simp [madeCells, Nat.mod_one]

theorem put_step (v k n : Nat) (hk : k < n) : (List.replicate (n - k) (0 : UInt8) ++ putBE v k).set (n - 1 - k) (UInt8.ofNat (v / 256 ^ k % 256)) = List.replicate (n - (k + 1)) 0 ++ putBE v (k + 1) := by
  obtain ⟨m, rfl⟩ : ∃ m, n = k + 1 + m := ⟨n - (k + 1), by omega⟩
  have e1 : k + 1 + m - k = m + 1 := by omega
  have e2 : k + 1 + m - 1 - k = m := by omega
  have e3 : k + 1 + m - (k + 1) = m := by omega
  rw [e1, e2, e3, List.replicate_succ', putBE, List.append_assoc, List.set_append_right _ _ (by simp)]
  simp

theorem byte_at (v k : Nat) : (v : Int) / 2 ^ (8 * k) % 256 = ((UInt8.ofNat (v / 256 ^ k % 256)).toNat : Int) := by
  have h : v / 256 ^ k % 256 < 256 := Nat.mod_lt _ (by omega)
  have e : (256 : Nat) ^ k = 2 ^ (8 * k) := by rw [Nat.pow_mul]
  rw [UInt8.toNat_ofNat_of_lt' h, e, Int.natCast_emod, Int.natCast_ediv, Int.natCast_pow]
  rfl

set_option maxHeartbeats 400000 in
theorem put_any (v n : Nat) (w : World) (h8 : n ≤ 8) :
    Calls Tryz.prog 102 #[.int .u64 (v : Int), .int .i64 (n : Int)] w (RetOwn eB w (putBE v n)) := by
  have hmk := run_make_row' (P := Tryz.prog) 24 5 (.int .u8 0) 1 Tryz.underlying24 infoB rfl .i64 .i64 n (by omega) (by omega)
  simp only [made_replicate] at hmk
  go_enter Tryz.func102, Tryz.ntmps102
  go_wp2
  go_loopw [6, 16] (fun _ i wr => ∃ k : Nat, k ≤ n ∧ i = .int .i64 k ∧ Own eB w.heap.size wr (some ⟨w.heap.size, 0, none⟩) n n (List.replicate (n - k) 0 ++ putBE v k) ∧ Below w.heap.size w wr) (fun _ i _ => n - (intOf i).toNat)
  case atStart =>
    have e : Own eB w.heap.size (w.alloc (.cells ((List.replicate n (0 : UInt8)).map eB).toArray 5)) (some ⟨w.heap.size, 0, none⟩) (List.replicate n (0 : UInt8)).length (List.replicate n (0 : UInt8)).length (List.replicate n (0 : UInt8)) :=
      Own.new w _ _ (Nat.le_refl _) (by simp; omega)
    simp only [List.length_replicate, List.map_replicate, List.toArray_replicate] at e
    exact ⟨0, Nat.zero_le _, rfl, by rw [putBE, List.append_nil]; exact e, (Below.refl _ _).alloc (Nat.le_refl _) _⟩
  case round =>
    obtain ⟨k, hk, rfl, ho, hb⟩ := hrel
    by_cases hlt : k < n
    · obtain ⟨x0, hc⟩ := ho.some_at (n - 1 - k) (by omega)
      have hf := ho.free_at (n - 1 - k) (by omega)
      have hs := put_step v k n hlt
      have hset := ho.set (n - 1 - k) (by omega) (UInt8.ofNat (v / 256 ^ k % 256))
      rw [hs] at hset
      have hbel := hb.setCell (p := ⟨w.heap.size, n - 1 - k, none⟩) (Nat.le_refl _) (eB (UInt8.ofNat (v / 256 ^ k % 256)))
      have HS := Lib.hid hset
      have HB := Lib.hid hbel
      clear hset hbel hs ho hb
      have e1 : ((n : Int) - 1 - (k : Int)).toNat = n - 1 - k := by omega
      have HV := Lib.hid (byte_at v k)
      go_wp2
      go_roundw
      case rel => exact ⟨k + 1, by omega, by go_num, by rw [HV.out]; exact HS.out, by rw [HV.out]; exact HB.out⟩
      case measure => simp [intOf]; omega
    · obtain rfl : k = n := by omega
      go_wp2
      go_ret
      exact ⟨_, _, _, rfl, by simpa using ho, hb⟩

set_option maxHeartbeats 400000 in
theorem rput_any (v n : Nat) (w : World) (hv : W64 v) (h8 : n ≤ 8) :
    Calls Tryz.prog 111 #[.int .u64 (v : Int), .int .i64 (n : Int)] w (RetOwn eB w (putBE v n)) := by
  go_enter Tryz.func111, Tryz.ntmps111
  go_wp2
  go_loopw [0, 5, 6] (fun x o i wr => ∃ (k : Nat) (A : Option Addr) (c : Nat), k ≤ n ∧ i = .int .i64 k ∧ x = .int .u64 ((v / 256 ^ k : Nat) : Int) ∧ o = .slice A k c ∧ Own eB w.heap.size wr A k c (putBE v k) ∧ Below w.heap.size w wr) (fun _ _ i _ => n - (intOf i).toNat)
  case atStart => exact ⟨0, _, _, Nat.zero_le _, rfl, by simp, rfl, Own.new (enc := eB) w 5 [] (Nat.le_refl _) (by simp), (Below.refl _ _).alloc (Nat.le_refl _) _⟩
  case round =>
    obtain ⟨k, A, c, hk, rfl, rfl, rfl, ho, hb⟩ := hrel
    by_cases hlt : k < n
    · obtain ⟨x, hx⟩ : ∃ x, v / 256 ^ k = x := ⟨_, rfl⟩
      rw [hx]
      have hstep : v / 256 ^ (k + 1) = x / 256 := by rw [← hx, Nat.pow_succ, Nat.div_div_eq_div_mul]
      have hput : putBE v (k + 1) = [UInt8.ofNat (x % 256)] ++ putBE v k := by rw [← hx]; rfl
      have HX := Lib.hid (And.intro hstep hput)
      have hxk := Lib.hid hx
      clear hx hstep hput
      have hn1 := Own.new (B := w.heap.size) (enc := eB) wr 5 [UInt8.ofNat (x % 256)] hb.size (by simp)
      have e : eB (UInt8.ofNat (x % 256)) = .int .u8 ((x : Int) % 256) := by
        show Value.int .u8 _ = _
        rw [UInt8.toNat_ofNat_of_lt' (show x % 256 < 256 from Nat.mod_lt _ (by decide))]
        rfl
      simp only [List.map_cons, List.map_nil, e] at hn1
      have hx0 : (0 : Int) ≤ (x : Int) := by omega
      have HN : Hid (Own eB w.heap.size (wr.alloc (.cells #[.int .u8 ((x : Int) % 256)] 5)) (some ⟨wr.heap.size, 0, none⟩) 1 1 [UInt8.ofNat (x % 256)]) := Lib.hid hn1
      have HO := Lib.hid (ho.alloc (.cells #[.int .u8 ((x : Int) % 256)] 5))
      have HB := Lib.hid (hb.alloc hb.size (.cells #[.int .u8 ((x : Int) % 256)] 5))
      have hbs := hb.size
      clear hn1 ho hb e
      go_wp2_with (at_builtin; refine wpList_append_sl rfl _ _ 24 5 (.int .u8 0) 1 rfl Tryz.underlying24 infoB rfl (fun _ => rfl) rfl rfl HN.out HO.out.rd (by omega) (by omega) (by simp; omega) ?_; intro A' c' w' h1 h2 h3)
      go_roundw
      case rel =>
        obtain ⟨hx1, hx2⟩ := HX.out
        refine ⟨k + 1, A', c', by omega, by go_num, ?_, by rw [Nat.add_comm], by rw [hx2, Nat.add_comm]; exact h1, HB.out.trans h3⟩
        rw [hx1, IntKind.wrap_u64]
        have hle : v / 256 ^ k ≤ v := Nat.div_le_self _ _
        have : x ≤ v := by rw [← hxk.out]; exact hle
        unfold W64 at hv
        congr 1
        omega
      case measure => simp [intOf]; omega
    · obtain rfl : k = n := by omega
      go_wp2
      go_ret
      exact ⟨_, _, _, rfl, ho, hb⟩

theorem word_any (v : Nat) (w : World) (hv : v < 4294967296) :
    Calls Tryz.prog 110 #[.int .u32 (v : Int)] w (RetOwn eB w (putBE v 4)) := by
  have h64 : W64 v := by unfold W64; omega
  have h0 : (0 : Int) ≤ (v : Int) := by omega
  have h1 : (v : Int) < 4294967296 := by omega
  go_enter Tryz.func110, Tryz.ntmps110
  go_wp2_with (go_at_call 111; refine (rput_any v 4 _ h64 (by omega)).mono ?_; rintro e w' ⟨A, n, c, rfl, ho, hb⟩)
  go_ret
  exact ⟨_, _, _, rfl, ho, hb⟩
end Go.Proofs.Sl

/- adrs.words, the document's Cat and Same: rows of bytes, one behind the other; the same bytes. -/
namespace Go.Proofs.Sl
open Go.RowKit Go.Proofs

abbrev eN (x : Nat) : Value := .int .i64 (x : Int)
abbrev eU (x : Nat) : Value := .int .u32 (x : Int)

/-- The slice at A holds k slices of bytes, which read as ls. -/
structure Parts (w : World) (A : Option Addr) (k : Nat) (ls : List (List UInt8)) : Prop where
  len : ls.length = k
  big : k ≤ 140737488355328
  at_ : ∀ i (h : i < ls.length), ∃ ad A' n c, A = some ad ∧ w.cell? (ad.add i) = some (.slice A' n c) ∧ Rd eB w A' n ls[i]

theorem Parts.below {w w' : World} {A : Option Addr} {k : Nat} {ls : List (List UInt8)} (h : Parts w A k ls) (hb : Below w.heap.size w w') : Parts w' A k ls :=
  ⟨h.len, h.big, fun i hi => by
    obtain ⟨ad, A', n, c, h1, h2, h3⟩ := h.at_ i hi
    exact ⟨ad, A', n, c, h1, cell_old hb h2, h3.below hb⟩⟩

/-- Numbers of 32 bits. -/
def U32s (l : List Nat) : Prop := ∀ x ∈ l, x < 4294967296

def wordsL (l : List Nat) : List UInt8 := l.flatMap (putBE · 4)

theorem wordsL_take (l : List Nat) (k : Nat) (h : k < l.length) : wordsL (l.take (k + 1)) = wordsL (l.take k) ++ putBE l[k] 4 := by
  rw [List.take_succ_eq_append_getElem h, wordsL, wordsL, List.flatMap_append, List.flatMap_cons, List.flatMap_nil, List.append_nil]
theorem wordsL_length (l : List Nat) : (wordsL l).length = 4 * l.length := by
  induction l with
  | nil => rfl
  | cons x l ih => simp only [wordsL, List.flatMap_cons, List.length_append, putBE_length, List.length_cons] at *; omega
theorem flatten_take (ls : List (List UInt8)) (k : Nat) (h : k < ls.length) : (ls.take (k + 1)).flatten = (ls.take k).flatten ++ ls[k] := by
  rw [List.take_succ_eq_append_getElem h, List.flatten_append, List.flatten_cons, List.flatten_nil, List.append_nil]
theorem flatten_take_le (ls : List (List UInt8)) (k : Nat) : (ls.take k).flatten.length ≤ ls.flatten.length := by
  conv => rhs; rw [← List.take_append_drop k ls, List.flatten_append, List.length_append]
  omega
theorem flatten_take_len (ls : List (List UInt8)) (k : Nat) (h : k < ls.length) : (ls.take k).flatten.length + ls[k].length ≤ ls.flatten.length := by
  have := flatten_take_le ls (k + 1)
  rw [flatten_take ls k h, List.length_append] at this
  exact this

set_option maxHeartbeats 400000 in
theorem words_any (A : Option Addr) (n c : Nat) (l : List Nat) (w : World) (h : Rd eU w A n l) (h8 : n ≤ 8) (hl : U32s l) :
    Calls Tryz.prog 121 #[.slice A n c] w (RetOwn eB w (wordsL l)) := by
  obtain rfl := h.len
  go_enter Tryz.func121, Tryz.ntmps121
  go_wp2
  go_loopw [3, 5, 8] (fun o _ i wr => ∃ (k m : Nat) (A : Option Addr) (c : Nat), k ≤ l.length ∧ i = .int .i64 k ∧ o = .slice A m c ∧ Own eB w.heap.size wr A m c (wordsL (l.take k)) ∧ Below w.heap.size w wr) (fun _ _ i _ => l.length - (intOf i).toNat)
  case atStart => exact ⟨0, 0, _, _, Nat.zero_le _, rfl, rfl, Own.nil _ _, Below.refl _ _⟩
  case round =>
    obtain ⟨k, m, A', c', hk, rfl, rfl, ho, hb⟩ := hrel
    by_cases hlt : k < l.length
    · obtain ⟨ad, rfl, hc⟩ := (h.below hb).at k hlt
      have hx := hl l[k] (List.getElem_mem hlt)
      obtain ⟨x, hx'⟩ : ∃ x, l[k] = x := ⟨_, rfl⟩
      rw [hx'] at hc hx
      have hm : m = 4 * k := by rw [← ho.len, wordsL_length, List.length_take_of_le (by omega)]
      have hm1 : m ≤ 32 := by omega
      have HT := Lib.hid (wordsL_take l k hlt)
      rw [hx'] at HT
      have HO := Lib.hid ho
      have HB := Lib.hid hb
      have hx1 : (x : Int) < 4294967296 := by omega
      have hx0 : (0 : Int) ≤ (x : Int) := by omega
      clear hm ho hb hx' hx
      go_wp2_with fail
      refine (put_any x 4 _ (by omega)).mono ?_
      rintro e w1 ⟨A1, n1, c1, rfl, h1, h2⟩
      have hn1 : n1 ≤ 4 := by rw [← h1.len, putBE_length]; omega
      have hbs := h2.size
      have hbw := HB.out.size
      go_wp2_with (at_builtin; refine wpList_append_sl rfl _ _ 24 5 (.int .u8 0) 1 rfl Tryz.underlying24 infoB rfl (fun _ => rfl) rfl rfl (HO.out.below h2) h1.rd (by omega) (by omega) (by omega) ?_; intro A' c' w' h3 h4 h5)
      go_roundw
      case rel => exact ⟨k + 1, _, _, _, by omega, by go_num, rfl, by rw [HT.out]; exact h3, (HB.out.trans (h2.mono hbw)).trans h5⟩
      case measure => simp [intOf]; omega
    · obtain rfl : k = l.length := by omega
      go_wp2
      go_ret
      exact ⟨_, _, _, rfl, by simpa using ho, hb⟩

set_option maxHeartbeats 400000 in
theorem rcat_any (A : Option Addr) (n c : Nat) (ls : List (List UInt8)) (w : World) (h : Parts w A n ls) (hl : ls.flatten.length ≤ 1099511627776) :
    Calls Tryz.prog 34 #[.slice A n c] w (RetOwn eB w ls.flatten) := by
  obtain rfl := h.len
  have hbig := h.big
  go_enter Tryz.func34, Tryz.ntmps34
  go_wp2
  go_loopw [3, 4] (fun o i wr => ∃ (k m : Nat) (A : Option Addr) (c : Nat), k ≤ ls.length ∧ i = .int .i64 k ∧ o = .slice A m c ∧ Own eB w.heap.size wr A m c (ls.take k).flatten ∧ Below w.heap.size w wr) (fun _ i _ => ls.length - (intOf i).toNat)
  case atStart => exact ⟨0, 0, _, _, Nat.zero_le _, rfl, rfl, Own.nil _ _, Below.refl _ _⟩
  case round =>
    obtain ⟨k, m, A', c', hk, rfl, rfl, ho, hb⟩ := hrel
    by_cases hlt : k < ls.length
    · obtain ⟨ad, A1, n1, c1, rfl, hc, hr⟩ := (h.below hb).at_ k hlt
      have hfl := flatten_take_len ls k hlt
      have hm : m + n1 ≤ 1099511627776 := by rw [← ho.len, ← hr.len]; omega
      have HT := Lib.hid (flatten_take ls k hlt)
      have HO := Lib.hid ho
      have HB := Lib.hid hb
      have HR := Lib.hid hr
      have hbs := hb.size
      clear ho hb hfl hr
      go_wp2_with (at_builtin; refine wpList_append_sl rfl _ _ 24 5 (.int .u8 0) 1 rfl Tryz.underlying24 infoB rfl (fun _ => rfl) rfl rfl HO.out HR.out (by omega) (by omega) (by omega) ?_; intro A' c' w' h3 h4 h5)
      go_roundw
      case rel => exact ⟨k + 1, _, _, _, by omega, by go_num, rfl, by rw [HT.out]; exact h3, HB.out.trans h5⟩
      case measure => simp [intOf]; omega
    · obtain rfl : k = ls.length := by omega
      go_wp2
      go_ret
      exact ⟨_, _, _, rfl, by simpa using ho, hb⟩

/-- The same bytes? -/
def sameB (a b : List UInt8) : Bool := a == b
theorem sameB_self (a : List UInt8) : sameB a a = true := by simp [sameB]

theorem sameB_ne (a b : List UInt8) (h : a.length ≠ b.length) : sameB a b = false := by
  simp only [sameB, beq_eq_false_iff_ne]
  exact fun e => h (by rw [e])
theorem sameB_at (a b : List UInt8) (k : Nat) (h1 : k < a.length) (h2 : k < b.length) (h : a[k] ≠ b[k]) : sameB a b = false := by
  simp only [sameB, beq_eq_false_iff_ne]
  intro e
  subst e
  exact h rfl
theorem sameB_all (a b : List UInt8) (hl : a.length = b.length) (h : ∀ j (h1 : j < a.length) (h2 : j < b.length), a[j] = b[j]) : sameB a b = true := by
  simp only [sameB, beq_iff_eq]
  exact List.ext_getElem hl h

set_option maxHeartbeats 400000 in
theorem same_any (A1 A2 : Option Addr) (n1 n2 c1 c2 : Nat) (a b : List UInt8) (w : World) (h1 : Rd eB w A1 n1 a) (h2 : Rd eB w A2 n2 b) :
    Calls Tryz.prog 10 #[.slice A1 n1 c1, .slice A2 n2 c2] w (RetV w (.bool (sameB a b))) := by
  obtain rfl := h1.len
  obtain rfl := h2.len
  have hbig := h1.big
  by_cases hne : a.length = b.length
  · have hb : ((a.length : Int) != (b.length : Int)) = false := by simp [hne]
    have HN := Lib.hid hne
    clear hne
    go_enter Tryz.func10, Tryz.ntmps10
    go_wp2
    go_loopw [5] (fun i wr => ∃ (k : Nat), k ≤ a.length ∧ i = .int .i64 k ∧ (∀ j (h1 : j < a.length) (h2 : j < b.length), j < k → a[j] = b[j]) ∧ ∃ q, wr = w.drewN q) (fun i _ => a.length - (intOf i).toNat)
    case atStart => exact ⟨0, Nat.zero_le _, rfl, fun j _ _ h => by omega, 0, rfl⟩
    case round =>
      obtain ⟨k, hk, rfl, hall, q, rfl⟩ := hrel
      have HA := Lib.hid hall
      clear hall
      by_cases hlt : k < a.length
      · have hlt2 : k < b.length := by have := HN.out; omega
        obtain ⟨ad1, rfl, hc1⟩ := h1.at k hlt
        obtain ⟨ad2, rfl, hc2⟩ := h2.at k hlt2
        have k0 : (0 : Int) ≤ (k : Int) := by omega
        have k1 : (k : Int) < (a.length : Int) := by omega
        have k2 : (k : Int) < (b.length : Int) := by omega
        go_wp2
        go_quiet (fail)
        by_cases heq : a[k] = b[k]
        · have hd : ((a[k].toNat : Int) != (b[k].toNat : Int)) = false := by rw [heq]; simp
          have HE := Lib.hid heq
          clear heq
          go_wp2
          go_roundw
          case rel =>
            refine ⟨k + 1, by omega, by go_num, fun j h1 h2 hj => ?_, q + nq, rfl⟩
            by_cases e : j = k
            · subst e; exact HE.out
            · exact HA.out j h1 h2 (by omega)
          case measure => simp [intOf]; omega
        · have hd : ((a[k].toNat : Int) != (b[k].toNat : Int)) = true := by
            simp only [bne_iff_ne, ne_eq, Int.natCast_inj]
            exact fun e => heq (UInt8.toNat_inj.1 e)
          have HE := Lib.hid (sameB_at a b k hlt hlt2 heq)
          clear heq
          go_wp2
          go_ret
          exact ⟨by rw [HE.out]; rfl, below_drewN (below_drewN (Below.refl _ _) _) _⟩
      · obtain rfl : k = a.length := by omega
        have HE := sameB_all a b HN.out fun j h1 h2 => HA.out j h1 h2 h1
        have HE' := Lib.hid HE
        clear HE
        go_wp2
        go_ret
        exact ⟨by rw [HE'.out]; rfl, below_drewN (Below.refl _ _) _⟩
  · have hb : ((a.length : Int) != (b.length : Int)) = true := by simp; omega
    have hf := sameB_ne a b hne
    rw [hf]
    clear hf hne
    go_enter Tryz.func10, Tryz.ntmps10
    go_wp2
    go_ret
    exact ⟨rfl, Below.refl _ _⟩
end Go.Proofs.Sl

/- DERIVED: THE SHELF's CONTRACTS AT THIS DUMP, IN PLAIN WORDS (tools/lay-plain.mjs out of 'TryzShelf.lean', which tools/lay-shelf.mjs wrote): THE SAME DECLARATIONS UNDER THE SAME NAMES: 'import', 'namespace', 'open', 'def', 'theorem' AND NOTHING ELSE: no command of the shelf's: FOR A HAND-IN. Each laying: the table of numbers ('.._ren') and one theorem, a field a fact of the dump's own or the kernel's comparison; each contract: ONE APPLICATION. -/
namespace Go.Proofs
open Go.Shelf
def Tryz.lays128_ren : Go.Shelf.Ren := ⟨fun | 128 => 108 | n => n, fun | 51 => 27 | 3 => 3 | 4 => 4 | 46 => 111 | 5 => 5 | 9 => 9 | n => n, fun | n => n⟩
theorem Tryz.lays128 : Go.Proofs.Lays.n128 Tryz.prog Tryz.lays128_ren := {
  mixed := by kernel_rfl
  f128 := Tryz.func108.trans (congrArg some (by kernel_rfl))
  t3 := Tryz.underlying3
  a3 := Tryz.isAgg3
  z3 := Tryz.sizeOf3
  v3 := Tryz.zeroValue3
  t4 := Tryz.underlying4
  a4 := Tryz.isAgg4
  z4 := Tryz.sizeOf4
  v4 := Tryz.zeroValue4
  t5 := Tryz.underlying5
  a5 := Tryz.isAgg5
  z5 := Tryz.sizeOf5
  v5 := Tryz.zeroValue5
  t9 := Tryz.underlying9
  a9 := Tryz.isAgg9
  z9 := Tryz.sizeOf9
  v9 := Tryz.zeroValue9
  t46 := Tryz.underlying111
  a46 := Tryz.isAgg111
  z46 := Tryz.sizeOf111
  v46 := Tryz.zeroValue111
  t51 := Tryz.underlying27
  a51 := Tryz.isAgg27
  z51 := Tryz.sizeOf27
  v51 := Tryz.zeroValue27 }
/-- bits.Len32: "Len32 returns the minimum number of bits required to represent x; the result is 0 for x == 0.": IT RETURNS 'Lib.bitLen x'; the world is as it was. ('h0', 'h1': x is a uint32.) (LAID: no walk: one application.) -/
theorem Tryz.bits_Len32 (x : Int) (w : World) (h0 : 0 ≤ x) (h1 : x ≤ 4294967295) :
    Calls Tryz.prog 108 #[.int .u32 x] w fun e w' => e = .returned (.int .i64 (Lib.bitLen x.toNat)) ∧ w' = w := Any.bits_Len32 Tryz.lays128 x w h0 h1
def Tryz.lays125_ren : Go.Shelf.Ren := ⟨fun | 125 => 84 | 128 => 108 | 129 => 109 | n => n, fun | 46 => 111 | 3 => 3 | 51 => 27 | 53 => 28 | 4 => 4 | 5 => 5 | 9 => 9 | n => n, fun | n => n⟩
theorem Tryz.lays125 : Go.Proofs.Lays.n125 Tryz.prog Tryz.lays125_ren := {
  mixed := by kernel_rfl
  f125 := Tryz.func84.trans (congrArg some (by kernel_rfl))
  f128 := Tryz.func108.trans (congrArg some (by kernel_rfl))
  f129 := Tryz.func109.trans (congrArg some (by kernel_rfl))
  t3 := Tryz.underlying3
  a3 := Tryz.isAgg3
  z3 := Tryz.sizeOf3
  v3 := Tryz.zeroValue3
  t4 := Tryz.underlying4
  a4 := Tryz.isAgg4
  z4 := Tryz.sizeOf4
  v4 := Tryz.zeroValue4
  t5 := Tryz.underlying5
  a5 := Tryz.isAgg5
  z5 := Tryz.sizeOf5
  v5 := Tryz.zeroValue5
  t9 := Tryz.underlying9
  a9 := Tryz.isAgg9
  z9 := Tryz.sizeOf9
  v9 := Tryz.zeroValue9
  t46 := Tryz.underlying111
  a46 := Tryz.isAgg111
  z46 := Tryz.sizeOf111
  v46 := Tryz.zeroValue111
  t51 := Tryz.underlying27
  a51 := Tryz.isAgg27
  z51 := Tryz.sizeOf27
  v51 := Tryz.zeroValue27
  t53 := Tryz.underlying28
  a53 := Tryz.isAgg28
  z53 := Tryz.sizeOf28
  v53 := Tryz.zeroValue28 }
/-- bits.Len: "Len returns the minimum number of bits required to represent x; the result is 0 for x == 0.": IT RETURNS 'Lib.bitLen x'; the world is as it was. (A uint has 64 bits in the model.) ITS CALLEE bits.Len64 IS MET BY ITS OWN CONTRACT OFF THE SHELF (lay that first). (LAID: no walk: one application.) -/
theorem Tryz.bits_Len (x : Int) (w : World) (h0 : 0 ≤ x) (h1 : x ≤ 18446744073709551615) :
    Calls Tryz.prog 84 #[.int .u64 x] w fun e w' => e = .returned (.int .i64 (Lib.bitLen x.toNat)) ∧ w' = w := Any.bits_Len Tryz.lays125 x w h0 h1
def Tryz.lays129_ren : Go.Shelf.Ren := ⟨fun | 129 => 109 | n => n, fun | 53 => 28 | 3 => 3 | 4 => 4 | 46 => 111 | 5 => 5 | 9 => 9 | n => n, fun | n => n⟩
theorem Tryz.lays129 : Go.Proofs.Lays.n129 Tryz.prog Tryz.lays129_ren := {
  mixed := by kernel_rfl
  f129 := Tryz.func109.trans (congrArg some (by kernel_rfl))
  t3 := Tryz.underlying3
  a3 := Tryz.isAgg3
  z3 := Tryz.sizeOf3
  v3 := Tryz.zeroValue3
  t4 := Tryz.underlying4
  a4 := Tryz.isAgg4
  z4 := Tryz.sizeOf4
  v4 := Tryz.zeroValue4
  t5 := Tryz.underlying5
  a5 := Tryz.isAgg5
  z5 := Tryz.sizeOf5
  v5 := Tryz.zeroValue5
  t9 := Tryz.underlying9
  a9 := Tryz.isAgg9
  z9 := Tryz.sizeOf9
  v9 := Tryz.zeroValue9
  t46 := Tryz.underlying111
  a46 := Tryz.isAgg111
  z46 := Tryz.sizeOf111
  v46 := Tryz.zeroValue111
  t53 := Tryz.underlying28
  a53 := Tryz.isAgg28
  z53 := Tryz.sizeOf28
  v53 := Tryz.zeroValue28 }
/-- bits.Len64: "Len64 returns the minimum number of bits required to represent x; the result is 0 for x == 0.": IT RETURNS 'Lib.bitLen x'; the world is as it was. ('h0', 'h1': x is a uint64.) (LAID: no walk: one application.) -/
theorem Tryz.bits_Len64 (x : Int) (w : World) (h0 : 0 ≤ x) (h1 : x ≤ 18446744073709551615) :
    Calls Tryz.prog 109 #[.int .u64 x] w fun e w' => e = .returned (.int .i64 (Lib.bitLen x.toNat)) ∧ w' = w := Any.bits_Len64 Tryz.lays129 x w h0 h1
def Tryz.lays108_ren : Go.Shelf.Ren := ⟨fun | 108 => 118 | n => n, fun | 28 => 65 | 3 => 3 | 0 => 0 | 4 => 4 | n => n, fun | n => n⟩
theorem Tryz.lays108 : Go.Proofs.Lays.n108 Tryz.prog Tryz.lays108_ren := {
  mixed := by kernel_rfl
  f108 := Tryz.func118.trans (congrArg some (by kernel_rfl))
  t0 := Tryz.underlying0
  a0 := Tryz.isAgg0
  z0 := Tryz.sizeOf0
  v0 := Tryz.zeroValue0
  t3 := Tryz.underlying3
  a3 := Tryz.isAgg3
  z3 := Tryz.sizeOf3
  v3 := Tryz.zeroValue3
  t4 := Tryz.underlying4
  a4 := Tryz.isAgg4
  z4 := Tryz.sizeOf4
  v4 := Tryz.zeroValue4
  t28 := Tryz.underlying65
  a28 := Tryz.isAgg65
  z28 := Tryz.sizeOf65
  v28 := Tryz.zeroValue65 }
open Go.Lib in
/-- slices.Index at []int: "Index returns the index of the first occurrence of v in s, or -1 if not present.": IT RETURNS 'Lib.idxOf (the elements) v'; the world is as it was. 'zs': what the cells behind the slice's address hold (its spare capacity too, if you have it); 'zs.take n': its elements. (LAID: no walk: one application.) -/
theorem Tryz.slices_Index_int (b off n c : Nat) (zs : List Int) (x : Int) (w : World) (hz : n ≤ zs.length) (hbig : n ≤ 9223372036854775807) (hc : ∀ j, j < zs.length → w.cell? ⟨b, off + j, none⟩ = some (.int .i64 (zs.getD j 0))) :
    Calls Tryz.prog 118 #[.slice (some ⟨b, off, none⟩) n c, .int .i64 x] w fun e w' => e = .returned (.int .i64 (Lib.idxOf (zs.take n) x)) ∧ w' = w := Any.slices_Index_int Tryz.lays108 b off n c zs x w hz hbig hc
open Go.Lib in
/-- The same at a slice of length 0, a nil one too: no cell is known, none is asked for. (LAID: no walk: one application.) -/
theorem Tryz.slices_Index_int_empty (a : Option Addr) (c : Nat) (x : Int) (w : World) :
    Calls Tryz.prog 118 #[.slice a 0 c, .int .i64 x] w fun e w' => e = .returned (.int .i64 (Lib.idxOf [] x)) ∧ w' = w := Any.slices_Index_int_empty Tryz.lays108 a c x w
def Tryz.lays107_ren : Go.Shelf.Ren := ⟨fun | 107 => 107 | 108 => 118 | n => n, fun | 28 => 65 | 3 => 3 | 4 => 4 | 0 => 0 | n => n, fun | n => n⟩
theorem Tryz.lays107 : Go.Proofs.Lays.n107 Tryz.prog Tryz.lays107_ren := {
  mixed := by kernel_rfl
  f107 := Tryz.func107.trans (congrArg some (by kernel_rfl))
  f108 := Tryz.func118.trans (congrArg some (by kernel_rfl))
  t0 := Tryz.underlying0
  a0 := Tryz.isAgg0
  z0 := Tryz.sizeOf0
  v0 := Tryz.zeroValue0
  t3 := Tryz.underlying3
  a3 := Tryz.isAgg3
  z3 := Tryz.sizeOf3
  v3 := Tryz.zeroValue3
  t4 := Tryz.underlying4
  a4 := Tryz.isAgg4
  z4 := Tryz.sizeOf4
  v4 := Tryz.zeroValue4
  t28 := Tryz.underlying65
  a28 := Tryz.isAgg65
  z28 := Tryz.sizeOf65
  v28 := Tryz.zeroValue65 }
open Go.Lib in
/-- slices.Contains at []int: "Contains reports whether v is present in s.": IT RETURNS 'elements.contains v'; the world is as it was. ITS CALLEE slices.Index IS MET BY ITS OWN CONTRACT OFF THE SHELF (lay that first): no loop is walked here. (LAID: no walk: one application.) -/
theorem Tryz.slices_Contains_int (b off n c : Nat) (zs : List Int) (x : Int) (w : World) (hz : n ≤ zs.length) (hbig : n ≤ 9223372036854775807) (hc : ∀ j, j < zs.length → w.cell? ⟨b, off + j, none⟩ = some (.int .i64 (zs.getD j 0))) :
    Calls Tryz.prog 107 #[.slice (some ⟨b, off, none⟩) n c, .int .i64 x] w fun e w' => e = .returned (.bool ((zs.take n).contains x)) ∧ w' = w := Any.slices_Contains_int Tryz.lays107 b off n c zs x w hz hbig hc
open Go.Lib in
/-- The same at a slice of length 0, a nil one too. (LAID: no walk: one application.) -/
theorem Tryz.slices_Contains_int_empty (a : Option Addr) (c : Nat) (x : Int) (w : World) :
    Calls Tryz.prog 107 #[.slice a 0 c, .int .i64 x] w fun e w' => e = .returned (.bool false) ∧ w' = w := Any.slices_Contains_int_empty Tryz.lays107 a c x w
def Tryz.lays115_ren : Go.Shelf.Ren := ⟨fun | 115 => 91 | n => n, fun | 37 => 24 | 4 => 4 | 9 => 9 | 5 => 5 | n => n, fun | n => n⟩
theorem Tryz.lays115 : Go.Proofs.Lays.n115 Tryz.prog Tryz.lays115_ren := {
  mixed := by kernel_rfl
  f115 := Tryz.func91.trans (congrArg some (by kernel_rfl))
  t4 := Tryz.underlying4
  a4 := Tryz.isAgg4
  z4 := Tryz.sizeOf4
  v4 := Tryz.zeroValue4
  t9 := Tryz.underlying9
  a9 := Tryz.isAgg9
  z9 := Tryz.sizeOf9
  v9 := Tryz.zeroValue9
  t37 := Tryz.underlying24
  a37 := Tryz.isAgg24
  z37 := Tryz.sizeOf24
  v37 := Tryz.zeroValue24 }
open Go.Proofs Go.RowKit Go.Lib in
/-- bytes.Equal, each argument with what 'string(..)' of it gives. (LAID: no walk: one application.) -/
theorem Tryz.bytes_Equal_strs (v1 v2 : Value) (t1 t2 : ByteArray) (w : World) (h1 : (convert 24 9 v1).run Tryz.prog w = .ok (.string t1) w) (h2 : (convert 24 9 v2).run Tryz.prog w = .ok (.string t2) w) :
    Calls Tryz.prog 91 #[v1, v2] w fun e w' => e = .returned (.bool (t1.toList == t2.toList)) ∧ w' = w := Any.bytes_Equal_strs Tryz.lays115 v1 v2 t1 t2 w h1 h2
def Tryz.laysSlK4_ren : Go.Shelf.Ren := ⟨fun | 4 => 93 | n => n, fun | 22 => 24 | 4 => 4 | 5 => 5 | n => n, fun | n => n⟩
theorem Tryz.laysSlK4 : Go.Proofs.SlLaysK.n4 Tryz.prog Tryz.laysSlK4_ren := {
  mixed := by kernel_rfl
  f4 := Tryz.func93.trans (congrArg some (by kernel_rfl))
  t4 := Tryz.underlying4
  a4 := Tryz.isAgg4
  z4 := Tryz.sizeOf4
  v4 := Tryz.zeroValue4
  t22 := Tryz.underlying24
  a22 := Tryz.isAgg24
  z22 := Tryz.sizeOf24
  v22 := Tryz.zeroValue24
  t5 := Tryz.underlying5
  i5 := by kernel_rfl }
open Go.RowKit Go.Lib in
/-- bytes.Clone: "Clone returns a copy of b[:len(b)]. The result may have additional unused capacity.": OF A SLICE THAT IS NOT nil IT RETURNS A SLICE THAT IS NOT nil, OF THE SAME BYTES, IN MEMORY OF THE CALL's OWN: in the how-to's words (6f): 'w'.ownsRow B e 1 v' n cells' · 'Below B w w'', B the heap's size at the call. b AT WHATEVER ADDRESS, its cells as 'open_ints' hands them ('a.add i'; the numbers 'xs'). No byte: no cell is asked for. (LAID: no walk: one application.) -/
theorem Tryz.bytes_Clone_at (a : Addr) (n c : Nat) (xs : List Int) (w : World) (hx : xs.length = n) (hbig : n ≤ 140737488355328) (hc : ∀ i, i < n → w.cell? (a.add i) = some (.int .u8 (xs.getD i 0))) :
    Calls Tryz.prog 93 #[.slice (some a) n c] w fun e w' => ∃ v', e = .returned v' ∧ w'.ownsRow w.heap.size 5 1 v' n (xs.map (Value.int .u8)) ∧ v' ≠ .slice none 0 0 ∧ Below w.heap.size w w' := Any.bytes_Clone_at Tryz.laysSlK4 a n c xs w hx hbig hc
open Go.RowKit Go.Lib in
/-- "Clone(nil) returns nil.": the world is as it was. (LAID: no walk: one application.) -/
theorem Tryz.bytes_Clone_nil (n c : Nat) (w : World) :
    Calls Tryz.prog 93 #[.slice none n c] w fun e w' => e = .returned (.slice none 0 0) ∧ w' = w := Any.bytes_Clone_nil Tryz.laysSlK4 n c w
def Tryz.laysSlJ14_ren : Go.Shelf.Ren := ⟨fun | 14 => 60 | 15 => 97 | n => n, fun | 26 => 76 | 22 => 24 | 3 => 3 | 4 => 4 | 0 => 0 | 9 => 9 | 20 => 20 | 5 => 5 | n => n, fun | n => n⟩
theorem Tryz.laysSlJ14 : Go.Proofs.SlLaysJ.n14 Tryz.prog Tryz.laysSlJ14_ren := {
  mixed := by kernel_rfl
  f14 := Tryz.func60.trans (congrArg some (by kernel_rfl))
  f15 := Tryz.func97.trans (congrArg some (by kernel_rfl))
  t0 := Tryz.underlying0
  a0 := Tryz.isAgg0
  z0 := Tryz.sizeOf0
  v0 := Tryz.zeroValue0
  t3 := Tryz.underlying3
  a3 := Tryz.isAgg3
  z3 := Tryz.sizeOf3
  v3 := Tryz.zeroValue3
  t4 := Tryz.underlying4
  a4 := Tryz.isAgg4
  z4 := Tryz.sizeOf4
  v4 := Tryz.zeroValue4
  t9 := Tryz.underlying9
  a9 := Tryz.isAgg9
  z9 := Tryz.sizeOf9
  v9 := Tryz.zeroValue9
  t20 := Tryz.underlying20
  a20 := Tryz.isAgg20
  z20 := Tryz.sizeOf20
  v20 := Tryz.zeroValue20
  t22 := Tryz.underlying24
  a22 := Tryz.isAgg24
  z22 := Tryz.sizeOf24
  v22 := Tryz.zeroValue24
  t26 := Tryz.underlying76
  a26 := Tryz.isAgg76
  z26 := Tryz.sizeOf76
  v26 := Tryz.zeroValue76
  t5 := Tryz.underlying5
  z5 := Tryz.sizeOf5
  i5 := by kernel_rfl }
open Go.RowKit Go.Lib in
theorem Tryz.bytes_Join_many (b o n c : Nat) (vs : List Value) (ls : List (List UInt8)) (sv : Value) (sep : List UInt8) (w : World) (hn : ls.length = n) (h2 : 2 ≤ n) (hP : Lib.PartsAt w ⟨b, o, none⟩ vs ls) (hcap : n ≤ c) (hS : Lib.HoldsBytes w sv sep) (hn47 : n ≤ 140737488355328) (hlen : Lib.lens ls + sep.length * (n - 1) ≤ 140737488355328) :
    Calls Tryz.prog 60 #[.slice (some ⟨b, o, none⟩) n c, sv] w fun e w' => ∃ v', e = .returned v' ∧ Lib.FreshBytes w.heap.size w' v' (Lib.join ls sep) ∧ Below w.heap.size w w' := Any.bytes_Join_many Tryz.laysSlJ14 b o n c vs ls sv sep w hn h2 hP hcap hS hn47 hlen
open Go.RowKit Go.Lib in
/-- bytes.Join of no part (nil too): '[]byte{}': a slice of no byte THAT IS NOT nil, at the head of a new, empty row. (LAID: no walk: one application.) -/
theorem Tryz.bytes_Join_none (p : Option Addr) (c : Nat) (sv : Value) (w : World) :
    Calls Tryz.prog 60 #[.slice p 0 c, sv] w fun e w' => e = .returned (.slice (some ⟨w.heap.size, 0, none⟩) 0 0) ∧ w' = w.alloc (.cells #[] 5) := Any.bytes_Join_none Tryz.laysSlJ14 p c sv w
open Go.RowKit Go.Lib in
/-- bytes.Join of ONE part, of one byte or more: 'append([]byte(nil), s[0]...)': a new []byte of its bytes; sep is not looked at. (LAID: no walk: one application.) -/
theorem Tryz.bytes_Join_one (b o c : Nat) (ad0 : Addr) (c0 : Nat) (l0 : List UInt8) (sv : Value) (w : World) (hcell : w.cell? ⟨b, o, none⟩ = some (.slice (some ad0) l0.length c0)) (hc : ∀ (i : Nat) x, l0[i]? = some x → w.cell? (ad0.add i) = some (.int .u8 (x.toNat : Int))) (h0 : 0 < l0.length) (hs : l0.length ≤ 140737488355328) :
    Calls Tryz.prog 60 #[.slice (some ⟨b, o, none⟩) 1 c, sv] w fun e w' => ∃ v', e = .returned v' ∧ Lib.FreshBytes w.heap.size w' v' l0 ∧ Below w.heap.size w w' := Any.bytes_Join_one Tryz.laysSlJ14 b o c ad0 c0 l0 sv w hcell hc h0 hs
open Go.RowKit Go.Lib in
/-- bytes.Join of ONE part of no byte (nil or not): 'append([]byte(nil), s[0]...)' IS nil; the world is as it was. (LAID: no walk: one application.) -/
theorem Tryz.bytes_Join_one_empty (b o c : Nat) (p0 : Option Addr) (c0 : Nat) (sv : Value) (w : World) (hcell : w.cell? ⟨b, o, none⟩ = some (.slice p0 0 c0)) :
    Calls Tryz.prog 60 #[.slice (some ⟨b, o, none⟩) 1 c, sv] w fun e w' => e = .returned (.slice none 0 0) ∧ w' = w := Any.bytes_Join_one_empty Tryz.laysSlJ14 b o c p0 c0 sv w hcell
def Tryz.laysnb115_ren : Go.Shelf.Ren := ⟨fun | 115 => 91 | n => n, fun | 37 => 24 | 4 => 4 | 9 => 9 | 5 => 5 | n => n, fun | n => n⟩
theorem Tryz.laysnb115 : Go.Proofs.Lays.nb115 Tryz.prog Tryz.laysnb115_ren := {
  mixed := by kernel_rfl
  f115 := Tryz.func91.trans (congrArg some (by kernel_rfl))
  t4 := Tryz.underlying4
  a4 := Tryz.isAgg4
  z4 := Tryz.sizeOf4
  v4 := Tryz.zeroValue4
  t9 := Tryz.underlying9
  a9 := Tryz.isAgg9
  z9 := Tryz.sizeOf9
  v9 := Tryz.zeroValue9
  t37 := Tryz.underlying24
  a37 := Tryz.isAgg24
  z37 := Tryz.sizeOf24
  v37 := Tryz.zeroValue24
  t5 := Tryz.underlying5
  a5 := Tryz.isAgg5
  z5 := Tryz.sizeOf5
  v5 := Tryz.zeroValue5 }
/-- bytes.Equal: WHOLE. (LAID: no walk: one application.) -/
theorem Tryz.bytes_Equal_all (p1 p2 : Option Addr) (n c m d : Nat) (xs ys : List Int) (w : World) (hx : xs.length = n) (hy : ys.length = m) (h1 : Lib.BytesIn w p1 n xs) (h2 : Lib.BytesIn w p2 m ys) :
    Calls Tryz.prog 91 #[.slice p1 n c, .slice p2 m d] w fun e w' => e = .returned (.bool (Lib.bytesOf xs == Lib.bytesOf ys)) ∧ w' = w := Any.bytes_Equal_all Tryz.laysnb115 p1 p2 n c m d xs ys w hx hy h1 h2
/-- bytes.Equal: "Equal reports whether a and b are the same length and contain the same bytes. A nil argument is equivalent to an empty slice.": IT RETURNS 'the bytes of the one == the bytes of the other'; the world is as it was. THE TWO ARGUMENTS COME AS WHATEVER VALUES, each with the one fact that the walk wants of it: what 'string(..)' of it gives: for a slice whose cells you know: 'run_convert_bytes_arg' (Derived/Laws/BytesArg.lean) hands that fact; for a nil one: 'run_convert_bytes_nil' (with xs := []). (LAID: no walk: one application.) -/
theorem Tryz.bytes_Equal (v1 v2 : Value) (xs ys : List Int) (w : World) (h1 : (convert 24 9 v1).run Tryz.prog w = .ok (.string (strOfNums xs)) w) (h2 : (convert 24 9 v2).run Tryz.prog w = .ok (.string (strOfNums ys)) w) :
    Calls Tryz.prog 91 #[v1, v2] w fun e w' => e = .returned (.bool (Lib.bytesOf xs == Lib.bytesOf ys)) ∧ w' = w := Any.bytes_Equal Tryz.lays115 v1 v2 xs ys w h1 h2
end Go.Proofs

/- octet.Cat, octet.Same, bytes.Clone: by the library's contracts. -/
namespace Go.Proofs.Sl
open Go.RowKit Go.Proofs

theorem Own.of_fresh {B : Nat} {w : World} {v : Value} {l : List UInt8} (h : Lib.FreshBytes B w v l) (h0 : 0 < l.length) (hb : l.length ≤ 140737488355328) :
    ∃ A c, v = .slice A l.length c ∧ Own eB B w A l.length c l := by
  obtain ⟨g, cap, zs, rfl, h1, h2, h3, h4, h5, h6, h7, h8⟩ := h
  have hc0 := h7 0 (by omega)
  refine ⟨_, cap, rfl, rfl, hb, h2, h3, .inr ⟨g, rfl, h1, World.block_lt_of_cell? w _ hc0, fun i hi => ⟨_, h7 i hi⟩, h8, fun j hj => ?_⟩⟩
  rw [h7 j (by omega)]
  have hz : j < zs.length := by omega
  have e : l[j] = UInt8.ofNat (zs[j]).toNat := by
    have : l = Lib.bytesOf (zs.take l.length) := h6.symm
    have hj' : j < (Lib.bytesOf (zs.take l.length)).length := by rw [← this]; exact hj
    have e2 : l[j] = (Lib.bytesOf (zs.take l.length))[j] := by congr 1
    rw [e2]
    simp [Lib.bytesOf]
  have hr := h5 zs[j] (List.getElem_mem hz)
  rw [e]
  simp only [List.getD_eq_getElem?_getD, List.getElem?_eq_getElem hz, Option.getD_some]
  have : (UInt8.ofNat (zs[j]).toNat).toNat = (zs[j]).toNat := UInt8.toNat_ofNat_of_lt' (show (zs[j]).toNat < 256 by omega)
  show some (Value.int .u8 zs[j]) = some (Value.int .u8 ((UInt8.ofNat (zs[j]).toNat).toNat : Int))
  rw [this]
  congr 2
  omega

theorem Own.of_owns {α : Type} {enc : α → Value} {B e n : Nat} {w : World} {v : Value} {l : List α} (h : w.ownsRow B e 1 v n (l.map enc)) (hb : n ≤ 140737488355328) :
    ∃ A c, v = .slice A n c ∧ Own enc B w A n c l := by
  have hl : l.length = n := by have := h.1; simpa using this
  rcases h.2 with ⟨rfl, rfl⟩ | ⟨g, cap, cur, rfl, h1, h2, h3, h4, h5, h6⟩
  · exact ⟨none, 0, rfl, hl, hb, Nat.le_refl _, by simp only [maxLen]; omega, .inl ⟨rfl, rfl⟩⟩
  · refine ⟨_, cap, rfl, hl, hb, h3, h4, .inr ⟨g, rfl, h1, (Array.getElem?_eq_some_iff.1 h2).1, fun i hi => ?_, fun i _ => ?_, fun j hj => ?_⟩⟩
    · rw [cell_of_row w g i cur e (0, 0) h2]
      exact ⟨_, Array.getElem?_eq_getElem (by omega)⟩
    · simp [World.frozen?, h2]
    · rw [cell_of_row w g j cur e (0, 0) h2]
      have hjc : j < cur.size := by omega
      have e1 : (cur.toList.take (n * 1))[j]? = some (enc l[j]) := by rw [h6]; simp [hj]
      rw [List.getElem?_take] at e1
      split at e1
      · simpa using e1
      · cases e1

theorem Rd.nums {w : World} {A : Option Addr} {n : Nat} {l : List UInt8} (h : Rd eB w A n l) {ad : Addr} (hA : A = some ad) : ∀ i, i < n → w.cell? (ad.add i) = some (.int .u8 ((Lib.numsL l).getD i 0)) := by
  intro i hi
  have hil : i < l.length := by rw [h.len]; exact hi
  obtain ⟨ad', e, hc⟩ := h.cell i hil
  rw [hA] at e
  cases e
  rw [hc]
  simp [Lib.numsL, List.getD_eq_getElem?_getD, hil]

theorem nums_map (l : List UInt8) : (Lib.numsL l).map (Value.int .u8) = l.map eB := by simp [Lib.numsL]

/-- bytes.Clone of a slice that has a byte. -/
theorem clone_any (A : Option Addr) (n c : Nat) (l : List UInt8) (w : World) (h : Rd eB w A n l) (h0 : A ≠ none) :
    Calls Tryz.prog 93 #[.slice A n c] w (RetOwn eB w l) := by
  cases A with
  | none => exact absurd rfl h0
  | some ad =>
    have := h.big
    refine (Tryz.bytes_Clone_at ad n c (Lib.numsL l) w (by rw [Lib.numsL_length, h.len]) (by omega) (h.nums rfl)).mono ?_
    rintro e w' ⟨v', rfl, h1, _, h2⟩
    rw [nums_map] at h1
    obtain ⟨A', c', rfl, ho⟩ := Own.of_owns h1 h.big
    exact ⟨A', n, c', rfl, ho, h2⟩

theorem lens_flatten (ls : List (List UInt8)) : Lib.lens ls = ls.flatten.length := by simp [Lib.lens, List.length_flatten]
theorem joinTail_nil (r : List (List UInt8)) : Lib.joinTail [] r = r.flatten := by simp [Lib.joinTail]
theorem join_flatten (ls : List (List UInt8)) : Lib.join ls [] = ls.flatten := by
  cases ls with
  | nil => rfl
  | cons x r => rw [Lib.join_cons, joinTail_nil]; rfl

theorem join_any (b o n c : Nat) (ls : List (List UInt8)) (w : World) (h : Parts w (some ⟨b, o, none⟩) n ls) (hn : 1 ≤ n) (hc : n ≤ c) (h0 : 0 < ls.flatten.length) (hl : ls.flatten.length ≤ 1099511627776) :
    Calls Tryz.prog 60 #[.slice (some ⟨b, o, none⟩) n c, .slice none 0 0] w (RetOwn eB w ls.flatten) := by
  have hlen := h.len
  by_cases h1 : n = 1
  · subst h1
    obtain ⟨x, rfl⟩ : ∃ x, ls = [x] := by
      match ls, hlen with
      | [x], _ => exact ⟨x, rfl⟩
    have hx : [x].flatten = x := by simp
    rw [hx] at h0 hl ⊢
    obtain ⟨ad, A', m, c', e, hcell, hr⟩ := h.at_ 0 (by simp)
    cases e
    have hm : x.length = m := hr.len
    subst hm
    obtain ⟨ad0, rfl, _⟩ := hr.at 0 h0
    have hcell' : w.cell? ⟨b, o, none⟩ = some (.slice (some ad0) x.length c') := by simpa [Addr.add] using hcell
    refine (Tryz.bytes_Join_one b o c ad0 c' x _ w hcell' (fun i y hy => ?_) h0 (by omega)).mono ?_
    · have hi : i < x.length := (List.getElem?_eq_some_iff.1 hy).1
      obtain ⟨ad', e, hc'⟩ := hr.cell i hi
      cases e
      rw [List.getElem?_eq_getElem hi] at hy
      cases hy
      exact hc'
    · rintro e w' ⟨v', rfl, hf, hb⟩
      obtain ⟨A1, c1, rfl, ho⟩ := Own.of_fresh hf h0 (by omega)
      exact ⟨A1, _, c1, rfl, ho, hb⟩
  · have hbig := h.big
    have hP : Lib.PartsAt w ⟨b, o, none⟩ ((List.range n).map fun i => (w.cell? ((⟨b, o, none⟩ : Addr).add i)).getD undef) ls := by
      refine ⟨by simp [hlen], fun i v hv => ?_, fun i v l hv hl' => ?_⟩
      · have hi : i < n := by have := (List.getElem?_eq_some_iff.1 hv).1; simpa using this
        obtain ⟨ad, A', m, c', e, hcell, _⟩ := h.at_ i (by omega)
        cases e
        simp [hi, hcell] at hv
        rw [hcell, hv]
      · have hi : i < n := by have := (List.getElem?_eq_some_iff.1 hv).1; simpa using this
        obtain ⟨ad, A', m, c', e, hcell, hr⟩ := h.at_ i (by omega)
        cases e
        simp [hi, hcell] at hv
        subst hv
        have hll : ls[i] = l := by rw [List.getElem?_eq_getElem (by omega)] at hl'; exact Option.some.inj hl'
        rw [hll] at hr
        have hm := hr.len
        subst hm
        refine ⟨A', c', rfl, fun hA => ?_, fun a hA j x hx => ?_⟩
        · subst hA
          cases l with
          | nil => rfl
          | cons y r => obtain ⟨ad, e, _⟩ := hr.cell 0 (by simp); cases e
        · have hj : j < l.length := (List.getElem?_eq_some_iff.1 hx).1
          obtain ⟨ad', e, hc'⟩ := hr.cell j hj
          rw [hA] at e
          cases e
          rw [List.getElem?_eq_getElem hj] at hx
          cases hx
          exact hc'
    refine (Tryz.bytes_Join_many b o n c _ ls (.slice none 0 0) [] w hlen (by omega) hP hc ⟨none, 0, rfl, fun _ => rfl, fun a e => by cases e⟩ hbig (by rw [lens_flatten, List.length_nil, Nat.zero_mul]; omega)).mono ?_
    rintro e w' ⟨v', rfl, hf, hb⟩
    rw [join_flatten] at hf
    obtain ⟨A1, c1, rfl, ho⟩ := Own.of_fresh hf h0 (by omega)
    exact ⟨A1, _, c1, rfl, ho, hb⟩

theorem cat_any (b o n c : Nat) (ls : List (List UInt8)) (w : World) (h : Parts w (some ⟨b, o, none⟩) n ls) (hn : 1 ≤ n) (hc : n ≤ c) (h0 : 0 < ls.flatten.length) (hl : ls.flatten.length ≤ 1099511627776) :
    Calls Tryz.prog 27 #[.slice (some ⟨b, o, none⟩) n c] w (RetOwn eB w ls.flatten) := by
  have HC := Lib.hid (join_any b o n c ls w h hn hc h0 hl)
  clear h h0 hl
  go_enter Tryz.func27, Tryz.ntmps27
  go_wp2_with fail
  refine HC.out.mono ?_
  rintro e w1 ⟨A1, n1, c1, rfl, h1, h2⟩
  go_wp2
  go_ret
  exact ⟨_, _, _, rfl, h1, h2⟩

theorem Rd.bytesIn {w : World} {A : Option Addr} {n : Nat} {l : List UInt8} (h : Rd eB w A n l) : Lib.BytesIn w A n (Lib.numsL l) := by
  intro h0
  obtain ⟨ad, rfl, _⟩ := h.at 0 h0
  exact Lib.BytesIn.of_cells (h.nums rfl) h0

theorem osame_any (A1 A2 : Option Addr) (n1 n2 c1 c2 : Nat) (a b : List UInt8) (w : World) (h1 : Rd eB w A1 n1 a) (h2 : Rd eB w A2 n2 b) :
    Calls Tryz.prog 55 #[.slice A1 n1 c1, .slice A2 n2 c2] w (RetV w (.bool (sameB a b))) := by
  have HC := Lib.hid (Tryz.bytes_Equal_all A1 A2 n1 c1 n2 c2 (Lib.numsL a) (Lib.numsL b) w (by rw [Lib.numsL_length, h1.len]) (by rw [Lib.numsL_length, h2.len]) h1.bytesIn h2.bytesIn)
  rw [Lib.bytesOf_numsL, Lib.bytesOf_numsL] at HC
  clear h1 h2
  go_enter Tryz.func55, Tryz.ntmps55
  go_wp2_with fail
  refine HC.out.mono ?_
  rintro e w1 ⟨rfl, rfl⟩
  go_wp2
  go_ret
  exact ⟨rfl, Below.refl _ _⟩
end Go.Proofs.Sl
