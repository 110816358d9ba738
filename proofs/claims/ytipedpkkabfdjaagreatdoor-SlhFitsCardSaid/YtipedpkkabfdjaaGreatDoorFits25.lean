/- What slh.Sign hands back, as a value; a set and secrets of which something can be made; a text told, as a value. What comes in, read: a set, secrets, a text told; what the package-level variables hold. Whether bytes fit, and where a digest leads, is what the document says: the statement's walk. What comes in, read: a text, and bytes that may be a signature of it. -/
import Derived.Test.YtipedpkkabfdjaaGreatDoorFits24
import Derived.Test.YtipedpkkabfdjaaGreatDoorFits19
import Derived.ProofKit
import Derived.OpenShut
import Derived.LaidMore
import Derived.Lib.SmallJoins
import Derived.Stop.Joined
/- What slh.Sign hands back, as a value; a set and secrets of which something can be made; a text told, as a value. -/
namespace Go.Proofs.Sl
open Go.RowKit Go.Proofs

def SigV (B : Nat) (l : List UInt8) (v : Value) (w : World) : Prop := ∃ A n c, v = .tuple #[.slice A n c, .int .i64 0] ∧ Own eB B w A n c l
theorem SigV.keep (B : Nat) (l : List UInt8) (v : Value) (w w' : World) (h : SigV B l v w) (hg : Grow w w') : SigV B l v w' := by
  obtain ⟨A, n, c, e, ho⟩ := h
  exact ⟨A, n, c, e, ho.below hg⟩
theorem madeI_few {N L H K A : Int} {l1 l2 l3 : List UInt8} {n1 n2 n3 : Nat} (h : madeI N L H K A n1 n2 n3 = true) (e1 : l1.length = n1) (e2 : l2.length = n2) (e3 : l3.length = n3) :
    ∃ f : Few, MadeOk f ⟨l1, l2, l3⟩ ∧ N = f.N ∧ L = f.L ∧ H = f.H ∧ K = f.K ∧ A = f.A := by
  rw [madeI_parts] at h
  simp only [Bool.and_eq_true, decide_eq_true_eq, beq_iff_eq] at h
  obtain ⟨⟨⟨⟨⟨h1, h2⟩, h3⟩, h4⟩, h5⟩, h6⟩ := h
  obtain ⟨f, hf, rfl, rfl, rfl, rfl, rfl⟩ := mayI_few N L H K A h1
  exact ⟨f, ⟨hf, by omega, by omega, by show l1.length = f.N; omega, by show l2.length = f.N; omega, by show l3.length = f.N; omega⟩, rfl, rfl, rfl, rfl, rfl⟩

def vTold (layer tree : Nat) (Ax At : Option Addr) (nx cx nt ct : Nat) : Value := .agg #[.int .u32 (layer : Int), .int .u64 (tree : Int), .slice Ax nx cx, .slice At nt ct]
end Go.Proofs.Sl

/- What comes in, read: a set, secrets, a text told; what the package-level variables hold. -/
namespace Go.Proofs.Sl
open Go Go.ChangeShapes Go.WideShapes Go.RowKit Go.Proofs Go.Joins

section
variable {H : Type} {enc : TypeId × Value → H} {w : World} {held : Bool}

theorem array5 {α : Type} {cs : Array α} (h : cs.size = 5) : ∃ c0 c1 c2 c3 c4, cs = #[c0, c1, c2, c3, c4] := by
  obtain ⟨l⟩ := cs
  match l, h with
  | [c0, c1, c2, c3, c4], _ => exact ⟨c0, c1, c2, c3, c4, rfl⟩
theorem trod_struct5 {P : Program} {base : Nat} {spare : Nat → Bool} {t : TypeId} {f0 f1 f2 f3 f4 : Field} {fuel : Nat} {cs : List Value} {x : DataW H × List MemPlace} (ht : P.underlying t = some (.struct #[f0, f1, f2, f3, f4])) (h : DataW.trod enc P w base spare held fuel t cs = some x) :
    ∃ y0 y1 y2 y3 y4 n, DataW.trod enc P w base spare held n f0.type ((cs.drop f0.offset).take (P.cellsOf f0.type)) = some y0 ∧
      DataW.trod enc P w base spare held n f1.type ((cs.drop f1.offset).take (P.cellsOf f1.type)) = some y1 ∧ DataW.trod enc P w base spare held n f2.type ((cs.drop f2.offset).take (P.cellsOf f2.type)) = some y2 ∧
      DataW.trod enc P w base spare held n f3.type ((cs.drop f3.offset).take (P.cellsOf f3.type)) = some y3 ∧ DataW.trod enc P w base spare held n f4.type ((cs.drop f4.offset).take (P.cellsOf f4.type)) = some y4 := by
  obtain ⟨xs, n, _, rfl, hl, hlen, hf⟩ := DataW.trod_struct ht h
  match xs, hlen with
  | [y0, y1, y2, y3, y4], _ => exact ⟨y0, y1, y2, y3, y4, n, by simpa using hf 0 f0 rfl, by simpa using hf 1 f1 rfl, by simpa using hf 2 f2 rfl, by simpa using hf 3 f3 rfl, by simpa using hf 4 f4 rfl⟩

set_option maxRecDepth 100000 in
theorem few_of {r : Reach} {b0 base : Nat} {v : Value} {d : DataW H} {p : List MemPlace} {spare : Nat → Bool} (hv : Value.okWide Tryz.prog w r b0 23 v) (h : DataW.Trod enc Tryz.prog w base spare held 23 v d p) :
    ∃ N L H K A : Int, v = vFewI N L H K A := by
  obtain ⟨cs, rfl, hsz⟩ := okWide_struct Tryz.underlying23 hv
  obtain ⟨c0, c1, c2, c3, c4, rfl⟩ := array5 (hsz.trans (by kernel_rfl))
  obtain ⟨fuel, hf⟩ := h
  obtain ⟨y0, y1, y2, y3, y4, n, h0, h1, h2, h3, h4⟩ := trod_struct5 Tryz.underlying23 hf
  have hc : Tryz.prog.cellsOf 3 = 1 := by kernel_rfl
  simp only [hc, Value.cells] at h0 h1 h2 h3 h4
  obtain ⟨a0, e0, _⟩ := DataW.trod_int Tryz.underlying3 h0
  obtain ⟨a1, e1, _⟩ := DataW.trod_int Tryz.underlying3 h1
  obtain ⟨a2, e2, _⟩ := DataW.trod_int Tryz.underlying3 h2
  obtain ⟨a3, e3, _⟩ := DataW.trod_int Tryz.underlying3 h3
  obtain ⟨a4, e4, _⟩ := DataW.trod_int Tryz.underlying3 h4
  simp at e0 e1 e2 e3 e4
  subst e0 e1 e2 e3 e4
  exact ⟨_, _, _, _, _, rfl⟩

/-- A slice of bytes that came in: whatever its first bytes are that one may read. -/
structure InB (w : World) (A : Option Addr) (n c : Nat) (l : List UInt8) : Prop where
  len : l.length = n
  nc : n ≤ c
  cm : c ≤ maxLen
  rd : ∀ k, k ≤ n → k ≤ 140737488355328 → Rd eB w A k (l.take k)
theorem InB.all {A : Option Addr} {n c : Nat} {l : List UInt8} (h : InB w A n c l) (hn : n ≤ 140737488355328) : Rd eB w A n l := by
  have := h.rd n (Nat.le_refl _) hn
  rwa [List.take_of_length_le (by rw [h.len]; exact Nat.le_refl _)] at this
theorem bytes_of {n : Nat} {v : Value} {y : DataW H × List MemPlace} (hf : DataW.trod enc Tryz.prog w 0 (fun _ => true) held n 24 [v] = some y) :
    ∃ A n c l, v = .slice A n c ∧ InB w A n c l := by
  rcases open_ints Tryz.underlying24 Tryz.underlying5 (by kernel_rfl) hf with ⟨hcs, _⟩ | ⟨a, len, cap, zs, hcs, _, hl, hm, hz, _, hcell, hwf⟩
  · simp at hcs
    refine ⟨none, 0, 0, [], hcs, rfl, Nat.le_refl _, by simp only [maxLen]; omega, fun k hk _ => ?_⟩
    obtain rfl : k = 0 := by omega
    exact Rd.nil _ _
  · simp at hcs hz
    have hlen : ((zs.take len).map (fun z => UInt8.ofNat z.toNat)).length = len := by rw [List.length_map, List.length_take]; omega
    refine ⟨some a, len, cap, (zs.take len).map (fun z => UInt8.ofNat z.toNat), hcs, hlen, hl, hm, fun k hk hbig => ⟨by rw [List.length_take, hlen]; omega, hbig, fun j hj => ⟨a, rfl, ?_⟩⟩⟩
    have hj2 : j < len := by rw [List.length_take, hlen] at hj; omega
    rw [hcell j (by omega)]
    have hj3 : j < zs.length := by omega
    have hw := hwf zs[j] (List.getElem_mem hj3)
    simp [Lit.wf, IntKind.min, IntKind.max, IntKind.bits, IntKind.signed] at hw
    simp only [List.getElem_map, List.getElem_take]
    rw [List.getD_eq_getElem?_getD, List.getElem?_eq_getElem hj3, Option.getD_some]
    show some (Value.int .u8 zs[j]) = some (Value.int .u8 ((UInt8.ofNat zs[j].toNat).toNat : Int))
    rw [UInt8.toNat_ofNat_of_lt' (by show zs[j].toNat < 256; omega)]
    congr 2
    omega
set_option maxRecDepth 100000 in
theorem slice_of {r : Reach} {b0 : Nat} {v : Value} {d : DataW H} {p : List MemPlace} (hv : Value.okWide Tryz.prog w r b0 24 v) (h : DataW.Trod enc Tryz.prog w 0 (fun _ => true) held 24 v d p) :
    ∃ A n c l, v = .slice A n c ∧ InB w A n c l := by
  obtain ⟨a, n, c, rfl⟩ := okWide_slice Tryz.underlying24 hv
  obtain ⟨fuel, hf⟩ := h
  exact bytes_of (by simpa [Value.cells] using hf)
set_option maxRecDepth 100000 in
theorem sec_of {r : Reach} {b0 : Nat} {v : Value} {d : DataW H} {p : List MemPlace} (hv : Value.okWide Tryz.prog w r b0 26 v) (h : DataW.Trod enc Tryz.prog w 0 (fun _ => true) held 26 v d p) :
    ∃ A1 A2 A3 n1 n2 n3 c1 c2 c3 l1 l2 l3, v = vSec A1 A2 A3 n1 n2 n3 c1 c2 c3 ∧ InB w A1 n1 c1 l1 ∧ InB w A2 n2 c2 l2 ∧ InB w A3 n3 c3 l3 := by
  obtain ⟨v0, v1, v2, y0, y1, y2, n, rfl, _, _, h0, h1, h2⟩ := open_agg3 Tryz.underlying26 (by kernel_rfl) (by kernel_rfl) hv h
  obtain ⟨A1, n1, c1, l1, rfl, i1⟩ := bytes_of h0
  obtain ⟨A2, n2, c2, l2, rfl, i2⟩ := bytes_of h1
  obtain ⟨A3, n3, c3, l3, rfl, i3⟩ := bytes_of h2
  exact ⟨_, _, _, _, _, _, _, _, _, _, _, _, rfl, i1, i2, i3⟩
set_option maxRecDepth 100000 in
theorem told_of {r : Reach} {b0 : Nat} {v : Value} {d : DataW H} {p : List MemPlace} (hv : Value.okWide Tryz.prog w r b0 30 v) (h : DataW.Trod enc Tryz.prog w 0 (fun _ => true) held 30 v d p) :
    ∃ layer tree Ax At nx cx nt ct lx lt, v = vTold layer tree Ax At nx cx nt ct ∧ layer < 4294967296 ∧ W64 tree ∧ InB w Ax nx cx lx ∧ InB w At nt ct lt := by
  obtain ⟨v0, v1, v2, v3, y0, y1, y2, y3, n, rfl, _, _, h0, h1, h2, h3⟩ := open_agg4 Tryz.underlying30 (by kernel_rfl) (by kernel_rfl) hv h
  obtain ⟨A1, n1, c1, l1, rfl, i1⟩ := bytes_of h2
  obtain ⟨A2, n2, c2, l2, rfl, i2⟩ := bytes_of h3
  obtain ⟨a0, e0, _, w0⟩ := DataW.trod_int Tryz.underlying27 h0
  obtain ⟨a1, e1, _, w1⟩ := DataW.trod_int Tryz.underlying28 h1
  simp at e0 e1
  subst e0 e1
  simp [Lit.wf, IntKind.min, IntKind.max, IntKind.bits, IntKind.signed] at w0 w1
  obtain ⟨x0, rfl⟩ : ∃ n : Nat, a0 = n := ⟨a0.toNat, by omega⟩
  obtain ⟨x1, rfl⟩ : ∃ n : Nat, a1 = n := ⟨a1.toNat, by omega⟩
  exact ⟨x0, x1, _, _, _, _, _, _, _, _, rfl, by omega, by unfold W64; omega, i1, i2⟩
end

theorem gRc : Tryz.prog.globalNamed "tearoff/keccak.rc" = some 2 := by kernel_rfl
theorem gTurns : Tryz.prog.globalNamed "tearoff/keccak.turns" = some 1 := by kernel_rfl
theorem tRc : (Tryz.prog.globals[2]?).map (·.type) = some 98 := by kernel_rfl
theorem tTurns : (Tryz.prog.globals[1]?).map (·.type) = some 146 := by kernel_rfl
theorem table_at {k : IntKind} {t e : TypeId} {m fuel : Nat} {w : World} {cs : List Value} {zs : List Nat} {p : List MemPlace} (ht : Tryz.prog.underlying t = some (.array m e)) (he : Tryz.prog.underlying e = some (.int k)) (hc : Tryz.prog.cellsOf e = 1) (hz : zs.length = m)
    (h : DataW.trod (fun _ => ()) Tryz.prog w 0 (fun _ => true) false fuel t cs = some (.agg (zs.map fun (z : Nat) => .lit (.int k (z : Int))), p)) (i : Nat) (hi : i < m) : cs[i]? = some (.int k ((zs.getD i 0 : Nat) : Int)) := by
  obtain ⟨xs, m1, _, hx, _, hn, hel⟩ := DataW.trod_array ht h
  have h0 := hel i hi
  simp only [Prod.mk.injEq, DataW.agg.injEq] at hx
  have hix : i < xs.length := by omega
  rw [hc, Nat.mul_one, List.getElem?_eq_getElem hix] at h0
  obtain ⟨n, e1, e2, _⟩ := DataW.trod_int he h0
  have h3 : (zs.map fun (z : Nat) => (DataW.lit (.int k (z : Int)) : DataW Unit))[i]? = (xs.map (·.1))[i]? := by rw [hx.1]
  have hiz : i < zs.length := by omega
  rw [List.getElem?_map, List.getElem?_map, List.getElem?_eq_getElem hix, List.getElem?_eq_getElem hiz, e2] at h3
  simp at h3
  have h4 : (cs.drop i).take 1 = [.int k n] := e1
  have h5 : ((cs.drop i).take 1)[0]? = some (.int k n) := by rw [h4]; rfl
  rw [List.getElem?_take] at h5
  simp at h5
  rw [h5, List.getD_eq_getElem?_getD, List.getElem?_eq_getElem hiz, Option.getD_some, h3]
theorem laid_of {w : World} (h : laidMetH Tryz.prog [("tearoff/keccak.rc", .agg (rcL.map fun (z : Nat) => .lit (.int .u64 (z : Int)))), ("tearoff/keccak.turns", .agg (turnsL.map fun (z : Nat) => .lit (.int .i64 (z : Int))))] w) : Laid w := by
  rw [MakeChecks.laidMetH_plain _ _ _ (by kernel_rfl)] at h
  obtain ⟨ps, ⟨g0, t0, cs0, f0, p0, q0, hg0, ht0, hv0, hd0, ⟨g1, t1, cs1, f1, p1, q1, hg1, ht1, hv1, hd1, _, _⟩, _⟩, _, _⟩ := h
  obtain rfl := Option.some.inj (gRc.symm.trans hg0)
  obtain rfl := Option.some.inj (gTurns.symm.trans hg1)
  obtain rfl := Option.some.inj (tRc.symm.trans ht0)
  obtain rfl := Option.some.inj (tTurns.symm.trans ht1)
  refine ⟨fun i hi => ?_, fun i hi => ?_⟩
  · rw [World.var?_cell hg1 hv1 i, ← Array.getElem?_toList]
    exact table_at Tryz.underlying146 Tryz.underlying3 (by kernel_rfl) rfl hd1 i hi
  · rw [World.var?_cell hg0 hv0 i, ← Array.getElem?_toList]
    exact table_at Tryz.underlying98 Tryz.underlying28 (by kernel_rfl) rfl hd0 i hi
end Go.Proofs.Sl

/- Whether bytes fit, and where a digest leads, is what the document says: the statement's walk. -/
namespace Go.Proofs.Sl
open Go.RowKit Go.Proofs

def vSigned (At As : Option Addr) (nt ct ns cs : Nat) : Value := .agg #[.slice At nt ct, .slice As ns cs]

set_option maxHeartbeats 4000000 in
theorem fitlaw_out (N L H K A : Int) (Ap At As : Option Addr) (np cp nt ct ns cs : Nat) (w : World) (hL : Laid w) (h : 200 < np ∨ 2000 < nt ∨ 60000 < ns) :
    Calls Tryz.prog 4 #[vFewI N L H K A, .slice Ap np cp, vSigned At As nt ct ns cs] w (RetV w (.bool true)) := by
  have HAW := Lib.hid awake_any
  have HL := Lib.hid hL
  clear hL
  unfold vFewI vSigned at *
  by_cases h3 : 200 < np
  · clear h
    go_enter Tryz.func4, Tryz.ntmps4
    go_wp2_with fail
    refine (HAW.out _ (HL.out.below (((Below.refl _ w).alloc (Nat.le_refl _) _).alloc (by simp) _))).mono ?_
    rintro e w1 ⟨rfl, hB⟩
    have q0 : w1.cell? ⟨w.heap.size, 0, none⟩ = some (.int .i64 N) := (hB.cell (by simp; try omega)).trans (by go_simp)
    have q1 : w1.cell? ⟨w.heap.size, 1, none⟩ = some (.int .i64 L) := (hB.cell (by simp; try omega)).trans (by go_simp)
    have q2 : w1.cell? ⟨w.heap.size, 2, none⟩ = some (.int .i64 H) := (hB.cell (by simp; try omega)).trans (by go_simp)
    have q3 : w1.cell? ⟨w.heap.size, 3, none⟩ = some (.int .i64 K) := (hB.cell (by simp; try omega)).trans (by go_simp)
    have q4 : w1.cell? ⟨w.heap.size, 4, none⟩ = some (.int .i64 A) := (hB.cell (by simp; try omega)).trans (by go_simp)
    have q5 : w1.cell? ⟨w.heap.size + 1, 0, none⟩ = some (.slice At nt ct) := (hB.cell (by simp; try omega)).trans (by go_simp)
    have q6 : w1.cell? ⟨w.heap.size + 1, 1, none⟩ = some (.slice As ns cs) := (hB.cell (by simp; try omega)).trans (by go_simp)
    have G1 : Hid (Below w.heap.size w w1) := Lib.hid ((((Below.refl _ w).alloc (Nat.le_refl _) _).alloc (by simp) _).trans (hB.mono (by simp; omega)))
    clear hB
    go_wp2_with fail
    go_ret
    exact ⟨rfl, G1.out⟩
  · skip
    by_cases h4 : 2000 < nt
    · clear h
      go_enter Tryz.func4, Tryz.ntmps4
      go_wp2_with fail
      refine (HAW.out _ (HL.out.below (((Below.refl _ w).alloc (Nat.le_refl _) _).alloc (by simp) _))).mono ?_
      rintro e w1 ⟨rfl, hB⟩
      have q0 : w1.cell? ⟨w.heap.size, 0, none⟩ = some (.int .i64 N) := (hB.cell (by simp; try omega)).trans (by go_simp)
      have q1 : w1.cell? ⟨w.heap.size, 1, none⟩ = some (.int .i64 L) := (hB.cell (by simp; try omega)).trans (by go_simp)
      have q2 : w1.cell? ⟨w.heap.size, 2, none⟩ = some (.int .i64 H) := (hB.cell (by simp; try omega)).trans (by go_simp)
      have q3 : w1.cell? ⟨w.heap.size, 3, none⟩ = some (.int .i64 K) := (hB.cell (by simp; try omega)).trans (by go_simp)
      have q4 : w1.cell? ⟨w.heap.size, 4, none⟩ = some (.int .i64 A) := (hB.cell (by simp; try omega)).trans (by go_simp)
      have q5 : w1.cell? ⟨w.heap.size + 1, 0, none⟩ = some (.slice At nt ct) := (hB.cell (by simp; try omega)).trans (by go_simp)
      have q6 : w1.cell? ⟨w.heap.size + 1, 1, none⟩ = some (.slice As ns cs) := (hB.cell (by simp; try omega)).trans (by go_simp)
      have G1 : Hid (Below w.heap.size w w1) := Lib.hid ((((Below.refl _ w).alloc (Nat.le_refl _) _).alloc (by simp) _).trans (hB.mono (by simp; omega)))
      clear hB
      go_wp2_with fail
      go_ret
      exact ⟨rfl, G1.out⟩
    · skip
      by_cases h5 : 60000 < ns
      · clear h
        go_enter Tryz.func4, Tryz.ntmps4
        go_wp2_with fail
        refine (HAW.out _ (HL.out.below (((Below.refl _ w).alloc (Nat.le_refl _) _).alloc (by simp) _))).mono ?_
        rintro e w1 ⟨rfl, hB⟩
        have q0 : w1.cell? ⟨w.heap.size, 0, none⟩ = some (.int .i64 N) := (hB.cell (by simp; try omega)).trans (by go_simp)
        have q1 : w1.cell? ⟨w.heap.size, 1, none⟩ = some (.int .i64 L) := (hB.cell (by simp; try omega)).trans (by go_simp)
        have q2 : w1.cell? ⟨w.heap.size, 2, none⟩ = some (.int .i64 H) := (hB.cell (by simp; try omega)).trans (by go_simp)
        have q3 : w1.cell? ⟨w.heap.size, 3, none⟩ = some (.int .i64 K) := (hB.cell (by simp; try omega)).trans (by go_simp)
        have q4 : w1.cell? ⟨w.heap.size, 4, none⟩ = some (.int .i64 A) := (hB.cell (by simp; try omega)).trans (by go_simp)
        have q5 : w1.cell? ⟨w.heap.size + 1, 0, none⟩ = some (.slice At nt ct) := (hB.cell (by simp; try omega)).trans (by go_simp)
        have q6 : w1.cell? ⟨w.heap.size + 1, 1, none⟩ = some (.slice As ns cs) := (hB.cell (by simp; try omega)).trans (by go_simp)
        have G1 : Hid (Below w.heap.size w w1) := Lib.hid ((((Below.refl _ w).alloc (Nat.le_refl _) _).alloc (by simp) _).trans (hB.mono (by simp; omega)))
        clear hB
        go_wp2_with fail
        go_ret
        exact ⟨rfl, G1.out⟩
      · skip
        exfalso
        omega

set_option maxRecDepth 8000 in
set_option maxHeartbeats 8000000 in
theorem fitlaw_in (N L H K A : Int) (Ap At As : Option Addr) (np cp nt ct ns cs : Nat) (w : World) (hL : Laid w) (h3 : np ≤ 200) (h4 : nt ≤ 2000) (h5 : ns ≤ 60000) (t q : Nat) (ok b : Bool)
    (hwa : ∀ W, Below w.heap.size w W → Calls Tryz.prog 19 #[vFewI N L H K A, .slice At nt ct] W (RetV W (.tuple #[.int .u64 (t : Int), .int .u32 (q : Int), .bool ok])))
    (hwb : ∀ W, Below w.heap.size w W → Calls Tryz.prog 20 #[vFewI N L H K A, .slice At nt ct] W (RetV W (.tuple #[.int .u64 (t : Int), .int .u32 (q : Int), .bool ok])))
    (hfa : ∀ W, Below w.heap.size w W → Calls Tryz.prog 21 #[vFewI N L H K A, .slice Ap np cp, .slice At nt ct, .slice As ns cs] W (RetV W (.bool b)))
    (hfb : ∀ W, Below w.heap.size w W → Calls Tryz.prog 22 #[vFewI N L H K A, .slice Ap np cp, .slice At nt ct, .slice As ns cs] W (RetV W (.bool b))) :
    Calls Tryz.prog 4 #[vFewI N L H K A, .slice Ap np cp, vSigned At As nt ct ns cs] w (RetV w (.bool true)) := by
  have HAW := Lib.hid awake_any
  have HL := Lib.hid hL
  have HWA := Lib.hid hwa
  have HWB := Lib.hid hwb
  have HFA := Lib.hid hfa
  have HFB := Lib.hid hfb
  clear hL hwa hwb hfa hfb
  unfold vFewI vSigned at *
  go_enter Tryz.func4, Tryz.ntmps4
  go_wp2_with fail
  refine (HAW.out _ (HL.out.below (((Below.refl _ w).alloc (Nat.le_refl _) _).alloc (by simp) _))).mono ?_
  rintro e w1 ⟨rfl, hB⟩
  have q0 : w1.cell? ⟨w.heap.size, 0, none⟩ = some (.int .i64 N) := (hB.cell (by simp; try omega)).trans (by go_simp)
  have q1 : w1.cell? ⟨w.heap.size, 1, none⟩ = some (.int .i64 L) := (hB.cell (by simp; try omega)).trans (by go_simp)
  have q2 : w1.cell? ⟨w.heap.size, 2, none⟩ = some (.int .i64 H) := (hB.cell (by simp; try omega)).trans (by go_simp)
  have q3 : w1.cell? ⟨w.heap.size, 3, none⟩ = some (.int .i64 K) := (hB.cell (by simp; try omega)).trans (by go_simp)
  have q4 : w1.cell? ⟨w.heap.size, 4, none⟩ = some (.int .i64 A) := (hB.cell (by simp; try omega)).trans (by go_simp)
  have q5 : w1.cell? ⟨w.heap.size + 1, 0, none⟩ = some (.slice At nt ct) := (hB.cell (by simp; try omega)).trans (by go_simp)
  have q6 : w1.cell? ⟨w.heap.size + 1, 1, none⟩ = some (.slice As ns cs) := (hB.cell (by simp; try omega)).trans (by go_simp)
  have G1 : Hid (Below w.heap.size w w1) := Lib.hid ((((Below.refl _ w).alloc (Nat.le_refl _) _).alloc (by simp) _).trans (hB.mono (by simp; omega)))
  clear hB
  go_wp2_with fail
  refine (HWA.out w1 G1.out).mono ?_
  rintro e w2 ⟨rfl, g2⟩
  have G2 : Hid (Below w.heap.size w w2) := Lib.hid (G1.out.trans (Below.mono g2 G1.out.size))
  have r0 := cell_old g2 q0
  have r1 := cell_old g2 q1
  have r2 := cell_old g2 q2
  have r3 := cell_old g2 q3
  have r4 := cell_old g2 q4
  have r5 := cell_old g2 q5
  have r6 := cell_old g2 q6
  clear g2 G1 q0 q1 q2 q3 q4 q5 q6
  go_wp2_with fail
  refine (HWB.out w2 G2.out).mono ?_
  rintro e w3 ⟨rfl, g3⟩
  have HG : Hid (Below w.heap.size w w3.drew) := Lib.hid (G2.out.trans (Below.mono g3 G2.out.size)).drew
  have k0 : w3.drew.cell? ⟨w.heap.size, 0, none⟩ = some (.int .i64 N) := cell_old g3 r0
  have k1 : w3.drew.cell? ⟨w.heap.size, 1, none⟩ = some (.int .i64 L) := cell_old g3 r1
  have k2 : w3.drew.cell? ⟨w.heap.size, 2, none⟩ = some (.int .i64 H) := cell_old g3 r2
  have k3 : w3.drew.cell? ⟨w.heap.size, 3, none⟩ = some (.int .i64 K) := cell_old g3 r3
  have k4 : w3.drew.cell? ⟨w.heap.size, 4, none⟩ = some (.int .i64 A) := cell_old g3 r4
  have k5 : w3.drew.cell? ⟨w.heap.size + 1, 0, none⟩ = some (.slice At nt ct) := cell_old g3 r5
  have k6 : w3.drew.cell? ⟨w.heap.size + 1, 1, none⟩ = some (.slice As ns cs) := cell_old g3 r6
  clear g3 G2 r0 r1 r2 r3 r4 r5 r6
  go_wp2_with fail
  refine wp_region_rg Grow 76 31 16 [[], [], [], [], [], [], [], [], [], [], [], [], [], [], [], [], [], [], [], [], [], [], [], [], [], [], [], [], [], [], []]
    [.still [] (.agg #[.int .i64 N, .int .i64 L, .int .i64 H, .int .i64 K, .int .i64 A]), .still [] (.slice Ap np cp), .still [] (.pointer (some ⟨w.heap.size + 1, 0, none⟩)), .still [] (.slice At nt ct), .still [] (.pointer (some ⟨w.heap.size + 1, 1, none⟩)), .still [] (.slice As ns cs), .still [] (.bool b), .still [] (.agg #[.int .i64 N, .int .i64 L, .int .i64 H, .int .i64 K, .int .i64 A]), .still [] (.slice Ap np cp), .still [] (.pointer (some ⟨w.heap.size + 1, 0, none⟩)), .still [] (.slice At nt ct), .still [] (.pointer (some ⟨w.heap.size + 1, 1, none⟩)), .still [] (.slice As ns cs), .still [] (.bool b), .still [] (.bool true), .still [] (.bool true), .still [] (.int .u64 (t : Int)), .still [] (.int .u64 (t : Int)), .still [] (.bool true), .still [] (.bool true), .still [] (.bool true), .still [] (.int .u32 (q : Int)), .still [] (.int .u32 (q : Int)), .still [] (.bool true), .still [] (.bool true), .still [] (.bool true), .still [] (.bool ok), .still [] (.bool ok), .still [] (.bool true), .still [] (.bool true), .still [] (.bool true)] (by kernel_rfl) (by kernel_rfl) rfl rfl rfl Grow.trans (Grow.refl _) ?_
  iterate 6
    refine Obl.still (fun W hg _ => ?_) ?_
    · have c0 := cell_old hg k0; have c1 := cell_old hg k1; have c2 := cell_old hg k2; have c3 := cell_old hg k3; have c4 := cell_old hg k4; have c5 := cell_old hg k5; have c6 := cell_old hg k6; clear hg k0 k1 k2 k3 k4 k5 k6
      go_wp2
      exact ⟨rfl, rfl, rfl, Grow.refl _⟩
    simp only [Act.put, List.setIfInBounds_toArray, List.set_cons_zero, List.set_cons_succ]
  refine Obl.still (fun W hg _ => ?_) ?_
  · have HC := Lib.hid (HFA.out W (Below.trans HG.out (Below.mono hg HG.out.size)))
    clear hg k0 k1 k2 k3 k4 k5 k6
    go_wp2_with fail
    refine (HC.out).mono ?_
    rintro e w' ⟨rfl, hB⟩
    have hG : Grow W w' := hB
    clear hB
    go_wp2
    exact ⟨rfl, rfl, rfl, hG⟩
  simp only [Act.put, List.setIfInBounds_toArray, List.set_cons_zero, List.set_cons_succ]
  iterate 6
    refine Obl.still (fun W hg _ => ?_) ?_
    · have c0 := cell_old hg k0; have c1 := cell_old hg k1; have c2 := cell_old hg k2; have c3 := cell_old hg k3; have c4 := cell_old hg k4; have c5 := cell_old hg k5; have c6 := cell_old hg k6; clear hg k0 k1 k2 k3 k4 k5 k6
      go_wp2
      exact ⟨rfl, rfl, rfl, Grow.refl _⟩
    simp only [Act.put, List.setIfInBounds_toArray, List.set_cons_zero, List.set_cons_succ]
  refine Obl.still (fun W hg _ => ?_) ?_
  · have HC := Lib.hid (HFB.out W (Below.trans HG.out (Below.mono hg HG.out.size)))
    clear hg k0 k1 k2 k3 k4 k5 k6
    go_wp2_with fail
    refine (HC.out).mono ?_
    rintro e w' ⟨rfl, hB⟩
    have hG : Grow W w' := hB
    clear hB
    go_wp2
    exact ⟨rfl, rfl, rfl, hG⟩
  simp only [Act.put, List.setIfInBounds_toArray, List.set_cons_zero, List.set_cons_succ]
  iterate 17
    refine Obl.still (fun W hg _ => ?_) ?_
    · have c0 := cell_old hg k0; have c1 := cell_old hg k1; have c2 := cell_old hg k2; have c3 := cell_old hg k3; have c4 := cell_old hg k4; have c5 := cell_old hg k5; have c6 := cell_old hg k6; clear hg k0 k1 k2 k3 k4 k5 k6
      go_wp2
      exact ⟨rfl, rfl, rfl, Grow.refl _⟩
    simp only [Act.put, List.setIfInBounds_toArray, List.set_cons_zero, List.set_cons_succ]
  refine Obl.done (fun W hg hall => ?_)
  have hB := Below.trans HG.out (Below.mono hg HG.out.size)
  clear hg k0 k1 k2 k3 k4 k5 k6 hall
  go_wp2
  go_ret
  exact ⟨rfl, hB⟩

end Go.Proofs.Sl

/- What comes in, read: a text, and bytes that may be a signature of it. -/
namespace Go.Proofs.Sl
open Go Go.ChangeShapes Go.WideShapes Go.RowKit Go.Proofs Go.Joins

set_option maxRecDepth 100000 in
theorem signed_of {H : Type} {enc : TypeId × Value → H} {w : World} {held : Bool} {r : Reach} {b0 : Nat} {v : Value} {d : DataW H} {p : List MemPlace} (hv : Value.okWide Tryz.prog w r b0 42 v) (h : DataW.Trod enc Tryz.prog w 0 (fun _ => true) held 42 v d p) :
    ∃ At As nt ct ns cs lt ls, v = vSigned At As nt ct ns cs ∧ InB w At nt ct lt ∧ InB w As ns cs ls := by
  obtain ⟨v0, v1, y0, y1, n, rfl, _, _, h0, h1⟩ := open_agg2 Tryz.underlying42 (by kernel_rfl) (by kernel_rfl) hv h
  obtain ⟨A1, n1, c1, l1, rfl, i1⟩ := bytes_of h0
  obtain ⟨A2, n2, c2, l2, rfl, i2⟩ := bytes_of h1
  exact ⟨_, _, _, _, _, _, _, _, rfl, i1, i2⟩
end Go.Proofs.Sl
