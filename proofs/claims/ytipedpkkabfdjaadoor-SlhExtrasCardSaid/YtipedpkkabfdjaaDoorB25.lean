/- What slh.Sign hands back, as a value; a set and secrets of which something can be made; a text told, as a value. What comes in, read: a set, secrets, a text told; what the package-level variables hold. -/
import Derived.Test.YtipedpkkabfdjaaDoorB24
import Derived.Test.YtipedpkkabfdjaaDoorB19
import Derived.ProofKit
import Derived.OpenShut
import Derived.LaidMore
import Derived.Lib.SmallJoins
import Derived.Stop.Joined
/- What slh.Sign hands back, as a value; a set and secrets of which something can be made; a text told, as a value. -/
namespace Go.Proofs.Sl
open Go.RowKit Go.Proofs

def SigV (B : Nat) (l : List UInt8) (v : Value) (w : World) : Prop := ∃ A n c, v = .tuple #[.slice A n c, .int .i64 0] ∧ Own eB B w A n c l
theorem SigV.keep (B : Nat) (l : List UInt8) (v : Value) (w w' : World) (h : SigV B l v w) (hg : Grow w w') : SigV B l v w' := by
  obtain ⟨A, n, c, e, ho⟩ := h
  exact ⟨A, n, c, e, ho.below hg⟩
theorem madeI_few {N L H K A : Int} {l1 l2 l3 : List UInt8} {n1 n2 n3 : Nat} (h : madeI N L H K A n1 n2 n3 = true) (e1 : l1.length = n1) (e2 : l2.length = n2) (e3 : l3.length = n3) :
    ∃ f : Few, MadeOk f ⟨l1, l2, l3⟩ ∧ N = f.N ∧ L = f.L ∧ H = f.H ∧ K = f.K ∧ A = f.A := by
  rw [madeI_parts] at h
  simp only [Bool.and_eq_true, decide_eq_true_eq, beq_iff_eq] at h
  obtain ⟨⟨⟨⟨⟨h1, h2⟩, h3⟩, h4⟩, h5⟩, h6⟩ := h
  obtain ⟨f, hf, rfl, rfl, rfl, rfl, rfl⟩ := mayI_few N L H K A h1
  exact ⟨f, ⟨hf, by omega, by omega, by show l1.length = f.N; omega, by show l2.length = f.N; omega, by show l3.length = f.N; omega⟩, rfl, rfl, rfl, rfl, rfl⟩

def vTold (layer tree : Nat) (Ax At : Option Addr) (nx cx nt ct : Nat) : Value := .agg #[.int .u32 (layer : Int), .int .u64 (tree : Int), .slice Ax nx cx, .slice At nt ct]
end Go.Proofs.Sl

/- What comes in, read: a set, secrets, a text told; what the package-level variables hold. -/
namespace Go.Proofs.Sl
open Go Go.ChangeShapes Go.WideShapes Go.RowKit Go.Proofs Go.Joins

section
variable {H : Type} {enc : TypeId × Value → H} {w : World} {held : Bool}

theorem array5 {α : Type} {cs : Array α} (h : cs.size = 5) : ∃ c0 c1 c2 c3 c4, cs = #[c0, c1, c2, c3, c4] := by
  obtain ⟨l⟩ := cs
  match l, h with
  | [c0, c1, c2, c3, c4], _ => exact ⟨c0, c1, c2, c3, c4, rfl⟩
theorem trod_struct5 {P : Program} {base : Nat} {spare : Nat → Bool} {t : TypeId} {f0 f1 f2 f3 f4 : Field} {fuel : Nat} {cs : List Value} {x : DataW H × List MemPlace} (ht : P.underlying t = some (.struct #[f0, f1, f2, f3, f4])) (h : DataW.trod enc P w base spare held fuel t cs = some x) :
    ∃ y0 y1 y2 y3 y4 n, DataW.trod enc P w base spare held n f0.type ((cs.drop f0.offset).take (P.cellsOf f0.type)) = some y0 ∧
      DataW.trod enc P w base spare held n f1.type ((cs.drop f1.offset).take (P.cellsOf f1.type)) = some y1 ∧ DataW.trod enc P w base spare held n f2.type ((cs.drop f2.offset).take (P.cellsOf f2.type)) = some y2 ∧
      DataW.trod enc P w base spare held n f3.type ((cs.drop f3.offset).take (P.cellsOf f3.type)) = some y3 ∧ DataW.trod enc P w base spare held n f4.type ((cs.drop f4.offset).take (P.cellsOf f4.type)) = some y4 := by
  obtain ⟨xs, n, _, rfl, hl, hlen, hf⟩ := DataW.trod_struct ht h
  match xs, hlen with
  | [y0, y1, y2, y3, y4], _ => exact ⟨y0, y1, y2, y3, y4, n, by simpa using hf 0 f0 rfl, by simpa using hf 1 f1 rfl, by simpa using hf 2 f2 rfl, by simpa using hf 3 f3 rfl, by simpa using hf 4 f4 rfl⟩

set_option maxRecDepth 100000 in
theorem few_of {r : Reach} {b0 base : Nat} {v : Value} {d : DataW H} {p : List MemPlace} {spare : Nat → Bool} (hv : Value.okWide Tryd.prog w r b0 23 v) (h : DataW.Trod enc Tryd.prog w base spare held 23 v d p) :
    ∃ N L H K A : Int, v = vFewI N L H K A := by
  obtain ⟨cs, rfl, hsz⟩ := okWide_struct Tryd.underlying23 hv
  obtain ⟨c0, c1, c2, c3, c4, rfl⟩ := array5 (hsz.trans (by kernel_rfl))
  obtain ⟨fuel, hf⟩ := h
  obtain ⟨y0, y1, y2, y3, y4, n, h0, h1, h2, h3, h4⟩ := trod_struct5 Tryd.underlying23 hf
  have hc : Tryd.prog.cellsOf 3 = 1 := by kernel_rfl
  simp only [hc, Value.cells] at h0 h1 h2 h3 h4
  obtain ⟨a0, e0, _⟩ := DataW.trod_int Tryd.underlying3 h0
  obtain ⟨a1, e1, _⟩ := DataW.trod_int Tryd.underlying3 h1
  obtain ⟨a2, e2, _⟩ := DataW.trod_int Tryd.underlying3 h2
  obtain ⟨a3, e3, _⟩ := DataW.trod_int Tryd.underlying3 h3
  obtain ⟨a4, e4, _⟩ := DataW.trod_int Tryd.underlying3 h4
  simp at e0 e1 e2 e3 e4
  subst e0 e1 e2 e3 e4
  exact ⟨_, _, _, _, _, rfl⟩

/-- A slice of bytes that came in: whatever its first bytes are that one may read. -/
structure InB (w : World) (A : Option Addr) (n c : Nat) (l : List UInt8) : Prop where
  len : l.length = n
  nc : n ≤ c
  cm : c ≤ maxLen
  rd : ∀ k, k ≤ n → k ≤ 140737488355328 → Rd eB w A k (l.take k)
theorem InB.all {A : Option Addr} {n c : Nat} {l : List UInt8} (h : InB w A n c l) (hn : n ≤ 140737488355328) : Rd eB w A n l := by
  have := h.rd n (Nat.le_refl _) hn
  rwa [List.take_of_length_le (by rw [h.len]; exact Nat.le_refl _)] at this
theorem bytes_of {n : Nat} {v : Value} {y : DataW H × List MemPlace} (hf : DataW.trod enc Tryd.prog w 0 (fun _ => true) held n 24 [v] = some y) :
    ∃ A n c l, v = .slice A n c ∧ InB w A n c l := by
  rcases open_ints Tryd.underlying24 Tryd.underlying5 (by kernel_rfl) hf with ⟨hcs, _⟩ | ⟨a, len, cap, zs, hcs, _, hl, hm, hz, _, hcell, hwf⟩
  · simp at hcs
    refine ⟨none, 0, 0, [], hcs, rfl, Nat.le_refl _, by simp only [maxLen]; omega, fun k hk _ => ?_⟩
    obtain rfl : k = 0 := by omega
    exact Rd.nil _ _
  · simp at hcs hz
    have hlen : ((zs.take len).map (fun z => UInt8.ofNat z.toNat)).length = len := by rw [List.length_map, List.length_take]; omega
    refine ⟨some a, len, cap, (zs.take len).map (fun z => UInt8.ofNat z.toNat), hcs, hlen, hl, hm, fun k hk hbig => ⟨by rw [List.length_take, hlen]; omega, hbig, fun j hj => ⟨a, rfl, ?_⟩⟩⟩
    have hj2 : j < len := by rw [List.length_take, hlen] at hj; omega
    rw [hcell j (by omega)]
    have hj3 : j < zs.length := by omega
    have hw := hwf zs[j] (List.getElem_mem hj3)
    simp [Lit.wf, IntKind.min, IntKind.max, IntKind.bits, IntKind.signed] at hw
    simp only [List.getElem_map, List.getElem_take]
    rw [List.getD_eq_getElem?_getD, List.getElem?_eq_getElem hj3, Option.getD_some]
    show some (Value.int .u8 zs[j]) = some (Value.int .u8 ((UInt8.ofNat zs[j].toNat).toNat : Int))
    rw [UInt8.toNat_ofNat_of_lt' (by show zs[j].toNat < 256; omega)]
    congr 2
    omega
set_option maxRecDepth 100000 in
theorem slice_of {r : Reach} {b0 : Nat} {v : Value} {d : DataW H} {p : List MemPlace} (hv : Value.okWide Tryd.prog w r b0 24 v) (h : DataW.Trod enc Tryd.prog w 0 (fun _ => true) held 24 v d p) :
    ∃ A n c l, v = .slice A n c ∧ InB w A n c l := by
  obtain ⟨a, n, c, rfl⟩ := okWide_slice Tryd.underlying24 hv
  obtain ⟨fuel, hf⟩ := h
  exact bytes_of (by simpa [Value.cells] using hf)
set_option maxRecDepth 100000 in
theorem sec_of {r : Reach} {b0 : Nat} {v : Value} {d : DataW H} {p : List MemPlace} (hv : Value.okWide Tryd.prog w r b0 37 v) (h : DataW.Trod enc Tryd.prog w 0 (fun _ => true) held 37 v d p) :
    ∃ A1 A2 A3 n1 n2 n3 c1 c2 c3 l1 l2 l3, v = vSec A1 A2 A3 n1 n2 n3 c1 c2 c3 ∧ InB w A1 n1 c1 l1 ∧ InB w A2 n2 c2 l2 ∧ InB w A3 n3 c3 l3 := by
  obtain ⟨v0, v1, v2, y0, y1, y2, n, rfl, _, _, h0, h1, h2⟩ := open_agg3 Tryd.underlying37 (by kernel_rfl) (by kernel_rfl) hv h
  obtain ⟨A1, n1, c1, l1, rfl, i1⟩ := bytes_of h0
  obtain ⟨A2, n2, c2, l2, rfl, i2⟩ := bytes_of h1
  obtain ⟨A3, n3, c3, l3, rfl, i3⟩ := bytes_of h2
  exact ⟨_, _, _, _, _, _, _, _, _, _, _, _, rfl, i1, i2, i3⟩
set_option maxRecDepth 100000 in
theorem told_of {r : Reach} {b0 : Nat} {v : Value} {d : DataW H} {p : List MemPlace} (hv : Value.okWide Tryd.prog w r b0 39 v) (h : DataW.Trod enc Tryd.prog w 0 (fun _ => true) held 39 v d p) :
    ∃ layer tree Ax At nx cx nt ct lx lt, v = vTold layer tree Ax At nx cx nt ct ∧ layer < 4294967296 ∧ W64 tree ∧ InB w Ax nx cx lx ∧ InB w At nt ct lt := by
  obtain ⟨v0, v1, v2, v3, y0, y1, y2, y3, n, rfl, _, _, h0, h1, h2, h3⟩ := open_agg4 Tryd.underlying39 (by kernel_rfl) (by kernel_rfl) hv h
  obtain ⟨A1, n1, c1, l1, rfl, i1⟩ := bytes_of h2
  obtain ⟨A2, n2, c2, l2, rfl, i2⟩ := bytes_of h3
  obtain ⟨a0, e0, _, w0⟩ := DataW.trod_int Tryd.underlying27 h0
  obtain ⟨a1, e1, _, w1⟩ := DataW.trod_int Tryd.underlying26 h1
  simp at e0 e1
  subst e0 e1
  simp [Lit.wf, IntKind.min, IntKind.max, IntKind.bits, IntKind.signed] at w0 w1
  obtain ⟨x0, rfl⟩ : ∃ n : Nat, a0 = n := ⟨a0.toNat, by omega⟩
  obtain ⟨x1, rfl⟩ : ∃ n : Nat, a1 = n := ⟨a1.toNat, by omega⟩
  exact ⟨x0, x1, _, _, _, _, _, _, _, _, rfl, by omega, by unfold W64; omega, i1, i2⟩
end

theorem gRc : Tryd.prog.globalNamed "tearoff/keccak.rc" = some 2 := by kernel_rfl
theorem gTurns : Tryd.prog.globalNamed "tearoff/keccak.turns" = some 1 := by kernel_rfl
theorem tRc : (Tryd.prog.globals[2]?).map (·.type) = some 135 := by kernel_rfl
theorem tTurns : (Tryd.prog.globals[1]?).map (·.type) = some 134 := by kernel_rfl
theorem table_at {k : IntKind} {t e : TypeId} {m fuel : Nat} {w : World} {cs : List Value} {zs : List Nat} {p : List MemPlace} (ht : Tryd.prog.underlying t = some (.array m e)) (he : Tryd.prog.underlying e = some (.int k)) (hc : Tryd.prog.cellsOf e = 1) (hz : zs.length = m)
    (h : DataW.trod (fun _ => ()) Tryd.prog w 0 (fun _ => true) false fuel t cs = some (.agg (zs.map fun (z : Nat) => .lit (.int k (z : Int))), p)) (i : Nat) (hi : i < m) : cs[i]? = some (.int k ((zs.getD i 0 : Nat) : Int)) := by
  obtain ⟨xs, m1, _, hx, _, hn, hel⟩ := DataW.trod_array ht h
  have h0 := hel i hi
  simp only [Prod.mk.injEq, DataW.agg.injEq] at hx
  have hix : i < xs.length := by omega
  rw [hc, Nat.mul_one, List.getElem?_eq_getElem hix] at h0
  obtain ⟨n, e1, e2, _⟩ := DataW.trod_int he h0
  have h3 : (zs.map fun (z : Nat) => (DataW.lit (.int k (z : Int)) : DataW Unit))[i]? = (xs.map (·.1))[i]? := by rw [hx.1]
  have hiz : i < zs.length := by omega
  rw [List.getElem?_map, List.getElem?_map, List.getElem?_eq_getElem hix, List.getElem?_eq_getElem hiz, e2] at h3
  simp at h3
  have h4 : (cs.drop i).take 1 = [.int k n] := e1
  have h5 : ((cs.drop i).take 1)[0]? = some (.int k n) := by rw [h4]; rfl
  rw [List.getElem?_take] at h5
  simp at h5
  rw [h5, List.getD_eq_getElem?_getD, List.getElem?_eq_getElem hiz, Option.getD_some, h3]
theorem laid_of {w : World} (h : laidMetH Tryd.prog [("tearoff/keccak.rc", .agg (rcL.map fun (z : Nat) => .lit (.int .u64 (z : Int)))), ("tearoff/keccak.turns", .agg (turnsL.map fun (z : Nat) => .lit (.int .i64 (z : Int))))] w) : Laid w := by
  rw [MakeChecks.laidMetH_plain _ _ _ (by kernel_rfl)] at h
  obtain ⟨ps, ⟨g0, t0, cs0, f0, p0, q0, hg0, ht0, hv0, hd0, ⟨g1, t1, cs1, f1, p1, q1, hg1, ht1, hv1, hd1, _, _⟩, _⟩, _, _⟩ := h
  obtain rfl := Option.some.inj (gRc.symm.trans hg0)
  obtain rfl := Option.some.inj (gTurns.symm.trans hg1)
  obtain rfl := Option.some.inj (tRc.symm.trans ht0)
  obtain rfl := Option.some.inj (tTurns.symm.trans ht1)
  refine ⟨fun i hi => ?_, fun i hi => ?_⟩
  · rw [World.var?_cell hg1 hv1 i, ← Array.getElem?_toList]
    exact table_at Tryd.underlying134 Tryd.underlying3 (by kernel_rfl) rfl hd1 i hi
  · rw [World.var?_cell hg0 hv0 i, ← Array.getElem?_toList]
    exact table_at Tryd.underlying135 Tryd.underlying26 (by kernel_rfl) rfl hd0 i hi
end Go.Proofs.Sl
