/- The statement SlhExtras holds of every input: the same extra and text give the same signature; the text of another extra's signature fits, too. Its tied card: the tables of Keccak lie as the program's text lays them. -/
import Derived.Test.YtipedpkkabfdjaaDoorB25
import Derived.Test.YtipedpkkabfdjaaDoorBLaw5
import Derived.Test.YtipedpkkabfdjaaDoorRows
import Derived.Test.YtipedpkkabfdjaaDoorCards
import Derived.Test.YtipedpkkabfdjaaDoorTie
import Derived.ChangeOld
import Derived.ShutString
import Derived.SevenTiedAt
namespace Go.Proofs.Sl
open Go Go.ChangeShapes Go.WideShapes Go.RowKit Go.Proofs

theorem extras_any (N L H K A : Int) (A1 A2 A3 Ax At : Option Addr) (n1 n2 n3 c1 c2 c3 nx cx nt ct layer tree : Nat) (l1 l2 l3 lx lt : List UInt8) (w : World) (hL : Laid w)
    (i1 : InB w A1 n1 c1 l1) (i2 : InB w A2 n2 c2 l2) (i3 : InB w A3 n3 c3 l3) (ix : InB w Ax nx cx lx) (it : InB w At nt ct lt) :
    Calls Tryd.prog 4 #[vFewI N L H K A, vSec A1 A2 A3 n1 n2 n3 c1 c2 c3, vTold layer tree Ax At nx cx nt ct] w (RetV w (.bool true)) := by
  cases hl : lightI N L H K A
  · exact extras_out N L H K A A1 A2 A3 Ax At n1 n2 n3 c1 c2 c3 nx cx nt ct layer tree w hL (.inl hl)
  cases hm : madeI N L H K A n1 n2 n3
  · exact extras_out N L H K A A1 A2 A3 Ax At n1 n2 n3 c1 c2 c3 nx cx nt ct layer tree w hL (.inr (.inl hm))
  by_cases h3 : 1000 < nt
  · exact extras_out N L H K A A1 A2 A3 Ax At n1 n2 n3 c1 c2 c3 nx cx nt ct layer tree w hL (.inr (.inr (.inl h3)))
  by_cases h4 : (nx : Int) < N
  · exact extras_out N L H K A A1 A2 A3 Ax At n1 n2 n3 c1 c2 c3 nx cx nt ct layer tree w hL (.inr (.inr (.inr h4)))
  obtain ⟨f, hok, rfl, rfl, rfl, rfl, rfl⟩ := madeI_few hm i1.len i2.len i3.len
  have hN := hok.ok.N.le'
  have e1 := i1.len; have e2 := i2.len; have e3 := i3.len
  have s1 : l1.length = f.N := hok.secret
  have s2 : l2.length = f.N := hok.salt
  have s3 : l3.length = f.N := hok.seed
  exact extras_in f ⟨l1, l2, l3⟩ A1 A2 A3 Ax At n1 n2 n3 c1 c2 c3 nx cx nt ct layer tree (lx.take f.N) lt w ⟨hL, hok, i1.all (by omega), i2.all (by omega), i3.all (by omega)⟩ hl (ix.rd f.N (by omega) (by omega)) (by omega) ix.nc (it.all (by omega)) (by omega)
end Go.Proofs.Sl

namespace Go.Proofs.YtipedpkkabfdjaaDoor
open Go Go.ChangeShapes Go.WideShapes Go.ChangeAt Go.RowKit Go.Proofs.Sl
set_option linter.unusedVariables false

theorem own : ownKnob Tryd.prog.godebug = none := by kernel_rfl
theorem laidOut : laidOutB Tryd.prog = true := by kernel_rfl
def laid2 : List (String × DataW Unit) := [("tearoff/keccak.rc", Rows.laid_tearoff_keccak_rc), ("tearoff/keccak.turns", Rows.laid_tearoff_keccak_turns)]
theorem door_met (os : Os) (args : Array Value) : laidMetH Tryd.prog laid2 ((World.doorLaid Tryd.prog 19 os).forCall (fun _ _ => 0) ⟨#[], args, []⟩).memory :=
  laidMetH_of_parts3 (fuel := 8) (laidMet_of_run' 8 (by kernel_rfl) (by kernel_rfl)) (by kernel_rfl) (by kernel_rfl)
theorem laid2_of {W : World} (h : laidMetH Tryd.prog laid2 W) : Laid W := laid_of h

set_option maxRecDepth 100000 in
theorem lifted (os : Os) (started : os.Started) (H : Type) (enc : TypeId × Value → H) :
    ReturnsInHanded {} Tryd.checked os 4 .any (fun w args => (Rows.slhExtrasSpec.pre enc Tryd.prog Tryd.f4 [] false w args ∧ laidMetH Tryd.prog laid2 w) ∧ sizedMet enc Tryd.prog Tryd.f4 (OpenSpec.ofChange Rows.slhExtrasSpec) false w args)
      (Rows.slhExtrasSpec.post enc Tryd.prog Tryd.f4 false true false false) := by
  refine returnsInHanded_of_change_and (C := Tryd.checked) (X := fun w _ => laidMetH Tryd.prog laid2 w) (fun _ _ _ hh h => h.of_heap hh) own started (by kernel_rfl) Tryd.func4
    (ChangeSpec.witness_shaped (enc := enc) (C := Tryd.checked) (os := os) (X := fun w _ => laidMetH Tryd.prog laid2 w) false (World.doorLaid Tryd.prog 19 os) #[.agg #[.int .i64 0, .int .i64 0, .int .i64 0, .int .i64 0, .int .i64 0], .agg #[.slice none 0 0, .slice none 0 0, .slice none 0 0], .agg #[.int .u32 0, .int .u64 0, .slice none 0 0, .slice none 0 0]] 8 rfl (World.shaped_of_RefB (by kernel_rfl) (by kernel_rfl)) (by kernel_rfl) (by kernel_rfl) (by kernel_rfl) (door_met os _)) ?_
  intro W base args ds gs before hval0 hW _ _ hL _
  have hval : ∀ (j : Nat) t v, Tryd.f4.params[j]? = some t → args[j]? = some v → Value.okWide Tryd.prog W .any base t v := hval0
  have hW' := hW
  obtain ⟨p, q, hA0, hV, rfl, hfz, hnd⟩ := hW
  have hA : DataW.TrodAll enc Tryd.prog W 0 (fun _ => true) true Tryd.f4.params.toList args.toList ds p := hA0
  rw [Tryd.params4] at hA hval
  obtain ⟨v0, vs0, d0, ds0, p0, q0, hargs, rfl, rfl, h0, r0⟩ := trodAll_cons hA
  obtain ⟨v1, vs1, d1, ds1, p1, q1, rfl, rfl, rfl, h1, r1⟩ := trodAll_cons r0
  obtain ⟨v2, vs2, d2, ds2, p2, q2, rfl, rfl, rfl, h2, r2⟩ := trodAll_cons r1
  obtain ⟨rfl, rfl, rfl⟩ := trodAll_nil r2
  obtain rfl : args = #[v0, v1, v2] := by cases args; simp_all
  obtain ⟨rfl, rfl⟩ := trodVars_none hV
  have lt0 : ∀ x ∈ p0, x.block < W.heap.size := by obtain ⟨m, hm⟩ := h0; exact DataW.trod_lt m _ _ _ hm
  have lt1 : ∀ x ∈ p1, x.block < W.heap.size := by obtain ⟨m, hm⟩ := h1; exact DataW.trod_lt m _ _ _ hm
  have lt2 : ∀ x ∈ p2, x.block < W.heap.size := by obtain ⟨m, hm⟩ := h2; exact DataW.trod_lt m _ _ _ hm
  obtain ⟨N, L, Hh, K, A, rfl⟩ := few_of (hval 0 23 v0 rfl rfl) h0
  obtain ⟨A1, A2, A3, n1, n2, n3, c1, c2, c3, l1, l2, l3, rfl, i1, i2, i3⟩ := sec_of (hval 1 37 v1 rfl rfl) h1
  obtain ⟨layer, tree, Ax, At, nx, cx, nt, ct, lx, lt, rfl, hlay, htree, ix, it⟩ := told_of (hval 2 39 v2 rfl rfl) h2
  clear hA0 hval0
  refine (extras_any N L Hh K A A1 A2 A3 Ax At n1 n2 n3 c1 c2 c3 nx cx nt ct layer tree l1 l2 l3 lx lt W (laid2_of hL) i1 i2 i3 ix it).mono fun e W' ⟨he, bel⟩ => ?_
  subst he
  exact ⟨_, rfl, _, _, _, [], _, [], hW', trodAll_mk1 (shut_bool Tryd.underlying4 _), (trodAll_cons_mk (Below.trod laidOut (by kernel_rfl) (of_decide_eq_true (by kernel_rfl)) h0 bel lt0) (trodAll_cons_mk (Below.trod laidOut (by kernel_rfl) (of_decide_eq_true (by kernel_rfl)) h1 bel lt1) (trodAll_cons_mk (Below.trod laidOut (by kernel_rfl) (of_decide_eq_true (by kernel_rfl)) h2 bel lt2) trodAll_mk0))), rfl, bel.frame _, fun h => by cases h⟩

theorem slhExtras_holds : Rows.SlhExtrasSaid :=
  OpenClaim.holds_of_wide 4 Tryd.f4 rfl rfl rfl rfl rfl rfl rfl ⟨rfl, rfl, rfl, rfl, rfl⟩ rfl rfl rfl rfl rfl (by kernel_rfl) Tryd.func4 (by kernel_rfl)
    (of_decide_eq_true (by kernel_rfl)) (by unfold Func.isWrapper; first | (rw [if_pos (by decide +kernel)]; kernel_rfl) | (rw [if_neg (by decide +kernel)]; exact ⟨rfl, rfl⟩))
    (fun os started H enc _ => lifted os started H enc)

theorem slhExtras_card : Rows.SlhExtrasCardSaid :=
  Claim7.holds_tied_plain_at .later [] [.data, .data] true (true, "61e35d1c7f120be52f2041500e2f9fb31cfaf5a95bb942fd9fd4ea5f9989c023") true
    slhExtras_holds (fun _ h => by cases h) (by kernel_rfl) (fun _ h => by cases h) slhExtras_row_tie rfl ⟨rfl, rfl⟩ (by kernel_rfl) rfl
    (fun f fn hf hfn => by
      obtain rfl : f = 4 := Option.some.inj ((show Tryd.prog.funcNamed "tearoff/tearofflaw18.SlhExtras" = some 4 by kernel_rfl).symm.trans hf) |>.symm
      obtain rfl : fn = Tryd.f4 := (Option.some.inj (Tryd.func4.symm.trans hfn)).symm
      exact ⟨by kernel_rfl, fun j t ht => by
        rw [Tryd.params4] at ht
        rcases j with _ | _ | _ | j
        · obtain rfl : t = 23 := by simpa using ht.symm
          exact (show Tryd.prog.wantsStandIn 23 = false by kernel_rfl)
        · obtain rfl : t = 37 := by simpa using ht.symm
          exact (show Tryd.prog.wantsStandIn 37 = false by kernel_rfl)
        · obtain rfl : t = 39 := by simpa using ht.symm
          exact (show Tryd.prog.wantsStandIn 39 = false by kernel_rfl)
        · simp at ht⟩)
    (by kernel_rfl)
#print axioms slhExtras_card
end Go.Proofs.YtipedpkkabfdjaaDoor
