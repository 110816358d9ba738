/- The statement SlhSizes holds of every input: a digest of just the bytes that are needed tells a tree, and a leaf, that there are; one more, or fewer, does not. Its tied card: the tables of Keccak lie as the program's text lays them. -/
import Derived.Test.YtipedpkkabfdjaaDoorB25
import Derived.Test.YtipedpkkabfdjaaDoorBLaw4
import Derived.Test.YtipedpkkabfdjaaDoorRows
import Derived.Test.YtipedpkkabfdjaaDoorCards
import Derived.Test.YtipedpkkabfdjaaDoorTie
import Derived.ChangeOld
import Derived.ShutString
import Derived.SevenTiedAt
namespace Go.Proofs.Sl
open Go Go.ChangeShapes Go.WideShapes Go.RowKit Go.Proofs

theorem sizes_any (N L H K A : Int) (Ab : Option Addr) (nb cb : Nat) (lb : List UInt8) (w : World) (hL : Laid w) (ib : InB w Ab nb cb lb) :
    Calls Tryd.prog 3 #[vFewI N L H K A, .slice Ab nb cb] w (RetV w (.bool true)) := by
  by_cases h : 100 < nb
  · exact sizes_big N L H K A Ab nb cb w hL h
  cases hm : mayI N L H K A
  · exact sizes_not N L H K A Ab nb cb w hL (by omega) hm
  obtain ⟨f, hf, rfl, rfl, rfl, rfl, rfl⟩ := mayI_few N L H K A hm
  exact sizes_in f hf Ab nb cb lb w hL (by omega) ib
end Go.Proofs.Sl

namespace Go.Proofs.YtipedpkkabfdjaaDoor
open Go Go.ChangeShapes Go.WideShapes Go.ChangeAt Go.RowKit Go.Proofs.Sl
set_option linter.unusedVariables false

theorem own : ownKnob Tryd.prog.godebug = none := by kernel_rfl
theorem laidOut : laidOutB Tryd.prog = true := by kernel_rfl
def laid2 : List (String × DataW Unit) := [("tearoff/keccak.rc", Rows.laid_tearoff_keccak_rc), ("tearoff/keccak.turns", Rows.laid_tearoff_keccak_turns)]
theorem door_met (os : Os) (args : Array Value) : laidMetH Tryd.prog laid2 ((World.doorLaid Tryd.prog 19 os).forCall (fun _ _ => 0) ⟨#[], args, []⟩).memory :=
  laidMetH_of_parts3 (fuel := 8) (laidMet_of_run' 8 (by kernel_rfl) (by kernel_rfl)) (by kernel_rfl) (by kernel_rfl)
theorem laid2_of {W : World} (h : laidMetH Tryd.prog laid2 W) : Laid W := laid_of h

set_option maxRecDepth 100000 in
theorem lifted (os : Os) (started : os.Started) (H : Type) (enc : TypeId × Value → H) :
    ReturnsInHanded {} Tryd.checked os 3 .any (fun w args => (Rows.slhSizesSpec.pre enc Tryd.prog Tryd.f3 [] false w args ∧ laidMetH Tryd.prog laid2 w) ∧ sizedMet enc Tryd.prog Tryd.f3 (OpenSpec.ofChange Rows.slhSizesSpec) false w args)
      (Rows.slhSizesSpec.post enc Tryd.prog Tryd.f3 false true false false) := by
  refine returnsInHanded_of_change_and (C := Tryd.checked) (X := fun w _ => laidMetH Tryd.prog laid2 w) (fun _ _ _ hh h => h.of_heap hh) own started (by kernel_rfl) Tryd.func3
    (ChangeSpec.witness_shaped (enc := enc) (C := Tryd.checked) (os := os) (X := fun w _ => laidMetH Tryd.prog laid2 w) false (World.doorLaid Tryd.prog 19 os) #[.agg #[.int .i64 0, .int .i64 0, .int .i64 0, .int .i64 0, .int .i64 0], .slice none 0 0] 8 rfl (World.shaped_of_RefB (by kernel_rfl) (by kernel_rfl)) (by kernel_rfl) (by kernel_rfl) (by kernel_rfl) (door_met os _)) ?_
  intro W base args ds gs before hval0 hW _ _ hL _
  have hval : ∀ (j : Nat) t v, Tryd.f3.params[j]? = some t → args[j]? = some v → Value.okWide Tryd.prog W .any base t v := hval0
  have hW' := hW
  obtain ⟨p, q, hA0, hV, rfl, hfz, hnd⟩ := hW
  have hA : DataW.TrodAll enc Tryd.prog W 0 (fun _ => true) true Tryd.f3.params.toList args.toList ds p := hA0
  rw [Tryd.params3] at hA hval
  obtain ⟨v0, vs0, d0, ds0, p0, q0, hargs, rfl, rfl, h0, r0⟩ := trodAll_cons hA
  obtain ⟨v1, vs1, d1, ds1, p1, q1, rfl, rfl, rfl, h1, r1⟩ := trodAll_cons r0
  obtain ⟨rfl, rfl, rfl⟩ := trodAll_nil r1
  obtain rfl : args = #[v0, v1] := by cases args; simp_all
  obtain ⟨rfl, rfl⟩ := trodVars_none hV
  have lt0 : ∀ x ∈ p0, x.block < W.heap.size := by obtain ⟨m, hm⟩ := h0; exact DataW.trod_lt m _ _ _ hm
  have lt1 : ∀ x ∈ p1, x.block < W.heap.size := by obtain ⟨m, hm⟩ := h1; exact DataW.trod_lt m _ _ _ hm
  obtain ⟨N, L, Hh, K, A, rfl⟩ := few_of (hval 0 23 v0 rfl rfl) h0
  obtain ⟨Ab, nb, cb, lb, rfl, ib⟩ := slice_of (hval 1 24 v1 rfl rfl) h1
  clear hA0 hval0
  refine (sizes_any N L Hh K A Ab nb cb lb W (laid2_of hL) ib).mono fun e W' ⟨he, bel⟩ => ?_
  subst he
  exact ⟨_, rfl, _, _, _, [], _, [], hW', trodAll_mk1 (shut_bool Tryd.underlying4 _), (trodAll_cons_mk (Below.trod laidOut (by kernel_rfl) (of_decide_eq_true (by kernel_rfl)) h0 bel lt0) (trodAll_cons_mk (Below.trod laidOut (by kernel_rfl) (of_decide_eq_true (by kernel_rfl)) h1 bel lt1) trodAll_mk0)), rfl, bel.frame _, fun h => by cases h⟩

theorem slhSizes_holds : Rows.SlhSizesSaid :=
  OpenClaim.holds_of_wide 3 Tryd.f3 rfl rfl rfl rfl rfl rfl rfl ⟨rfl, rfl, rfl, rfl, rfl⟩ rfl rfl rfl rfl rfl (by kernel_rfl) Tryd.func3 (by kernel_rfl)
    (of_decide_eq_true (by kernel_rfl)) (by unfold Func.isWrapper; first | (rw [if_pos (by decide +kernel)]; kernel_rfl) | (rw [if_neg (by decide +kernel)]; exact ⟨rfl, rfl⟩))
    (fun os started H enc _ => lifted os started H enc)

theorem slhSizes_card : Rows.SlhSizesCardSaid :=
  Claim7.holds_tied_plain_at .later [] [.data, .data] true (true, "61e35d1c7f120be52f2041500e2f9fb31cfaf5a95bb942fd9fd4ea5f9989c023") true
    slhSizes_holds (fun _ h => by cases h) (by kernel_rfl) (fun _ h => by cases h) slhSizes_row_tie rfl ⟨rfl, rfl⟩ (by kernel_rfl) rfl
    (fun f fn hf hfn => by
      obtain rfl : f = 3 := Option.some.inj ((show Tryd.prog.funcNamed "tearoff/tearofflaw18.SlhSizes" = some 3 by kernel_rfl).symm.trans hf) |>.symm
      obtain rfl : fn = Tryd.f3 := (Option.some.inj (Tryd.func3.symm.trans hfn)).symm
      exact ⟨by kernel_rfl, fun j t ht => by
        rw [Tryd.params3] at ht
        rcases j with _ | _ | j
        · obtain rfl : t = 23 := by simpa using ht.symm
          exact (show Tryd.prog.wantsStandIn 23 = false by kernel_rfl)
        · obtain rfl : t = 24 := by simpa using ht.symm
          exact (show Tryd.prog.wantsStandIn 24 = false by kernel_rfl)
        · simp at ht⟩)
    (by kernel_rfl)
#print axioms slhSizes_card
end Go.Proofs.YtipedpkkabfdjaaDoor
