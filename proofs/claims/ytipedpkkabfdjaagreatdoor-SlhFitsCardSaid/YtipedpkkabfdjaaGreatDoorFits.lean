/- The statement SlhFits holds of every input: whether any bytes fit any text, by any public key, of any set, and where any digest leads, is what the document says. Its tied card: the tables of Keccak lie as the program's text lays them. -/
import Derived.Test.YtipedpkkabfdjaaGreatDoorFits25
import Derived.Test.YtipedpkkabfdjaaGreatDoorFits32
import Derived.Test.YtipedpkkabfdjaaGreatDoorFits31
import Derived.Test.YtipedpkkabfdjaaGreatDoorFits22
import Derived.Test.YtipedpkkabfdjaaGreatDoorFits24
import Derived.Test.YtipedpkkabfdjaaGreatDoorRows
import Derived.Test.YtipedpkkabfdjaaGreatDoorCards
import Derived.Test.YtipedpkkabfdjaaGreatDoorTie
import Derived.ChangeOld
import Derived.ShutString
import Derived.SevenTiedAt
namespace Go.Proofs.Sl
open Go Go.ChangeShapes Go.WideShapes Go.RowKit Go.Proofs

theorem fits_all (N L H K A : Int) (Ap At As : Option Addr) (np cp nt ct ns cs : Nat) (lp lt ls : List UInt8) (w : World) (hL : Laid w) (ip : InB w Ap np cp lp) (it : InB w At nt ct lt) (is : InB w As ns cs ls) :
    Calls Tryz.prog 4 #[vFewI N L H K A, .slice Ap np cp, vSigned At As nt ct ns cs] w (RetV w (.bool true)) := by
  by_cases h3 : 200 < np
  · exact fitlaw_out N L H K A Ap At As np cp nt ct ns cs w hL (.inl h3)
  by_cases h4 : 2000 < nt
  · exact fitlaw_out N L H K A Ap At As np cp nt ct ns cs w hL (.inr (.inl h4))
  by_cases h5 : 60000 < ns
  · exact fitlaw_out N L H K A Ap At As np cp nt ct ns cs w hL (.inr (.inr h5))
  cases hm : mayI N L H K A
  · exact fitlaw_in N L H K A Ap At As np cp nt ct ns cs w hL (by omega) (by omega) (by omega) 0 0 false false (fun W _ => where_not N L H K A _ W hm) (fun W _ => rwhere_not N L H K A _ W hm) (fun W _ => fits_not N L H K A Ap At As np cp nt ct ns cs W hm) (fun W _ => rfits_not N L H K A Ap At As np cp nt ct ns cs W hm)
  obtain ⟨f, hf, rfl, rfl, rfl, rfl, rfl⟩ := mayI_few N L H K A hm
  have rp : Rd eB w Ap np lp := ip.all (by omega)
  have rt : Rd eB w At nt lt := it.all (by omega)
  have rs : Rd eB w As ns ls := is.all (by omega)
  have hV : ∃ (t q : Nat) (ok : Bool), whereV f nt lt = .tuple #[.int .u64 (t : Int), .int .u32 (q : Int), .bool ok] := by
    unfold whereV
    split
    · exact ⟨_, _, _, rfl⟩
    · exact ⟨0, 0, false, rfl⟩
  obtain ⟨t, q, ok, hV⟩ := hV
  have hF : ∃ b, (∀ W, Below w.heap.size w W → Calls Tryz.prog 21 #[vFew f, .slice Ap np cp, .slice At nt ct, .slice As ns cs] W (RetV W (.bool b))) ∧ ∀ W, Below w.heap.size w W → Calls Tryz.prog 22 #[vFew f, .slice Ap np cp, .slice At nt ct, .slice As ns cs] W (RetV W (.bool b)) := by
    by_cases g1 : np = 2 * f.N
    · subst g1
      by_cases g2 : ns = sizeL f
      · exact ⟨_, fun W hW => fits_any f hf Ap At As cp nt ct ns cs lp lt ls W (hL.below hW) (rp.below hW) ip.nc (rt.below hW) (by rw [rt.len]; omega) (rs.below hW) g2 is.nc, fun W hW => rfits_any f hf Ap At As cp nt ct ns cs lp lt ls W (rp.below hW) ip.nc (rt.below hW) (by rw [rt.len]; omega) (rs.below hW) g2 is.nc⟩
      · exact ⟨false, fun W _ => fits_sig f hf Ap At As cp nt ct ns cs W g2, fun W _ => rfits_sig f hf Ap At As cp nt ct ns cs W g2⟩
    · exact ⟨false, fun W _ => fits_public f hf Ap At As np cp nt ct ns cs W g1, fun W _ => rfits_public f hf Ap At As np cp nt ct ns cs W g1⟩
  obtain ⟨b, b1, b2⟩ := hF
  exact fitlaw_in f.N f.L f.H f.K f.A Ap At As np cp nt ct ns cs w hL (by omega) (by omega) (by omega) t q ok b (fun W hW => hV ▸ where_any f hf At nt ct lt W (rt.below hW) it.nc it.cm) (fun W hW => hV ▸ rwhere_any f hf At nt ct lt W (rt.below hW) it.nc) b1 b2
end Go.Proofs.Sl

namespace Go.Proofs.YtipedpkkabfdjaaGreatDoor
open Go Go.ChangeShapes Go.WideShapes Go.ChangeAt Go.RowKit Go.Proofs.Sl
set_option linter.unusedVariables false

theorem own : ownKnob Tryz.prog.godebug = none := by kernel_rfl
theorem laidOut : laidOutB Tryz.prog = true := by kernel_rfl
def laid2 : List (String × DataW Unit) := [("tearoff/keccak.rc", Rows.laid_tearoff_keccak_rc), ("tearoff/keccak.turns", Rows.laid_tearoff_keccak_turns)]
theorem door_met (os : Os) (args : Array Value) : laidMetH Tryz.prog laid2 ((World.doorLaid Tryz.prog 19 os).forCall (fun _ _ => 0) ⟨#[], args, []⟩).memory :=
  laidMetH_of_parts3 (fuel := 8) (laidMet_of_run' 8 (by kernel_rfl) (by kernel_rfl)) (by kernel_rfl) (by kernel_rfl)
theorem laid2_of {W : World} (h : laidMetH Tryz.prog laid2 W) : Laid W := laid_of h

set_option maxRecDepth 100000 in
theorem lifted (os : Os) (started : os.Started) (H : Type) (enc : TypeId × Value → H) :
    ReturnsInHanded {} Tryz.checked os 4 .any (fun w args => (Rows.slhFitsSpec.pre enc Tryz.prog Tryz.f4 [] false w args ∧ laidMetH Tryz.prog laid2 w) ∧ sizedMet enc Tryz.prog Tryz.f4 (OpenSpec.ofChange Rows.slhFitsSpec) false w args)
      (Rows.slhFitsSpec.post enc Tryz.prog Tryz.f4 false true false false) := by
  refine returnsInHanded_of_change_and (C := Tryz.checked) (X := fun w _ => laidMetH Tryz.prog laid2 w) (fun _ _ _ hh h => h.of_heap hh) own started (by kernel_rfl) Tryz.func4
    (ChangeSpec.witness_shaped (enc := enc) (C := Tryz.checked) (os := os) (X := fun w _ => laidMetH Tryz.prog laid2 w) false (World.doorLaid Tryz.prog 19 os) #[.agg #[.int .i64 0, .int .i64 0, .int .i64 0, .int .i64 0, .int .i64 0], .slice none 0 0, .agg #[.slice none 0 0, .slice none 0 0]] 8 rfl (World.shaped_of_RefB (by kernel_rfl) (by kernel_rfl)) (by kernel_rfl) (by kernel_rfl) (by kernel_rfl) (door_met os _)) ?_
  intro W base args ds gs before hval0 hW _ _ hL _
  have hval : ∀ (j : Nat) t v, Tryz.f4.params[j]? = some t → args[j]? = some v → Value.okWide Tryz.prog W .any base t v := hval0
  have hW' := hW
  obtain ⟨p, q, hA0, hV, rfl, hfz, hnd⟩ := hW
  have hA : DataW.TrodAll enc Tryz.prog W 0 (fun _ => true) true Tryz.f4.params.toList args.toList ds p := hA0
  rw [Tryz.params4] at hA hval
  obtain ⟨v0, vs0, d0, ds0, p0, q0, hargs, rfl, rfl, h0, r0⟩ := trodAll_cons hA
  obtain ⟨v1, vs1, d1, ds1, p1, q1, rfl, rfl, rfl, h1, r1⟩ := trodAll_cons r0
  obtain ⟨v2, vs2, d2, ds2, p2, q2, rfl, rfl, rfl, h2, r2⟩ := trodAll_cons r1
  obtain ⟨rfl, rfl, rfl⟩ := trodAll_nil r2
  obtain rfl : args = #[v0, v1, v2] := by cases args; simp_all
  obtain ⟨rfl, rfl⟩ := trodVars_none hV
  have lt0 : ∀ x ∈ p0, x.block < W.heap.size := by obtain ⟨m, hm⟩ := h0; exact DataW.trod_lt m _ _ _ hm
  have lt1 : ∀ x ∈ p1, x.block < W.heap.size := by obtain ⟨m, hm⟩ := h1; exact DataW.trod_lt m _ _ _ hm
  have lt2 : ∀ x ∈ p2, x.block < W.heap.size := by obtain ⟨m, hm⟩ := h2; exact DataW.trod_lt m _ _ _ hm
  obtain ⟨N, L, Hh, K, A, rfl⟩ := few_of (hval 0 23 v0 rfl rfl) h0
  obtain ⟨Ab, nb, cb, lb, rfl, ib⟩ := slice_of (hval 1 24 v1 rfl rfl) h1
  obtain ⟨At, As, nt, ct, ns, cs, lt, ls, rfl, it, is⟩ := signed_of (hval 2 42 v2 rfl rfl) h2
  clear hA0 hval0
  refine (fits_all N L Hh K A Ab At As nb cb nt ct ns cs lb lt ls W (laid2_of hL) ib it is).mono fun e W' ⟨he, bel⟩ => ?_
  subst he
  exact ⟨_, rfl, _, _, _, [], _, [], hW', trodAll_mk1 (shut_bool Tryz.underlying4 _), (trodAll_cons_mk (Below.trod laidOut (by kernel_rfl) (of_decide_eq_true (by kernel_rfl)) h0 bel lt0) (trodAll_cons_mk (Below.trod laidOut (by kernel_rfl) (of_decide_eq_true (by kernel_rfl)) h1 bel lt1) (trodAll_cons_mk (Below.trod laidOut (by kernel_rfl) (of_decide_eq_true (by kernel_rfl)) h2 bel lt2) trodAll_mk0))), rfl, bel.frame _, fun h => by cases h⟩

theorem slhFits_holds : Rows.SlhFitsSaid :=
  OpenClaim.holds_of_wide 4 Tryz.f4 rfl rfl rfl rfl rfl rfl rfl ⟨rfl, rfl, rfl, rfl, rfl⟩ rfl rfl rfl rfl rfl (by kernel_rfl) Tryz.func4 (by kernel_rfl)
    (of_decide_eq_true (by kernel_rfl)) (by unfold Func.isWrapper; first | (rw [if_pos (by decide +kernel)]; kernel_rfl) | (rw [if_neg (by decide +kernel)]; exact ⟨rfl, rfl⟩))
    (fun os started H enc _ => lifted os started H enc)

theorem slhFits_card : Rows.SlhFitsCardSaid :=
  Claim7.holds_tied_plain_at .later [] [.data, .data] true (true, "dd2eeac836752d0f086c41e30fba528e3ec7fbe7779e3eb3afcadf3f642e48ea") true
    slhFits_holds (fun _ h => by cases h) (by kernel_rfl) (fun _ h => by cases h) slhFits_row_tie rfl ⟨rfl, rfl⟩ (by kernel_rfl) rfl
    (fun f fn hf hfn => by
      obtain rfl : f = 4 := Option.some.inj ((show Tryz.prog.funcNamed "tearoff/tearofflaw18.SlhFits" = some 4 by kernel_rfl).symm.trans hf) |>.symm
      obtain rfl : fn = Tryz.f4 := (Option.some.inj (Tryz.func4.symm.trans hfn)).symm
      exact ⟨by kernel_rfl, fun j t ht => by
        rw [Tryz.params4] at ht
        rcases j with _ | _ | _ | j
        · obtain rfl : t = 23 := by simpa using ht.symm
          exact (show Tryz.prog.wantsStandIn 23 = false by kernel_rfl)
        · obtain rfl : t = 24 := by simpa using ht.symm
          exact (show Tryz.prog.wantsStandIn 24 = false by kernel_rfl)
        · obtain rfl : t = 42 := by simpa using ht.symm
          exact (show Tryz.prog.wantsStandIn 42 = false by kernel_rfl)
        · simp at ht⟩)
    (by kernel_rfl)
#print axioms slhFits_card
end Go.Proofs.YtipedpkkabfdjaaGreatDoor
