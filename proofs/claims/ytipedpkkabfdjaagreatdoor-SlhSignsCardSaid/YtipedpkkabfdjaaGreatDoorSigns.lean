/- The statement SlhSigns holds of every input: of any set, secrets, extra and text the public key, each root, and the signature, are what the document says, or refused; so are its sizes. Its tied card: the tables of Keccak lie as the program's text lays them. -/
import Derived.Test.YtipedpkkabfdjaaGreatDoorSigns25
import Derived.Test.YtipedpkkabfdjaaGreatDoorSigns30
import Derived.Test.YtipedpkkabfdjaaGreatDoorSigns31
import Derived.Test.YtipedpkkabfdjaaGreatDoorSigns22
import Derived.Test.YtipedpkkabfdjaaGreatDoorRows
import Derived.Test.YtipedpkkabfdjaaGreatDoorCards
import Derived.Test.YtipedpkkabfdjaaGreatDoorTie
import Derived.ChangeOld
import Derived.ShutString
import Derived.SevenTiedAt
namespace Go.Proofs.Sl
open Go Go.ChangeShapes Go.WideShapes Go.RowKit Go.Proofs

theorem signs_any (N L H K A : Int) (A1 A2 A3 Ax At : Option Addr) (n1 n2 n3 c1 c2 c3 nx cx nt ct layer tree : Nat) (l1 l2 l3 lx lt : List UInt8) (w : World) (hL : Laid w)
    (i1 : InB w A1 n1 c1 l1) (i2 : InB w A2 n2 c2 l2) (i3 : InB w A3 n3 c3 l3) (ix : InB w Ax nx cx lx) (it : InB w At nt ct lt) (hlay : layer < 4294967296) (htree : W64 tree) :
    Calls Tryz.prog 3 #[vFewI N L H K A, vSec A1 A2 A3 n1 n2 n3 c1 c2 c3, vTold layer tree Ax At nx cx nt ct] w (RetV w (.bool true)) := by
  cases hl : lightI N L H K A
  · exact signs_out N L H K A A1 A2 A3 Ax At n1 n2 n3 c1 c2 c3 nx cx nt ct layer tree w hL (.inl hl)
  by_cases h3 : 2000 < nt
  · exact signs_out N L H K A A1 A2 A3 Ax At n1 n2 n3 c1 c2 c3 nx cx nt ct layer tree w hL (.inr (.inl h3))
  by_cases h4 : 100 < nx
  · exact signs_out N L H K A A1 A2 A3 Ax At n1 n2 n3 c1 c2 c3 nx cx nt ct layer tree w hL (.inr (.inr (.inl h4)))
  by_cases h5 : 100 < n1
  · exact signs_out N L H K A A1 A2 A3 Ax At n1 n2 n3 c1 c2 c3 nx cx nt ct layer tree w hL (.inr (.inr (.inr (.inl h5))))
  by_cases h6 : 100 < n2
  · exact signs_out N L H K A A1 A2 A3 Ax At n1 n2 n3 c1 c2 c3 nx cx nt ct layer tree w hL (.inr (.inr (.inr (.inr (.inl h6)))))
  by_cases h7 : 100 < n3
  · exact signs_out N L H K A A1 A2 A3 Ax At n1 n2 n3 c1 c2 c3 nx cx nt ct layer tree w hL (.inr (.inr (.inr (.inr (.inr h7)))))
  have hZ : ∃ z ch : Int, (∀ W, Calls Tryz.prog 15 #[vFewI N L H K A] W (RetV W (.int .i64 z))) ∧ (∀ W, Calls Tryz.prog 16 #[vFewI N L H K A] W (RetV W (.int .i64 z))) ∧ (∀ W, Calls Tryz.prog 17 #[vFewI N L H K A] W (RetV W (.int .i64 ch))) ∧ (∀ W, Calls Tryz.prog 18 #[vFewI N L H K A] W (RetV W (.int .i64 ch))) := by
    cases hm : mayI N L H K A
    · exact ⟨0, 0, fun W => size_no N L H K A W hm, fun W => rsize_no N L H K A W hm, fun W => chains_no N L H K A W hm, fun W => rchains_no N L H K A W hm⟩
    · obtain ⟨f, hf, rfl, rfl, rfl, rfl, rfl⟩ := mayI_few N L H K A hm
      exact ⟨_, _, fun W => size_any f hf W, fun W => rsize_any f hf W, fun W => chains_any f hf W, fun W => rchains_any f hf W⟩
  obtain ⟨z, ch, z1, z2, z3, z4⟩ := hZ
  have hT : (∃ sg code, (∀ W, Below w.heap.size w W → Calls Tryz.prog 8 #[vFewI N L H K A, vSec A1 A2 A3 n1 n2 n3 c1 c2 c3, .slice Ax nx cx, .slice At nt ct] W (SignOut W sg code)) ∧ ∀ W, Below w.heap.size w W → Calls Tryz.prog 9 #[vFewI N L H K A, vSec A1 A2 A3 n1 n2 n3 c1 c2 c3, .slice Ax nx cx, .slice At nt ct] W (SignOut W sg code)) ∧
      (∃ pb, (∀ W, Below w.heap.size w W → Calls Tryz.prog 11 #[vFewI N L H K A, vSec A1 A2 A3 n1 n2 n3 c1 c2 c3] W (RetRd eB W pb)) ∧ ∀ W, Below w.heap.size w W → Calls Tryz.prog 12 #[vFewI N L H K A, vSec A1 A2 A3 n1 n2 n3 c1 c2 c3] W (RetRd eB W pb)) ∧
      ∃ rt, (∀ W, Below w.heap.size w W → Calls Tryz.prog 13 #[vFewI N L H K A, vSec A1 A2 A3 n1 n2 n3 c1 c2 c3, .int .u32 (layer : Int), .int .u64 (tree : Int)] W (RetRd eB W rt)) ∧ ∀ W, Below w.heap.size w W → Calls Tryz.prog 14 #[vFewI N L H K A, vSec A1 A2 A3 n1 n2 n3 c1 c2 c3, .int .u32 (layer : Int), .int .u64 (tree : Int)] W (RetRd eB W rt) := by
    cases hm : madeI N L H K A n1 n2 n3
    · exact ⟨⟨[], 1, fun W _ => (sign_not N L H K A A1 A2 A3 Ax At n1 n2 n3 c1 c2 c3 nx cx nt ct W hm).mono (fun e w' ⟨he, hb⟩ => ⟨none, 0, 0, he, Rd.nil _ _, hb⟩), fun W _ => (rsign_not N L H K A A1 A2 A3 Ax At n1 n2 n3 c1 c2 c3 nx cx nt ct W hm).mono (fun e w' ⟨he, hb⟩ => ⟨none, 0, 0, he, Rd.nil _ _, hb⟩)⟩, ⟨[], fun W _ => (public_no N L H K A A1 A2 A3 n1 n2 n3 c1 c2 c3 W hm).mono (fun e w' ⟨he, hb⟩ => ⟨none, 0, 0, he, Rd.nil _ _, hb⟩), fun W _ => (rpublic_no N L H K A A1 A2 A3 n1 n2 n3 c1 c2 c3 W hm).mono (fun e w' ⟨he, hb⟩ => ⟨none, 0, 0, he, Rd.nil _ _, hb⟩)⟩, [], fun W _ => (root_no N L H K A A1 A2 A3 n1 n2 n3 c1 c2 c3 layer tree W hm).mono (fun e w' ⟨he, hb⟩ => ⟨none, 0, 0, he, Rd.nil _ _, hb⟩), fun W _ => (rroot_no N L H K A A1 A2 A3 n1 n2 n3 c1 c2 c3 layer tree W hm).mono (fun e w' ⟨he, hb⟩ => ⟨none, 0, 0, he, Rd.nil _ _, hb⟩)⟩
    · have hm0 := hm
      obtain ⟨f, hok, rfl, rfl, rfl, rfl, rfl⟩ := madeI_few hm i1.len i2.len i3.len
      have hM : Ground f ⟨l1, l2, l3⟩ A1 A2 A3 n1 n2 n3 w := ⟨hL, hok, i1.all (by omega), i2.all (by omega), i3.all (by omega)⟩
      refine ⟨?_, ⟨_, fun W hW => (public_any f _ A1 A2 A3 n1 n2 n3 c1 c2 c3 W (hM.below hW)).mono (fun e w' ⟨A, n, c, he, ho, hb⟩ => ⟨A, n, c, he, ho.rd, hb⟩), fun W hW => (rpublic_any f _ A1 A2 A3 n1 n2 n3 c1 c2 c3 W (hM.below hW)).mono (fun e w' ⟨A, n, c, he, ho, hb⟩ => ⟨A, n, c, he, ho.rd, hb⟩)⟩, ?_⟩
      · by_cases hx : nx = f.N
        · have hxr : Rd eB w Ax nx lx := ix.all (by omega)
          have htr : Rd eB w At nt lt := it.all (by omega)
          exact ⟨_, 0, fun W hW => (sign_any f _ A1 A2 A3 Ax At n1 n2 n3 c1 c2 c3 nx cx nt ct lx lt W (hM.below hW) (hxr.below hW) (by rw [hxr.len]; exact hx) (htr.below hW) (by rw [htr.len]; omega)).mono (fun e w' ⟨A, n, c, he, ho, hb⟩ => ⟨A, n, c, he, ho.rd, hb⟩), fun W hW => (rsign_any f _ A1 A2 A3 Ax At n1 n2 n3 nx nt c1 c2 c3 cx ct lx lt W (hM.below hW) (hxr.below hW) (by rw [hxr.len]; exact hx) (htr.below hW) (by rw [htr.len]; omega)).mono (fun e w' ⟨A, n, c, he, ho, hb⟩ => ⟨A, n, c, he, ho.rd, hb⟩)⟩
        · exact ⟨[], 1, fun W _ => (sign_extra f.N f.L f.H f.K f.A A1 A2 A3 Ax At n1 n2 n3 c1 c2 c3 nx cx nt ct W hm0 (by omega)).mono (fun e w' ⟨he, hb⟩ => ⟨none, 0, 0, he, Rd.nil _ _, hb⟩), fun W _ => (rsign_extra f.N f.L f.H f.K f.A A1 A2 A3 Ax At n1 n2 n3 c1 c2 c3 nx cx nt ct W hm0 (by omega)).mono (fun e w' ⟨he, hb⟩ => ⟨none, 0, 0, he, Rd.nil _ _, hb⟩)⟩
      · by_cases hy : layer < f.L
        · exact ⟨_, fun W hW => (root_any f _ A1 A2 A3 n1 n2 n3 c1 c2 c3 layer tree W (hM.below hW) hy htree).mono (fun e w' ⟨A, n, c, he, ho, hb⟩ => ⟨A, n, c, he, ho.rd, hb⟩), fun W hW => (rroot_any f _ A1 A2 A3 n1 n2 n3 c1 c2 c3 layer tree W (hM.below hW) hy htree).mono (fun e w' ⟨A, n, c, he, ho, hb⟩ => ⟨A, n, c, he, ho.rd, hb⟩)⟩
        · exact ⟨[], fun W hW => (root_beyond f _ A1 A2 A3 n1 n2 n3 c1 c2 c3 layer tree W (hM.below hW) (by omega) hlay).mono (fun e w' ⟨he, hb⟩ => ⟨none, 0, 0, he, Rd.nil _ _, hb⟩), fun W hW => (rroot_beyond f _ A1 A2 A3 n1 n2 n3 c1 c2 c3 layer tree W (hM.below hW) (by omega) hlay).mono (fun e w' ⟨he, hb⟩ => ⟨none, 0, 0, he, Rd.nil _ _, hb⟩)⟩
  obtain ⟨⟨sg, code, s1, s2⟩, ⟨pb, p1, p2⟩, rt, r1, r2⟩ := hT
  exact signs_law N L H K A A1 A2 A3 Ax At n1 n2 n3 c1 c2 c3 nx cx nt ct layer tree w hL hl (by omega) (by omega) (by omega) (by omega) (by omega) sg pb rt code z ch s1 s2 p1 p2 r1 r2 (fun W _ => z1 W) (fun W _ => z2 W) (fun W _ => z3 W) (fun W _ => z4 W)
end Go.Proofs.Sl

namespace Go.Proofs.YtipedpkkabfdjaaGreatDoor
open Go Go.ChangeShapes Go.WideShapes Go.ChangeAt Go.RowKit Go.Proofs.Sl
set_option linter.unusedVariables false

theorem own : ownKnob Tryz.prog.godebug = none := by kernel_rfl
theorem laidOut : laidOutB Tryz.prog = true := by kernel_rfl
def laid2 : List (String × DataW Unit) := [("tearoff/keccak.rc", Rows.laid_tearoff_keccak_rc), ("tearoff/keccak.turns", Rows.laid_tearoff_keccak_turns)]
theorem door_met (os : Os) (args : Array Value) : laidMetH Tryz.prog laid2 ((World.doorLaid Tryz.prog 19 os).forCall (fun _ _ => 0) ⟨#[], args, []⟩).memory :=
  laidMetH_of_parts3 (fuel := 8) (laidMet_of_run' 8 (by kernel_rfl) (by kernel_rfl)) (by kernel_rfl) (by kernel_rfl)
theorem laid2_of {W : World} (h : laidMetH Tryz.prog laid2 W) : Laid W := laid_of h

set_option maxRecDepth 100000 in
theorem lifted (os : Os) (started : os.Started) (H : Type) (enc : TypeId × Value → H) :
    ReturnsInHanded {} Tryz.checked os 3 .any (fun w args => (Rows.slhSignsSpec.pre enc Tryz.prog Tryz.f3 [] false w args ∧ laidMetH Tryz.prog laid2 w) ∧ sizedMet enc Tryz.prog Tryz.f3 (OpenSpec.ofChange Rows.slhSignsSpec) false w args)
      (Rows.slhSignsSpec.post enc Tryz.prog Tryz.f3 false true false false) := by
  refine returnsInHanded_of_change_and (C := Tryz.checked) (X := fun w _ => laidMetH Tryz.prog laid2 w) (fun _ _ _ hh h => h.of_heap hh) own started (by kernel_rfl) Tryz.func3
    (ChangeSpec.witness_shaped (enc := enc) (C := Tryz.checked) (os := os) (X := fun w _ => laidMetH Tryz.prog laid2 w) false (World.doorLaid Tryz.prog 19 os) #[.agg #[.int .i64 0, .int .i64 0, .int .i64 0, .int .i64 0, .int .i64 0], .agg #[.slice none 0 0, .slice none 0 0, .slice none 0 0], .agg #[.int .u32 0, .int .u64 0, .slice none 0 0, .slice none 0 0]] 8 rfl (World.shaped_of_RefB (by kernel_rfl) (by kernel_rfl)) (by kernel_rfl) (by kernel_rfl) (by kernel_rfl) (door_met os _)) ?_
  intro W base args ds gs before hval0 hW _ _ hL _
  have hval : ∀ (j : Nat) t v, Tryz.f3.params[j]? = some t → args[j]? = some v → Value.okWide Tryz.prog W .any base t v := hval0
  have hW' := hW
  obtain ⟨p, q, hA0, hV, rfl, hfz, hnd⟩ := hW
  have hA : DataW.TrodAll enc Tryz.prog W 0 (fun _ => true) true Tryz.f3.params.toList args.toList ds p := hA0
  rw [Tryz.params3] at hA hval
  obtain ⟨v0, vs0, d0, ds0, p0, q0, hargs, rfl, rfl, h0, r0⟩ := trodAll_cons hA
  obtain ⟨v1, vs1, d1, ds1, p1, q1, rfl, rfl, rfl, h1, r1⟩ := trodAll_cons r0
  obtain ⟨v2, vs2, d2, ds2, p2, q2, rfl, rfl, rfl, h2, r2⟩ := trodAll_cons r1
  obtain ⟨rfl, rfl, rfl⟩ := trodAll_nil r2
  obtain rfl : args = #[v0, v1, v2] := by cases args; simp_all
  obtain ⟨rfl, rfl⟩ := trodVars_none hV
  have lt0 : ∀ x ∈ p0, x.block < W.heap.size := by obtain ⟨m, hm⟩ := h0; exact DataW.trod_lt m _ _ _ hm
  have lt1 : ∀ x ∈ p1, x.block < W.heap.size := by obtain ⟨m, hm⟩ := h1; exact DataW.trod_lt m _ _ _ hm
  have lt2 : ∀ x ∈ p2, x.block < W.heap.size := by obtain ⟨m, hm⟩ := h2; exact DataW.trod_lt m _ _ _ hm
  obtain ⟨N, L, Hh, K, A, rfl⟩ := few_of (hval 0 23 v0 rfl rfl) h0
  obtain ⟨A1, A2, A3, n1, n2, n3, c1, c2, c3, l1, l2, l3, rfl, i1, i2, i3⟩ := sec_of (hval 1 26 v1 rfl rfl) h1
  obtain ⟨layer, tree, Ax, At, nx, cx, nt, ct, lx, lt, rfl, hlay, htree, ix, it⟩ := told_of (hval 2 30 v2 rfl rfl) h2
  clear hA0 hval0
  refine (signs_any N L Hh K A A1 A2 A3 Ax At n1 n2 n3 c1 c2 c3 nx cx nt ct layer tree l1 l2 l3 lx lt W (laid2_of hL) i1 i2 i3 ix it hlay htree).mono fun e W' ⟨he, bel⟩ => ?_
  subst he
  exact ⟨_, rfl, _, _, _, [], _, [], hW', trodAll_mk1 (shut_bool Tryz.underlying4 _), (trodAll_cons_mk (Below.trod laidOut (by kernel_rfl) (of_decide_eq_true (by kernel_rfl)) h0 bel lt0) (trodAll_cons_mk (Below.trod laidOut (by kernel_rfl) (of_decide_eq_true (by kernel_rfl)) h1 bel lt1) (trodAll_cons_mk (Below.trod laidOut (by kernel_rfl) (of_decide_eq_true (by kernel_rfl)) h2 bel lt2) trodAll_mk0))), rfl, bel.frame _, fun h => by cases h⟩

theorem slhSigns_holds : Rows.SlhSignsSaid :=
  OpenClaim.holds_of_wide 3 Tryz.f3 rfl rfl rfl rfl rfl rfl rfl ⟨rfl, rfl, rfl, rfl, rfl⟩ rfl rfl rfl rfl rfl (by kernel_rfl) Tryz.func3 (by kernel_rfl)
    (of_decide_eq_true (by kernel_rfl)) (by unfold Func.isWrapper; first | (rw [if_pos (by decide +kernel)]; kernel_rfl) | (rw [if_neg (by decide +kernel)]; exact ⟨rfl, rfl⟩))
    (fun os started H enc _ => lifted os started H enc)

theorem slhSigns_card : Rows.SlhSignsCardSaid :=
  Claim7.holds_tied_plain_at .later [] [.data, .data] true (true, "dd2eeac836752d0f086c41e30fba528e3ec7fbe7779e3eb3afcadf3f642e48ea") true
    slhSigns_holds (fun _ h => by cases h) (by kernel_rfl) (fun _ h => by cases h) slhSigns_row_tie rfl ⟨rfl, rfl⟩ (by kernel_rfl) rfl
    (fun f fn hf hfn => by
      obtain rfl : f = 3 := Option.some.inj ((show Tryz.prog.funcNamed "tearoff/tearofflaw18.SlhSigns" = some 3 by kernel_rfl).symm.trans hf) |>.symm
      obtain rfl : fn = Tryz.f3 := (Option.some.inj (Tryz.func3.symm.trans hfn)).symm
      exact ⟨by kernel_rfl, fun j t ht => by
        rw [Tryz.params3] at ht
        rcases j with _ | _ | _ | j
        · obtain rfl : t = 23 := by simpa using ht.symm
          exact (show Tryz.prog.wantsStandIn 23 = false by kernel_rfl)
        · obtain rfl : t = 26 := by simpa using ht.symm
          exact (show Tryz.prog.wantsStandIn 26 = false by kernel_rfl)
        · obtain rfl : t = 30 := by simpa using ht.symm
          exact (show Tryz.prog.wantsStandIn 30 = false by kernel_rfl)
        · simp at ht⟩)
    (by kernel_rfl)
#print axioms slhSigns_card
end Go.Proofs.YtipedpkkabfdjaaGreatDoor
