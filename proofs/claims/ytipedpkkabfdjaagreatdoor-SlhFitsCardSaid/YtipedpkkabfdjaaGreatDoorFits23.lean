/- slh: what holds in Fits' loop. fors: the whole for which what is told stands. -/
import Derived.Test.YtipedpkkabfdjaaGreatDoorFits22
import Derived.Test.YtipedpkkabfdjaaGreatDoorFits21
import Derived.Test.YtipedpkkabfdjaaGreatDoorFits16
/- slh: what holds in Fits' loop. -/
namespace Go.Proofs.Sl
open Go.RowKit Go.Proofs

/-- The boxes of Fits: the set, the signature. -/
structure FB (f : Few) (As : Option Addr) (ns cs : Nat) (b : Nat) (w : World) : Prop where
  k0 : w.cell? ⟨b, 0, none⟩ = some (.int .i64 (f.N : Int))
  k1 : w.cell? ⟨b, 1, none⟩ = some (.int .i64 (f.L : Int))
  k2 : w.cell? ⟨b, 2, none⟩ = some (.int .i64 (f.H : Int))
  k3 : w.cell? ⟨b, 3, none⟩ = some (.int .i64 (f.K : Int))
  k4 : w.cell? ⟨b, 4, none⟩ = some (.int .i64 (f.A : Int))
  m0 : w.cell? ⟨b + 1, 0, none⟩ = some (.slice As ns cs)
theorem FB.below {f : Few} {As : Option Addr} {ns cs b : Nat} {w w' : World} (h : FB f As ns cs b w) (hb : Below w.heap.size w w') : FB f As ns cs b w' :=
  ⟨cell_old hb h.k0, cell_old hb h.k1, cell_old hb h.k2, cell_old hb h.k3, cell_old hb h.k4, cell_old hb h.m0⟩
theorem FB.start (f : Few) (As : Option Addr) (ns cs : Nat) (w : World) : FB f As ns cs w.heap.size ((w.alloc (.cells #[.int .i64 (f.N : Int), .int .i64 (f.L : Int), .int .i64 (f.H : Int), .int .i64 (f.K : Int), .int .i64 (f.A : Int)] 23)).alloc (.cells #[.slice As ns cs] 24)) := by
  constructor <;> go_simp
theorem FB.kept {f : Few} {As : Option Addr} {ns cs b : Nat} {w w' : World} {row : Option Nat} (h : FB f As ns cs b w) (hg : w.grownBy w' row) (hr : ∀ r, row = some r → ∃ o : Obj, w.heap[r]? = some o ∧ o.isCells = false) : FB f As ns cs b w' :=
  ⟨cell_kept h.k0 hg hr, cell_kept h.k1 hg hr, cell_kept h.k2 hg hr, cell_kept h.k3 hg hr, cell_kept h.k4 hg hr, cell_kept h.m0 hg hr⟩
theorem FB.same {f : Few} {As : Option Addr} {ns cs b : Nat} {w w' : World} (h : FB f As ns cs b w) (h0 : w'.heap[b]? = w.heap[b]?) (h1 : w'.heap[b + 1]? = w.heap[b + 1]?) : FB f As ns cs b w' :=
  ⟨(World.cell?_of_block (w := w) (a := ⟨b, 0, none⟩) h0).trans h.k0, (World.cell?_of_block (w := w) (a := ⟨b, 1, none⟩) h0).trans h.k1, (World.cell?_of_block (w := w) (a := ⟨b, 2, none⟩) h0).trans h.k2, (World.cell?_of_block (w := w) (a := ⟨b, 3, none⟩) h0).trans h.k3, (World.cell?_of_block (w := w) (a := ⟨b, 4, none⟩) h0).trans h.k4, (World.cell?_of_block (w := w) (a := ⟨b + 1, 0, none⟩) h1).trans h.m0⟩
/-- A variable of one cell: it holds v, and can be written. -/
structure VarB (b : Nat) (v : Value) (w : World) : Prop where
  c : w.cell? ⟨b, 0, none⟩ = some v
  f : w.frozen? ⟨b, 0, none⟩ = false
theorem VarB.below {b : Nat} {v : Value} {w w' : World} (h : VarB b v w) (hb : Below w.heap.size w w') : VarB b v w' :=
  ⟨cell_old hb h.c, (World.frozen?_of_block (w := w) (a := ⟨b, 0, none⟩) (hb.block _ (World.block_lt_of_cell? w _ h.c))).trans h.f⟩
theorem VarB.kept {b : Nat} {v : Value} {w w' : World} {row : Option Nat} (h : VarB b v w) (hg : w.grownBy w' row) (hr : ∀ r, row = some r → ∃ o : Obj, w.heap[r]? = some o ∧ o.isCells = false) : VarB b v w' :=
  ⟨cell_kept h.c hg hr, (frozen_kept h.c hg hr).trans h.f⟩
theorem VarB.same {b : Nat} {v : Value} {w w' : World} (h : VarB b v w) (e : w'.heap[b]? = w.heap[b]?) : VarB b v w' :=
  ⟨(World.cell?_of_block (w := w) (a := ⟨b, 0, none⟩) e).trans h.c, (World.frozen?_of_block (w := w) (a := ⟨b, 0, none⟩) e).trans h.f⟩
theorem VarB.set {b : Nat} {v : Value} {w : World} (h : VarB b v w) (u : Value) : VarB b u (w.setCell ⟨b, 0, none⟩ u) := ⟨cell_set_eq _ _ _ _ _ h.c, (frozen_set _ _ _ _).trans h.f⟩
theorem VarB.other {b b' : Nat} {v : Value} {w : World} (h : VarB b v w) (u : Value) (hne : b ≠ b') : VarB b v (w.setCell ⟨b', 0, none⟩ u) := h.same (block_set _ _ _ _ hne)
theorem VarB.lt {b : Nat} {v : Value} {w : World} (h : VarB b v w) : b < w.heap.size := World.block_lt_of_cell? w _ h.c
/-- Bytes live through a store into a variable that holds no byte. -/
theorem Own.setVar {B n c b : Nat} {w : World} {A : Option Addr} {l : List UInt8} (h : Own eB B w A n c l) (hn : 0 < n) {v : Value} (hv : w.cell? ⟨b, 0, none⟩ = some v) (hk : ∀ x : UInt8, v ≠ eB x) (u : Value) : Own eB B (w.setCell ⟨b, 0, none⟩ u) A n c l :=
  h.set_other ⟨b, 0, none⟩ u fun e => by have := h.neBlock hn hv hk; rw [e] at this; exact this rfl

structure FI (f : Few) (As : Option Addr) (ns cs : Nat) (seed : List UInt8) (tree q : Nat) (of sig : List UInt8) (A3 : Option Addr) (n3 c3 : Nat) (w : World) (b14 b15 b16 B1 B2 B3 B4 : Nat) (k : Nat) (W : World) : Prop where
  fb : FB f As ns cs w.heap.size W
  c14 : VarB b14 (.int .i64 ((sHead f + k * sEach f : Nat) : Int)) W
  c15 : ∃ Af cf, VarB b15 (.slice Af f.N cf) W ∧ Own eB (w.heap.size + 2) W Af f.N cf (climbTo f seed tree q of sig k)
  c16 : VarB b16 (.int .i64 ((sEach f : Nat) : Int)) W
  sp : ∃ t u, SpotsBox f A3 n3 c3 t u B1 B2 B3 B4 W
  below : Below w.heap.size w W
structure FD (w : World) (b14 b15 b16 B1 B2 B3 B4 : Nat) : Prop where
  h14 : w.heap.size + 2 ≤ b14
  h15 : b14 ≠ b15 ∧ w.heap.size + 2 ≤ b15
  h16 : b14 < b16 ∧ b15 < b16
  h1 : b16 < B1
  h2 : b16 < B2
  h3 : b16 < B3
  h4 : b16 < B4
  d : B1 ≠ B3 ∧ B1 ≠ B4 ∧ B2 ≠ B3 ∧ B2 ≠ B4 ∧ B3 ≠ B4
def FJ (f : Few) (As : Option Addr) (ns cs : Nat) (seed : List UInt8) (tree q : Nat) (of sig : List UInt8) (A3 : Option Addr) (n3 c3 : Nat) (w : World) (b14 b15 b16 B1 B2 B3 B4 : Nat) (F : Nat → Nat × Nat × Nat → Array Value) (pre : List (Nat × Nat × Nat)) (x : Nat × Nat × Nat) (a1 : Act) (W : World) : Prop :=
  ∃ b : Nat, a1 = { tmps := F b x, defers := [] } ∧ SpB f A3 n3 c3 x.1 x.2.1 x.2.2 b W ∧ FI f As ns cs seed tree q of sig A3 n3 c3 w b14 b15 b16 B1 B2 B3 B4 pre.length W
section
variable {f : Few} {As : Option Addr} {ns cs : Nat} {seed : List UInt8} {tree q : Nat} {of sig : List UInt8} {A3 : Option Addr} {n3 c3 : Nat} {w : World} {b14 b15 b16 B1 B2 B3 B4 k : Nat} {W : World}
theorem FI.kept (h : FI f As ns cs seed tree q of sig A3 n3 c3 w b14 b15 b16 B1 B2 B3 B4 k W) {W' : World} {row : Option Nat} (hg : W.grownBy W' row) (hr : ∀ r, row = some r → w.heap.size ≤ r ∧ ∃ o : Obj, W.heap[r]? = some o ∧ o.isCells = false) : FI f As ns cs seed tree q of sig A3 n3 c3 w b14 b15 b16 B1 B2 B3 B4 k W' := by
  have hr' := fun r e => (hr r e).2
  obtain ⟨Af, cf, p1, p2⟩ := h.c15
  obtain ⟨t, u, hs⟩ := h.sp
  exact ⟨h.fb.kept hg hr', h.c14.kept hg hr', ⟨Af, cf, p1.kept hg hr', p2.kept hg hr'⟩, h.c16.kept hg hr', ⟨t, u, hs.keep (kps_kept hg hr')⟩, h.below.grown hg h.below.size fun r e => (hr r e).1⟩
theorem FI.turned (hN : 1 ≤ f.N) (h : FI f As ns cs seed tree q of sig A3 n3 c3 w b14 b15 b16 B1 B2 B3 B4 k W) (hd : FD w b14 b15 b16 B1 B2 B3 B4) {W' : World} (hs : StS B3 B4 W W') : FI f As ns cs seed tree q of sig A3 n3 c3 w b14 b15 b16 B1 B2 B3 B4 k W' := by
  obtain ⟨h14, ⟨h15, h15'⟩, ⟨h16, h16'⟩, h1, h2, h3, h4, hdd⟩ := hd
  obtain ⟨Af, cf, p1, p2⟩ := h.c15
  obtain ⟨t, u, hb⟩ := h.sp
  have hsz : W.heap.size ≤ W'.heap.size := by rw [hs.size]; exact Nat.le_refl _
  exact ⟨h.fb.same (hs.block _ (by omega) (by omega)) (hs.block _ (by omega) (by omega)), h.c14.same (hs.block _ (by omega) (by omega)), ⟨Af, cf, p1.same (hs.block _ (by omega) (by omega)), p2.sameBlock (by omega) hsz hb.t (fun x => by simp) hb.q (fun x => by simp) fun k e1 e2 => hs.block k e1 e2⟩, h.c16.same (hs.block _ (by omega) (by omega)), hb.turned hs hdd, hs.below h.below (by omega) (by omega)⟩
theorem FI.next (hN : 1 ≤ f.N) (h : FI f As ns cs seed tree q of sig A3 n3 c3 w b14 b15 b16 B1 B2 B3 B4 k W) (hd : FD w b14 b15 b16 B1 B2 B3 B4) {Wa : World} {Ar : Option Addr} {cr : Nat} (g1 : Grow W Wa) (hr : Own eB (w.heap.size + 2) Wa Ar f.N cr (climbTo f seed tree q of sig (k + 1))) :
    KeepsOthers W ((Wa.setCell ⟨b15, 0, none⟩ (.slice Ar f.N cr)).setCell ⟨b14, 0, none⟩ (.int .i64 ((sHead f + (k + 1) * sEach f : Nat) : Int))) ∧ KpS B1 B2 B3 B4 W ((Wa.setCell ⟨b15, 0, none⟩ (.slice Ar f.N cr)).setCell ⟨b14, 0, none⟩ (.int .i64 ((sHead f + (k + 1) * sEach f : Nat) : Int))) ∧
      FI f As ns cs seed tree q of sig A3 n3 c3 w b14 b15 b16 B1 B2 B3 B4 (k + 1) ((Wa.setCell ⟨b15, 0, none⟩ (.slice Ar f.N cr)).setCell ⟨b14, 0, none⟩ (.int .i64 ((sHead f + (k + 1) * sEach f : Nat) : Int))) := by
  obtain ⟨h14, ⟨h15, h15'⟩, ⟨h16, h16'⟩, h1, h2, h3, h4, hdd⟩ := hd
  obtain ⟨Af, cf, p1, p2⟩ := h.c15
  obtain ⟨t, u, hb⟩ := h.sp
  have key : ∀ {b : Nat}, b < W.heap.size → b ≠ b14 → b ≠ b15 → ((Wa.setCell ⟨b15, 0, none⟩ (.slice Ar f.N cr)).setCell ⟨b14, 0, none⟩ (.int .i64 ((sHead f + (k + 1) * sEach f : Nat) : Int))).heap[b]? = W.heap[b]? := fun hlt e1 e2 =>
    (block_set _ _ _ _ e1).trans ((block_set _ _ _ _ e2).trans (g1.block _ hlt))
  have l0 : w.heap.size + 1 < W.heap.size := World.block_lt_of_cell? _ _ h.fb.m0
  have l1 : B1 < W.heap.size := World.block_lt_of_cell? _ _ hb.f0
  have l2 : B2 < W.heap.size := World.block_lt_of_cell? _ _ hb.s
  have l3 : B3 < W.heap.size := World.block_lt_of_cell? _ _ hb.t
  have l4 : B4 < W.heap.size := World.block_lt_of_cell? _ _ hb.q
  have hkp : KpS B1 B2 B3 B4 W ((Wa.setCell ⟨b15, 0, none⟩ (.slice Ar f.N cr)).setCell ⟨b14, 0, none⟩ (.int .i64 ((sHead f + (k + 1) * sEach f : Nat) : Int))) := KpS.of_block fun b hb4 => by
    rcases hb4 with rfl | rfl | rfl | rfl <;> exact key (by omega) (by omega) (by omega)
  have v15 := (p1.below g1).set (.slice Ar f.N cr)
  have v14 := (h.c14.below g1).other (.slice Ar f.N cr) h15
  refine ⟨((keeps_below g1).trans (KeepsOthers.setCell _ _ _)).trans (KeepsOthers.setCell _ _ _), hkp, h.fb.same (key (by omega) (by omega) (by omega)) (key (by omega) (by omega) (by omega)), v14.set _, ⟨Ar, cr, v15.other _ (Ne.symm h15), ?_⟩, h.c16.same (key h.c16.lt (by omega) (by omega)), ⟨t, u, hb.keep hkp⟩, ?_⟩
  · exact (hr.setVar hN (p1.below g1).c (fun x => by simp) _).setVar hN v14.c (fun x => by simp) _
  · exact ((h.below.trans (g1.mono h.below.size)).setCell (p := ⟨b15, 0, none⟩) (show w.heap.size ≤ b15 by omega) _).setCell (p := ⟨b14, 0, none⟩) (show w.heap.size ≤ b14 by omega) _
end
end Go.Proofs.Sl

/- fors: the whole for which what is told stands. -/
namespace Go.Proofs.Sl
open Go.RowKit Go.Proofs

set_option maxHeartbeats 4000000 in
theorem stands_any (f : Few) (As Ab At : Option Addr) (ns cs nb cb nt ct tree q : Nat) (seed b told : List UInt8) (w : World) (hL : Laid w) (hf : FewOk f) (hs : Rd eB w As ns seed) (hsl : seed.length = f.N) (ht : W64 tree) (hq : q < 4294967296)
    (hb : Rd eB w Ab nb b) (hnb : nb ≤ 1048576) (hbl : f.K * f.A ≤ b.length * 8) (htd : Rd eB w At nt told) (htl : told.length = f.K * fEach f) (hct : nt ≤ ct) :
    Calls Tryz.prog 53 #[vFew f, .slice As ns cs, .int .u64 (tree : Int), .int .u32 (q : Int), .slice Ab nb cb, .slice At nt ct] w (RetOwn eB w (fStands f seed tree q b told)) := by
  have hK : f.K ≤ 40 := hf.K2
  have hK1 : 1 ≤ f.K := hf.K1
  have hA : f.A ≤ 14 := hf.A2
  have hA1 : 1 ≤ f.A := hf.A1
  have hN1 := hf.N.pos
  have hN2 := hf.N.le
  obtain ⟨ea, hea⟩ : ∃ ea, (f.A + 1) * f.N = ea := ⟨_, rfl⟩
  have hea1 : ((f.A : Int) + 1) * (f.N : Int) = (ea : Int) := by rw [← hea]; simp
  have hea2 : ea ≤ 480 := by rw [← hea]; exact Nat.le_trans (Nat.mul_le_mul (show f.A + 1 ≤ 15 by omega) hN2) (by omega)
  have hea3 : 16 ≤ ea := by rw [← hea]; calc 16 = 1 * 16 := rfl
                                            _ ≤ _ := Nat.mul_le_mul (by omega) hN1
  obtain ⟨tt, htt⟩ : ∃ tt, f.K * ea = tt := ⟨_, rfl⟩
  obtain rfl : nt = tt := by rw [← htd.len, htl, ← htt, ← hea]; rfl
  have htt1 : (f.K : Int) * (ea : Int) = (nt : Int) := by rw [← htt]; simp
  have htt2 : nt ≤ 19200 := by rw [← htt]; exact Nat.le_trans (Nat.mul_le_mul hK hea2) (by omega)
  have hns : ns = f.N := by rw [← hs.len]; exact hsl
  subst hns
  have e3 : ((f.K : Int) == 0) = false := by simp; omega
  have HL := Lib.hid (And.intro hL (And.intro hf (And.intro hs (And.intro hsl (And.intro ht hq)))))
  have HEA := Lib.hid hea
  have HTT := Lib.hid htt
  have HT := Lib.hid htd
  have HBb := Lib.hid hb
  have HBL := Lib.hid hbl
  clear hL hf hs hsl ht hq hb hbl htd htl hea htt
  unfold vFew
  go_enter Tryz.func53, Tryz.ntmps53
  go_wp2_with fail
  have hg0 : Grow w (w.alloc (.cells #[.int .i64 (f.N : Int), .int .i64 (f.L : Int), .int .i64 (f.H : Int), .int .i64 (f.K : Int), .int .i64 (f.A : Int)] 23)) := (Below.refl _ w).alloc (Nat.le_refl _) _
  have HC := Lib.hid (digits_any f Ab nb cb b _ HL.out.2.1 (HBb.out.below hg0) hnb HBL.out)
  unfold vFew at HC
  refine HC.out.mono ?_
  rintro e w1 ⟨Ad, nd, cd, rfl, hd, h1⟩
  obtain rfl : f.K = nd := by rw [← hd.len, fDigits_length]
  have g1 : Grow w w1 := hg0.trans _ _ _ h1
  have HD := Lib.hid hd.rd
  have k0 : w1.cell? ⟨w.heap.size, 0, none⟩ = some (.int .i64 (f.N : Int)) := (h1.cell (by simp)).trans (by go_simp)
  have k1 : w1.cell? ⟨w.heap.size, 1, none⟩ = some (.int .i64 (f.L : Int)) := (h1.cell (by simp)).trans (by go_simp)
  have k2 : w1.cell? ⟨w.heap.size, 2, none⟩ = some (.int .i64 (f.H : Int)) := (h1.cell (by simp)).trans (by go_simp)
  have k3 : w1.cell? ⟨w.heap.size, 3, none⟩ = some (.int .i64 (f.K : Int)) := (h1.cell (by simp)).trans (by go_simp)
  have k4 : w1.cell? ⟨w.heap.size, 4, none⟩ = some (.int .i64 (f.A : Int)) := (h1.cell (by simp)).trans (by go_simp)
  have hs0 : w.heap.size < w1.heap.size := by have := h1.size; simp at this; omega
  have hs3 : (w1.heap.size == w.heap.size) = false := by simp; omega
  clear HC hd h1 hg0
  go_wp2
  generalize hW2 : World.alloc w1 _ = w2
  have g2 : Grow w1 w2 := by rw [← hW2]; exact (Below.refl _ _).alloc (Nat.le_refl _) _
  have p0 : w2.cell? ⟨w1.heap.size, 0, none⟩ = some (.int .i64 (f.N : Int)) := by subst hW2; go_simp
  have p1 : w2.cell? ⟨w1.heap.size, 1, none⟩ = some (.int .i64 (f.L : Int)) := by subst hW2; go_simp
  have p2 : w2.cell? ⟨w1.heap.size, 2, none⟩ = some (.int .i64 (f.H : Int)) := by subst hW2; go_simp
  have p3 : w2.cell? ⟨w1.heap.size, 3, none⟩ = some (.int .i64 (f.K : Int)) := by subst hW2; go_simp
  have p4 : w2.cell? ⟨w1.heap.size, 4, none⟩ = some (.int .i64 (f.A : Int)) := by subst hW2; go_simp
  have p5 : w2.cell? ⟨w1.heap.size, 5, none⟩ = some (.slice As f.N cs) := by subst hW2; go_simp
  have p6 : w2.cell? ⟨w1.heap.size, 6, none⟩ = some (.int .u64 (tree : Int)) := by subst hW2; go_simp
  have p7 : w2.cell? ⟨w1.heap.size, 7, none⟩ = some (.int .u32 (q : Int)) := by subst hW2; go_simp
  clear hW2
  have M4 := cell_old g2 k4
  have gg := g1.trans _ _ _ g2
  have HD2 := Lib.hid (HD.out.below g2)
  clear k0 k1 k2 k3 k4 g1 g2 HD
  go_loopw [16, 53] (fun v i wr => ∃ (k : Nat) (A : Option Addr) (c : Nat), k ≤ f.K ∧ i = .int .i64 (k : Int) ∧ v = .slice A (k * f.N) c ∧ Own eB w2.heap.size wr A (k * f.N) c ((List.range k).flatMap fun k => fClimb f.N seed tree q (cutL told (k * fEach f) ((k + 1) * fEach f)) (fIndex f b k) f.A) ∧ Grow w2 wr) (fun _ i _ => f.K - (intOf i).toNat)
  case atStart => exact ⟨0, none, 0, Nat.zero_le _, rfl, by simp, by simpa using Own.nil _ _, Grow.refl _⟩
  case round =>
    obtain ⟨k, A, c, hk, rfl, rfl, ho, hg⟩ := hrel
    have hkN : k * f.N ≤ 1280 := Nat.le_trans (Nat.mul_le_mul (Nat.le_trans hk hK) hN2) (by omega)
    have HO := Lib.hid ho
    have k0 := cell_old hg p0; have k1 := cell_old hg p1; have k2 := cell_old hg p2; have k3 := cell_old hg p3; have k4 := cell_old hg p4; have k5 := cell_old hg p5; have k6 := cell_old hg p6; have k7 := cell_old hg p7; have k8 := cell_old hg M4
    have HGW := Lib.hid hg
    have GG := Lib.hid (gg.trans _ _ _ hg)
    by_cases hlt : k < f.K
    · obtain ⟨ad, rfl, k9⟩ := (HD2.out.below hg).at k hlt
      rw [fDigits_at] at k9
      have hix := index_lt f b k hlt
      have hdl := digitTo_lt f.A b k f.A
      have HIX : Hid (fIndex f b k = k * 2 ^ f.A + digitTo f.A b k f.A) := Lib.hid rfl
      have hp : 2 ^ f.A ≤ 16384 := by calc 2 ^ f.A ≤ 2 ^ 14 := Nat.pow_le_pow_right (by omega) hA
                                         _ = 16384 := by decide
      have hix2 : fIndex f b k < 655360 := Nat.lt_of_lt_of_le hix (Nat.le_trans (Nat.mul_le_mul hK hp) (by omega))
      have hor := or_u32 k (digitTo f.A b k f.A) f.A hdl (by rw [← HIX.out]; omega)
      rw [← HIX.out, Int.natCast_mul, Int.natCast_pow] at hor
      have hkp : k * 2 ^ f.A ≤ 655360 := Nat.le_trans (Nat.mul_le_mul (Nat.le_trans hk hK) hp) (by omega)
      generalize hi : fIndex f b k = i at *
      generalize hdd : digitTo f.A b k f.A = d at *
      have hmd : (k : Int) * 2 ^ f.A % 4294967296 = (k : Int) * 2 ^ f.A := by
        have : (k : Int) * 2 ^ f.A = ((k * 2 ^ f.A : Nat) : Int) := by rw [Int.natCast_mul, Int.natCast_pow]; rfl
        rw [this]; omega
      have hor' : bits .or .u32 ((k : Int) * 2 ^ f.A) (d : Int) = (i : Int) := hor
      obtain ⟨lo, hlo⟩ : ∃ lo, k * ea = lo := ⟨_, rfl⟩
      have hlo1 : (k : Int) * (ea : Int) = (lo : Int) := by rw [← hlo]; simp
      have hlo2 : ((k : Int) + 1) * (ea : Int) = (lo : Int) + (ea : Int) := by rw [Int.add_mul, hlo1]; simp
      have hlo3 : lo + ea ≤ nt := by rw [← HTT.out, ← hlo, ← Nat.succ_mul]; exact Nat.mul_le_mul_right _ hlt
      have HI := Lib.hid (And.intro hi hlo)
      clear ho hg p0 p1 p2 p3 p4 p5 p6 p7 M4 hdl hix HIX hor hdd hp hkp hi hlo gg
      go_wp2_with fail
      refine wp_region_rg Grow 84 22 12 [[], [], [], [], [], [], [], [], [], [], [], [], [], [], [], [], [], [], [], [], [], []]
        [.still [] (.slice A (k * f.N) c), .still [] (.agg #[.int .i64 (f.N : Int), .int .i64 (f.L : Int), .int .i64 (f.H : Int), .int .i64 (f.K : Int), .int .i64 (f.A : Int), .slice As f.N cs, .int .u64 (tree : Int), .int .u32 (q : Int)]), .still [] (.int .i64 (k : Int)), .still [] (.int .u32 (k : Int)), .still [] (.pointer (some ⟨w.heap.size, 4, none⟩)), .still [] (.int .i64 (f.A : Int)), .still [] (.int .u32 ((k : Int) * 2 ^ f.A)), .still [] (.slice (some ad) f.K cd), .still [] (.int .i64 (k : Int)), .still [] (.pointer (some (ad.add k))), .still [] (.int .u32 (d : Int)), .still [] (.int .u32 (i : Int)), .still [] (.slice At nt ct), .still [] (.int .i64 (k : Int)), .still [] (.int .i64 (ea : Int)), .still [] (.int .i64 (lo : Int)), .still [] (.int .i64 (k : Int)), .still [] (.int .i64 ((k : Int) + 1)), .still [] (.int .i64 (ea : Int)), .still [] (.int .i64 ((lo : Int) + (ea : Int))), .still [] (.slice (Option.map (fun x => x.add lo) At) ea (ct - lo)), .grow [] (OwnV eB 0 (fClimb f.N seed tree q (cutL told lo (lo + ea)) i f.A))] (by kernel_rfl) (by kernel_rfl) rfl rfl rfl Grow.trans (Grow.refl _) ?_
      refine Obl.still (fun W hg _ => ?_) ?_
      · have c0 := cell_old hg k0; have c1 := cell_old hg k1; have c2 := cell_old hg k2; have c3 := cell_old hg k3; have c4 := cell_old hg k4; have c5 := cell_old hg k5; have c6 := cell_old hg k6; have c7 := cell_old hg k7; have c8 := cell_old hg k8; have c9 := cell_old hg k9; clear hg k0 k1 k2 k3 k4 k5 k6 k7 k8 k9
        go_wp2
        exact ⟨rfl, rfl, rfl, Grow.refl _⟩
      simp only [Act.put, List.setIfInBounds_toArray, List.set_cons_zero, List.set_cons_succ]
      refine Obl.still (fun W hg _ => ?_) ?_
      · have c0 := cell_old hg k0; have c1 := cell_old hg k1; have c2 := cell_old hg k2; have c3 := cell_old hg k3; have c4 := cell_old hg k4; have c5 := cell_old hg k5; have c6 := cell_old hg k6; have c7 := cell_old hg k7; have c8 := cell_old hg k8; have c9 := cell_old hg k9; clear hg k0 k1 k2 k3 k4 k5 k6 k7 k8 k9
        go_wp2
        exact ⟨rfl, rfl, rfl, Grow.refl _⟩
      simp only [Act.put, List.setIfInBounds_toArray, List.set_cons_zero, List.set_cons_succ]
      refine Obl.still (fun W hg _ => ?_) ?_
      · have c0 := cell_old hg k0; have c1 := cell_old hg k1; have c2 := cell_old hg k2; have c3 := cell_old hg k3; have c4 := cell_old hg k4; have c5 := cell_old hg k5; have c6 := cell_old hg k6; have c7 := cell_old hg k7; have c8 := cell_old hg k8; have c9 := cell_old hg k9; clear hg k0 k1 k2 k3 k4 k5 k6 k7 k8 k9
        go_wp2
        exact ⟨rfl, rfl, rfl, Grow.refl _⟩
      simp only [Act.put, List.setIfInBounds_toArray, List.set_cons_zero, List.set_cons_succ]
      refine Obl.still (fun W hg _ => ?_) ?_
      · have c0 := cell_old hg k0; have c1 := cell_old hg k1; have c2 := cell_old hg k2; have c3 := cell_old hg k3; have c4 := cell_old hg k4; have c5 := cell_old hg k5; have c6 := cell_old hg k6; have c7 := cell_old hg k7; have c8 := cell_old hg k8; have c9 := cell_old hg k9; clear hg k0 k1 k2 k3 k4 k5 k6 k7 k8 k9
        go_wp2
        exact ⟨rfl, rfl, rfl, Grow.refl _⟩
      simp only [Act.put, List.setIfInBounds_toArray, List.set_cons_zero, List.set_cons_succ]
      refine Obl.still (fun W hg _ => ?_) ?_
      · have c0 := cell_old hg k0; have c1 := cell_old hg k1; have c2 := cell_old hg k2; have c3 := cell_old hg k3; have c4 := cell_old hg k4; have c5 := cell_old hg k5; have c6 := cell_old hg k6; have c7 := cell_old hg k7; have c8 := cell_old hg k8; have c9 := cell_old hg k9; clear hg k0 k1 k2 k3 k4 k5 k6 k7 k8 k9
        go_wp2
        exact ⟨rfl, rfl, rfl, Grow.refl _⟩
      simp only [Act.put, List.setIfInBounds_toArray, List.set_cons_zero, List.set_cons_succ]
      refine Obl.still (fun W hg _ => ?_) ?_
      · have c0 := cell_old hg k0; have c1 := cell_old hg k1; have c2 := cell_old hg k2; have c3 := cell_old hg k3; have c4 := cell_old hg k4; have c5 := cell_old hg k5; have c6 := cell_old hg k6; have c7 := cell_old hg k7; have c8 := cell_old hg k8; have c9 := cell_old hg k9; clear hg k0 k1 k2 k3 k4 k5 k6 k7 k8 k9
        go_wp2
        exact ⟨rfl, rfl, rfl, Grow.refl _⟩
      simp only [Act.put, List.setIfInBounds_toArray, List.set_cons_zero, List.set_cons_succ]
      refine Obl.still (fun W hg _ => ?_) ?_
      · have c0 := cell_old hg k0; have c1 := cell_old hg k1; have c2 := cell_old hg k2; have c3 := cell_old hg k3; have c4 := cell_old hg k4; have c5 := cell_old hg k5; have c6 := cell_old hg k6; have c7 := cell_old hg k7; have c8 := cell_old hg k8; have c9 := cell_old hg k9; clear hg k0 k1 k2 k3 k4 k5 k6 k7 k8 k9
        go_wp2
        exact ⟨rfl, rfl, rfl, Grow.refl _⟩
      simp only [Act.put, List.setIfInBounds_toArray, List.set_cons_zero, List.set_cons_succ]
      refine Obl.still (fun W hg _ => ?_) ?_
      · have c0 := cell_old hg k0; have c1 := cell_old hg k1; have c2 := cell_old hg k2; have c3 := cell_old hg k3; have c4 := cell_old hg k4; have c5 := cell_old hg k5; have c6 := cell_old hg k6; have c7 := cell_old hg k7; have c8 := cell_old hg k8; have c9 := cell_old hg k9; clear hg k0 k1 k2 k3 k4 k5 k6 k7 k8 k9
        go_wp2
        exact ⟨rfl, rfl, rfl, Grow.refl _⟩
      simp only [Act.put, List.setIfInBounds_toArray, List.set_cons_zero, List.set_cons_succ]
      refine Obl.still (fun W hg _ => ?_) ?_
      · have c0 := cell_old hg k0; have c1 := cell_old hg k1; have c2 := cell_old hg k2; have c3 := cell_old hg k3; have c4 := cell_old hg k4; have c5 := cell_old hg k5; have c6 := cell_old hg k6; have c7 := cell_old hg k7; have c8 := cell_old hg k8; have c9 := cell_old hg k9; clear hg k0 k1 k2 k3 k4 k5 k6 k7 k8 k9
        go_wp2
        exact ⟨rfl, rfl, rfl, Grow.refl _⟩
      simp only [Act.put, List.setIfInBounds_toArray, List.set_cons_zero, List.set_cons_succ]
      refine Obl.still (fun W hg _ => ?_) ?_
      · have c0 := cell_old hg k0; have c1 := cell_old hg k1; have c2 := cell_old hg k2; have c3 := cell_old hg k3; have c4 := cell_old hg k4; have c5 := cell_old hg k5; have c6 := cell_old hg k6; have c7 := cell_old hg k7; have c8 := cell_old hg k8; have c9 := cell_old hg k9; clear hg k0 k1 k2 k3 k4 k5 k6 k7 k8 k9
        go_wp2
        exact ⟨rfl, rfl, rfl, Grow.refl _⟩
      simp only [Act.put, List.setIfInBounds_toArray, List.set_cons_zero, List.set_cons_succ]
      refine Obl.still (fun W hg _ => ?_) ?_
      · have c0 := cell_old hg k0; have c1 := cell_old hg k1; have c2 := cell_old hg k2; have c3 := cell_old hg k3; have c4 := cell_old hg k4; have c5 := cell_old hg k5; have c6 := cell_old hg k6; have c7 := cell_old hg k7; have c8 := cell_old hg k8; have c9 := cell_old hg k9; clear hg k0 k1 k2 k3 k4 k5 k6 k7 k8 k9
        go_wp2
        exact ⟨rfl, rfl, rfl, Grow.refl _⟩
      simp only [Act.put, List.setIfInBounds_toArray, List.set_cons_zero, List.set_cons_succ]
      refine Obl.still (fun W hg _ => ?_) ?_
      · have c0 := cell_old hg k0; have c1 := cell_old hg k1; have c2 := cell_old hg k2; have c3 := cell_old hg k3; have c4 := cell_old hg k4; have c5 := cell_old hg k5; have c6 := cell_old hg k6; have c7 := cell_old hg k7; have c8 := cell_old hg k8; have c9 := cell_old hg k9; clear hg k0 k1 k2 k3 k4 k5 k6 k7 k8 k9
        go_wp2
        exact ⟨rfl, rfl, rfl, Grow.refl _⟩
      simp only [Act.put, List.setIfInBounds_toArray, List.set_cons_zero, List.set_cons_succ]
      refine Obl.still (fun W hg _ => ?_) ?_
      · have c0 := cell_old hg k0; have c1 := cell_old hg k1; have c2 := cell_old hg k2; have c3 := cell_old hg k3; have c4 := cell_old hg k4; have c5 := cell_old hg k5; have c6 := cell_old hg k6; have c7 := cell_old hg k7; have c8 := cell_old hg k8; have c9 := cell_old hg k9; clear hg k0 k1 k2 k3 k4 k5 k6 k7 k8 k9
        go_wp2
        exact ⟨rfl, rfl, rfl, Grow.refl _⟩
      simp only [Act.put, List.setIfInBounds_toArray, List.set_cons_zero, List.set_cons_succ]
      refine Obl.still (fun W hg _ => ?_) ?_
      · have c0 := cell_old hg k0; have c1 := cell_old hg k1; have c2 := cell_old hg k2; have c3 := cell_old hg k3; have c4 := cell_old hg k4; have c5 := cell_old hg k5; have c6 := cell_old hg k6; have c7 := cell_old hg k7; have c8 := cell_old hg k8; have c9 := cell_old hg k9; clear hg k0 k1 k2 k3 k4 k5 k6 k7 k8 k9
        go_wp2
        exact ⟨rfl, rfl, rfl, Grow.refl _⟩
      simp only [Act.put, List.setIfInBounds_toArray, List.set_cons_zero, List.set_cons_succ]
      refine Obl.still (fun W hg _ => ?_) ?_
      · have c0 := cell_old hg k0; have c1 := cell_old hg k1; have c2 := cell_old hg k2; have c3 := cell_old hg k3; have c4 := cell_old hg k4; have c5 := cell_old hg k5; have c6 := cell_old hg k6; have c7 := cell_old hg k7; have c8 := cell_old hg k8; have c9 := cell_old hg k9; clear hg k0 k1 k2 k3 k4 k5 k6 k7 k8 k9
        go_wp2
        exact ⟨rfl, rfl, rfl, Grow.refl _⟩
      simp only [Act.put, List.setIfInBounds_toArray, List.set_cons_zero, List.set_cons_succ]
      refine Obl.still (fun W hg _ => ?_) ?_
      · have c0 := cell_old hg k0; have c1 := cell_old hg k1; have c2 := cell_old hg k2; have c3 := cell_old hg k3; have c4 := cell_old hg k4; have c5 := cell_old hg k5; have c6 := cell_old hg k6; have c7 := cell_old hg k7; have c8 := cell_old hg k8; have c9 := cell_old hg k9; clear hg k0 k1 k2 k3 k4 k5 k6 k7 k8 k9
        go_wp2
        exact ⟨rfl, rfl, rfl, Grow.refl _⟩
      simp only [Act.put, List.setIfInBounds_toArray, List.set_cons_zero, List.set_cons_succ]
      refine Obl.still (fun W hg _ => ?_) ?_
      · have c0 := cell_old hg k0; have c1 := cell_old hg k1; have c2 := cell_old hg k2; have c3 := cell_old hg k3; have c4 := cell_old hg k4; have c5 := cell_old hg k5; have c6 := cell_old hg k6; have c7 := cell_old hg k7; have c8 := cell_old hg k8; have c9 := cell_old hg k9; clear hg k0 k1 k2 k3 k4 k5 k6 k7 k8 k9
        go_wp2
        exact ⟨rfl, rfl, rfl, Grow.refl _⟩
      simp only [Act.put, List.setIfInBounds_toArray, List.set_cons_zero, List.set_cons_succ]
      refine Obl.still (fun W hg _ => ?_) ?_
      · have c0 := cell_old hg k0; have c1 := cell_old hg k1; have c2 := cell_old hg k2; have c3 := cell_old hg k3; have c4 := cell_old hg k4; have c5 := cell_old hg k5; have c6 := cell_old hg k6; have c7 := cell_old hg k7; have c8 := cell_old hg k8; have c9 := cell_old hg k9; clear hg k0 k1 k2 k3 k4 k5 k6 k7 k8 k9
        go_wp2
        exact ⟨rfl, rfl, rfl, Grow.refl _⟩
      simp only [Act.put, List.setIfInBounds_toArray, List.set_cons_zero, List.set_cons_succ]
      refine Obl.still (fun W hg _ => ?_) ?_
      · have c0 := cell_old hg k0; have c1 := cell_old hg k1; have c2 := cell_old hg k2; have c3 := cell_old hg k3; have c4 := cell_old hg k4; have c5 := cell_old hg k5; have c6 := cell_old hg k6; have c7 := cell_old hg k7; have c8 := cell_old hg k8; have c9 := cell_old hg k9; clear hg k0 k1 k2 k3 k4 k5 k6 k7 k8 k9
        go_wp2
        exact ⟨rfl, rfl, rfl, Grow.refl _⟩
      simp only [Act.put, List.setIfInBounds_toArray, List.set_cons_zero, List.set_cons_succ]
      refine Obl.still (fun W hg _ => ?_) ?_
      · have c0 := cell_old hg k0; have c1 := cell_old hg k1; have c2 := cell_old hg k2; have c3 := cell_old hg k3; have c4 := cell_old hg k4; have c5 := cell_old hg k5; have c6 := cell_old hg k6; have c7 := cell_old hg k7; have c8 := cell_old hg k8; have c9 := cell_old hg k9; clear hg k0 k1 k2 k3 k4 k5 k6 k7 k8 k9
        go_wp2
        exact ⟨rfl, rfl, rfl, Grow.refl _⟩
      simp only [Act.put, List.setIfInBounds_toArray, List.set_cons_zero, List.set_cons_succ]
      refine Obl.still (fun W hg _ => ?_) ?_
      · have c0 := cell_old hg k0; have c1 := cell_old hg k1; have c2 := cell_old hg k2; have c3 := cell_old hg k3; have c4 := cell_old hg k4; have c5 := cell_old hg k5; have c6 := cell_old hg k6; have c7 := cell_old hg k7; have c8 := cell_old hg k8; have c9 := cell_old hg k9; clear hg k0 k1 k2 k3 k4 k5 k6 k7 k8 k9
        go_wp2
        exact ⟨rfl, rfl, rfl, Grow.refl _⟩
      simp only [Act.put, List.setIfInBounds_toArray, List.set_cons_zero, List.set_cons_succ]
      refine Obl.grow (OwnV.keep _ _ _) (fun W hg _ => ?_) (fun v21 => ?_)
      · have gW := GG.out.trans _ _ _ ((Below.refl _ _).drew.trans hg)
        have HC := Lib.hid (climb_any f As (Option.map (fun x => x.add lo) At) f.N cs ea (ct - lo) seed (cutL told lo (lo + ea)) tree q i W (HL.out.1.below gW) HL.out.2.1.N HL.out.2.1.A2 (HL.out.2.2.1.below gW) HL.out.2.2.2.1 HL.out.2.2.2.2.1 HL.out.2.2.2.2.2 (by omega) (by have := (HT.out.below gW).sub lo (lo + ea) (by omega) (by omega); rw [show lo + ea - lo = ea by omega] at this; exact this) (by rw [cutL_length _ _ _ (by omega) (by have := HT.out.len; omega), ← HEA.out]; omega) (by omega))
        unfold vPlace at HC
        clear gW
        clear hg k0 k1 k2 k3 k4 k5 k6 k7 k8 k9
        go_wp2_with fail
        refine (HC.out).mono ?_
        rintro e w' ⟨A1, n1, c1, rfl, h1, h2⟩
        go_wp2
        exact ⟨rfl, rfl, ⟨_, _, _, rfl, h1.mono (Nat.zero_le _)⟩, h2⟩
      simp only [Act.put, List.setIfInBounds_toArray, List.set_cons_zero, List.set_cons_succ]
      refine Obl.done (fun W hg hall => ?_)
      obtain ⟨h21, _⟩ := hall
      obtain ⟨A5, n5, c5, rfl, h21⟩ := h21
      obtain rfl : f.N = n5 := by rw [← h21.len, fClimb_length _ _ _ _ _ _ _ (by omega)]
      have hgr : Below wr.heap.size wr W := (Below.refl _ _).drew.trans hg
      have HO2 := Lib.hid (HO.out.below hgr)
      have H5 := Lib.hid h21
      have H6 := Lib.hid (Grow.trans _ _ _ HGW.out hgr)
      have hsz : w2.heap.size ≤ W.heap.size := Nat.le_trans HGW.out.size hgr.size
      clear hg hgr h21 k0 k1 k2 k3 k4 k5 k6 k7 k8 k9 hmd hor' HO
      go_wp2_with (at_builtin; refine wpList_append_sl rfl _ _ 24 5 (.int .u8 0) 1 rfl Tryz.underlying24 infoB rfl (fun _ => rfl) rfl rfl HO2.out H5.out.rd (by omega) (by omega) hsz ?_; intro A' c' w' h3 h4 h5; have H3 := Lib.hid h3; have H8 := Lib.hid (Below.trans H6.out h5); clear h3 h4 h5)
      go_roundw
      case rel =>
        refine ⟨k + 1, A', c', by omega, by go_num, by rw [Nat.succ_mul], ?_, H8.out⟩
        rw [Nat.succ_mul, range_flat, HI.out.1, show k * fEach f = lo from (by unfold fEach; rw [HEA.out]; exact HI.out.2), show (k + 1) * fEach f = lo + ea from (by unfold fEach; rw [HEA.out, Nat.succ_mul, HI.out.2])]
        exact H3.out
      case measure => simp [intOf]; omega
    · obtain rfl : k = f.K := by omega
      have GG2 := Lib.hid (Below.alloc GG.out GG.out.size (.cells #[.slice A (f.K * f.N) c] 24))
      have hsz := GG2.out.size
      clear hg p0 p1 p2 p3 p4 p5 p6 p7 M4 ho
      go_wp2_with fail
      have hln : ((List.range f.K).flatMap fun k => fClimb f.N seed tree q (cutL told (k * fEach f) ((k + 1) * fEach f)) (fIndex f b k) f.A).length = f.K * f.N := by rw [flat_len _ _ f.N (fun i => fClimb_length _ _ _ _ _ _ _ (by omega)), List.length_range]
      have h16 : 16 ≤ f.K * f.N := by calc 16 ≤ 1 * f.N := by omega
                                       _ ≤ f.K * f.N := Nat.mul_le_mul_right _ hK1
      have HC := Lib.hid (ptweak_any f As f.N cs seed tree q 4 0 0 wr.heap.size 1 [(List.range f.K).flatMap fun k => fClimb f.N seed tree q (cutL told (k * fEach f) ((k + 1) * fEach f)) (fIndex f b k) f.A] _ (HL.out.1.below GG2.out) HL.out.2.1.N (HL.out.2.2.1.below GG2.out) HL.out.2.2.2.1 HL.out.2.2.2.2.1 HL.out.2.2.2.2.2 (by omega) (by omega) (by omega) (parts1 (cell_newAt rfl rfl) (HO.out.rd.alloc _)) (by omega) (by simp only [List.flatten_cons, List.flatten_nil, List.append_nil, hln]; omega) (by simp only [List.flatten_cons, List.flatten_nil, List.append_nil, hln]; omega))
      rw [show [(List.range f.K).flatMap fun k => fClimb f.N seed tree q (cutL told (k * fEach f) ((k + 1) * fEach f)) (fIndex f b k) f.A].flatten = (List.range f.K).flatMap fun k => fClimb f.N seed tree q (cutL told (k * fEach f) ((k + 1) * fEach f)) (fIndex f b k) f.A by simp] at HC
      unfold vPlace at HC
      refine HC.out.mono ?_
      rintro e w5 ⟨A4, n4, cc4, rfl, h5, h6⟩
      have h5' := h5.mono hsz
      have hB := Grow.trans _ _ _ GG2.out h6
      clear h5 h6 HC k0 k1 k2 k3 k4 k5 k6 k7 k8
      go_wp2
      go_ret
      exact ⟨_, _, _, rfl, h5', hB⟩
end Go.Proofs.Sl
