/- fors: a place's sums: tweak, secret. fors: what tells the i-th sum of a height: the closure that calls itself. fors: what makes the closure of sums; whether a set may be; whether it can be made. fors: whether a set can be made of secrets; a set that may be, in natural numbers. -/
import Derived.Test.YtipedpkkabfdjaaGreatDoorFits09
/- fors: a place's sums: tweak, secret. -/
namespace Go.Proofs.Sl
open Go.RowKit Go.Proofs

def vPlace (f : Few) (A : Option Addr) (n c tree q : Nat) : Value :=
  .agg #[.int .i64 (f.N : Int), .int .i64 (f.L : Int), .int .i64 (f.H : Int), .int .i64 (f.K : Int), .int .i64 (f.A : Int), .slice A n c, .int .u64 (tree : Int), .int .u32 (q : Int)]
def vSec (A1 A2 A3 : Option Addr) (n1 n2 n3 c1 c2 c3 : Nat) : Value := .agg #[.slice A1 n1 c1, .slice A2 n2 c2, .slice A3 n3 c3]

set_option maxHeartbeats 2000000 in
theorem ptweak_any (f : Few) (A : Option Addr) (n c : Nat) (seed : List UInt8) (tree q kind g i b k : Nat) (ls : List (List UInt8)) (w : World) (hL : Laid w) (hN : NOk f.N) (hs : Rd eB w A n seed) (hsl : seed.length = f.N)
    (ht : W64 tree) (hq : q < 4294967296) (hkd : kind < 4294967296) (hgg : g < 4294967296) (hi : i < 4294967296) (hP : Parts w (some ⟨b, 0, none⟩) k ls) (hk : 1 ≤ k) (hl0 : 0 < ls.flatten.length) (hl1 : ls.flatten.length ≤ 65536) :
    Calls Tryz.prog 64 #[vPlace f A n c tree q, .int .u32 (kind : Int), .int .u32 (g : Int), .int .u32 (i : Int), .slice (some ⟨b, 0, none⟩) k k] w (RetOwn eB w (tweakL f.N seed (fAd tree q kind g i) ls.flatten)) := by
  have HP := Lib.hid hP
  have HL := Lib.hid hL
  have HS := Lib.hid hs
  clear hP hL hs
  unfold vPlace
  go_enter Tryz.func64, Tryz.ntmps64
  go_wp2
  generalize hW0 : World.alloc w _ = W0
  have hb0 : Below w.heap.size w W0.drew := by rw [← hW0]; exact ((Below.refl _ _).alloc (Nat.le_refl _) _).drew
  have k0 : W0.drew.cell? ⟨w.heap.size, 0, none⟩ = some (.int .i64 (f.N : Int)) := by subst hW0; go_simp
  have k1 : W0.drew.cell? ⟨w.heap.size, 1, none⟩ = some (.int .i64 (f.L : Int)) := by subst hW0; go_simp
  have k2 : W0.drew.cell? ⟨w.heap.size, 2, none⟩ = some (.int .i64 (f.H : Int)) := by subst hW0; go_simp
  have k3 : W0.drew.cell? ⟨w.heap.size, 3, none⟩ = some (.int .i64 (f.K : Int)) := by subst hW0; go_simp
  have k4 : W0.drew.cell? ⟨w.heap.size, 4, none⟩ = some (.int .i64 (f.A : Int)) := by subst hW0; go_simp
  have k5 : W0.drew.cell? ⟨w.heap.size, 5, none⟩ = some (.slice A n c) := by subst hW0; go_simp
  have k6 : W0.drew.cell? ⟨w.heap.size, 6, none⟩ = some (.int .u64 (tree : Int)) := by subst hW0; go_simp
  have k7 : W0.drew.cell? ⟨w.heap.size, 7, none⟩ = some (.int .u32 (q : Int)) := by subst hW0; go_simp
  clear hW0
  refine wp_region_rg Grow 27 16 3 [[], [], [], [], [], [], [], [], [], [], [], [], [], [], [], [14]]
    [.still [] (.pointer (some ⟨w.heap.size, 0, none⟩)), .still [] (.pointer (some ⟨w.heap.size, 0, none⟩)), .still [] (.int .i64 (f.N : Int)), .still [] (.pointer (some ⟨w.heap.size, 5, none⟩)), .still [] (.slice A n c), .still [] (.pointer (some ⟨w.heap.size, 6, none⟩)), .still [] (.int .u64 (tree : Int)), .still [] (.int .u32 (kind : Int)), .still [] (.pointer (some ⟨w.heap.size, 7, none⟩)), .still [] (.int .u32 (q : Int)), .still [] (.int .u32 (g : Int)), .still [] (.int .u32 (i : Int)), .still [] (.agg #[.int .u32 0, .int .u64 (tree : Int), .int .u32 (kind : Int), .int .u32 (q : Int), .int .u32 (g : Int), .int .u32 (i : Int)]), .still [] (.slice (some ⟨b, 0, none⟩) k k), .grow [] (OwnV eB 0 ls.flatten), .grow [14] (OwnV eB w.heap.size (tweakL f.N seed (fAd tree q kind g i) ls.flatten))] (by kernel_rfl) (by kernel_rfl) rfl rfl rfl Grow.trans (Grow.refl _) ?_
  refine Obl.still (fun W hg _ => ?_) ?_
  · have c0 := cell_old hg k0; have c1 := cell_old hg k1; have c2 := cell_old hg k2; have c3 := cell_old hg k3; have c4 := cell_old hg k4; have c5 := cell_old hg k5; have c6 := cell_old hg k6; have c7 := cell_old hg k7; clear hg k0 k1 k2 k3 k4 k5 k6 k7
    go_wp2
    exact ⟨rfl, rfl, rfl, Grow.refl _⟩
  simp only [Act.put, List.setIfInBounds_toArray, List.set_cons_zero, List.set_cons_succ]
  refine Obl.still (fun W hg _ => ?_) ?_
  · have c0 := cell_old hg k0; have c1 := cell_old hg k1; have c2 := cell_old hg k2; have c3 := cell_old hg k3; have c4 := cell_old hg k4; have c5 := cell_old hg k5; have c6 := cell_old hg k6; have c7 := cell_old hg k7; clear hg k0 k1 k2 k3 k4 k5 k6 k7
    go_wp2
    exact ⟨rfl, rfl, rfl, Grow.refl _⟩
  simp only [Act.put, List.setIfInBounds_toArray, List.set_cons_zero, List.set_cons_succ]
  refine Obl.still (fun W hg _ => ?_) ?_
  · have c0 := cell_old hg k0; have c1 := cell_old hg k1; have c2 := cell_old hg k2; have c3 := cell_old hg k3; have c4 := cell_old hg k4; have c5 := cell_old hg k5; have c6 := cell_old hg k6; have c7 := cell_old hg k7; clear hg k0 k1 k2 k3 k4 k5 k6 k7
    go_wp2
    exact ⟨rfl, rfl, rfl, Grow.refl _⟩
  simp only [Act.put, List.setIfInBounds_toArray, List.set_cons_zero, List.set_cons_succ]
  refine Obl.still (fun W hg _ => ?_) ?_
  · have c0 := cell_old hg k0; have c1 := cell_old hg k1; have c2 := cell_old hg k2; have c3 := cell_old hg k3; have c4 := cell_old hg k4; have c5 := cell_old hg k5; have c6 := cell_old hg k6; have c7 := cell_old hg k7; clear hg k0 k1 k2 k3 k4 k5 k6 k7
    go_wp2
    exact ⟨rfl, rfl, rfl, Grow.refl _⟩
  simp only [Act.put, List.setIfInBounds_toArray, List.set_cons_zero, List.set_cons_succ]
  refine Obl.still (fun W hg _ => ?_) ?_
  · have c0 := cell_old hg k0; have c1 := cell_old hg k1; have c2 := cell_old hg k2; have c3 := cell_old hg k3; have c4 := cell_old hg k4; have c5 := cell_old hg k5; have c6 := cell_old hg k6; have c7 := cell_old hg k7; clear hg k0 k1 k2 k3 k4 k5 k6 k7
    go_wp2
    exact ⟨rfl, rfl, rfl, Grow.refl _⟩
  simp only [Act.put, List.setIfInBounds_toArray, List.set_cons_zero, List.set_cons_succ]
  refine Obl.still (fun W hg _ => ?_) ?_
  · have c0 := cell_old hg k0; have c1 := cell_old hg k1; have c2 := cell_old hg k2; have c3 := cell_old hg k3; have c4 := cell_old hg k4; have c5 := cell_old hg k5; have c6 := cell_old hg k6; have c7 := cell_old hg k7; clear hg k0 k1 k2 k3 k4 k5 k6 k7
    go_wp2
    exact ⟨rfl, rfl, rfl, Grow.refl _⟩
  simp only [Act.put, List.setIfInBounds_toArray, List.set_cons_zero, List.set_cons_succ]
  refine Obl.still (fun W hg _ => ?_) ?_
  · have c0 := cell_old hg k0; have c1 := cell_old hg k1; have c2 := cell_old hg k2; have c3 := cell_old hg k3; have c4 := cell_old hg k4; have c5 := cell_old hg k5; have c6 := cell_old hg k6; have c7 := cell_old hg k7; clear hg k0 k1 k2 k3 k4 k5 k6 k7
    go_wp2
    exact ⟨rfl, rfl, rfl, Grow.refl _⟩
  simp only [Act.put, List.setIfInBounds_toArray, List.set_cons_zero, List.set_cons_succ]
  refine Obl.still (fun W hg _ => ?_) ?_
  · have c0 := cell_old hg k0; have c1 := cell_old hg k1; have c2 := cell_old hg k2; have c3 := cell_old hg k3; have c4 := cell_old hg k4; have c5 := cell_old hg k5; have c6 := cell_old hg k6; have c7 := cell_old hg k7; clear hg k0 k1 k2 k3 k4 k5 k6 k7
    go_wp2
    exact ⟨rfl, rfl, rfl, Grow.refl _⟩
  simp only [Act.put, List.setIfInBounds_toArray, List.set_cons_zero, List.set_cons_succ]
  refine Obl.still (fun W hg _ => ?_) ?_
  · have c0 := cell_old hg k0; have c1 := cell_old hg k1; have c2 := cell_old hg k2; have c3 := cell_old hg k3; have c4 := cell_old hg k4; have c5 := cell_old hg k5; have c6 := cell_old hg k6; have c7 := cell_old hg k7; clear hg k0 k1 k2 k3 k4 k5 k6 k7
    go_wp2
    exact ⟨rfl, rfl, rfl, Grow.refl _⟩
  simp only [Act.put, List.setIfInBounds_toArray, List.set_cons_zero, List.set_cons_succ]
  refine Obl.still (fun W hg _ => ?_) ?_
  · have c0 := cell_old hg k0; have c1 := cell_old hg k1; have c2 := cell_old hg k2; have c3 := cell_old hg k3; have c4 := cell_old hg k4; have c5 := cell_old hg k5; have c6 := cell_old hg k6; have c7 := cell_old hg k7; clear hg k0 k1 k2 k3 k4 k5 k6 k7
    go_wp2
    exact ⟨rfl, rfl, rfl, Grow.refl _⟩
  simp only [Act.put, List.setIfInBounds_toArray, List.set_cons_zero, List.set_cons_succ]
  refine Obl.still (fun W hg _ => ?_) ?_
  · have c0 := cell_old hg k0; have c1 := cell_old hg k1; have c2 := cell_old hg k2; have c3 := cell_old hg k3; have c4 := cell_old hg k4; have c5 := cell_old hg k5; have c6 := cell_old hg k6; have c7 := cell_old hg k7; clear hg k0 k1 k2 k3 k4 k5 k6 k7
    go_wp2
    exact ⟨rfl, rfl, rfl, Grow.refl _⟩
  simp only [Act.put, List.setIfInBounds_toArray, List.set_cons_zero, List.set_cons_succ]
  refine Obl.still (fun W hg _ => ?_) ?_
  · have c0 := cell_old hg k0; have c1 := cell_old hg k1; have c2 := cell_old hg k2; have c3 := cell_old hg k3; have c4 := cell_old hg k4; have c5 := cell_old hg k5; have c6 := cell_old hg k6; have c7 := cell_old hg k7; clear hg k0 k1 k2 k3 k4 k5 k6 k7
    go_wp2
    exact ⟨rfl, rfl, rfl, Grow.refl _⟩
  simp only [Act.put, List.setIfInBounds_toArray, List.set_cons_zero, List.set_cons_succ]
  refine Obl.still (fun W hg _ => ?_) ?_
  · have c0 := cell_old hg k0; have c1 := cell_old hg k1; have c2 := cell_old hg k2; have c3 := cell_old hg k3; have c4 := cell_old hg k4; have c5 := cell_old hg k5; have c6 := cell_old hg k6; have c7 := cell_old hg k7; clear hg k0 k1 k2 k3 k4 k5 k6 k7
    go_wp2
    exact ⟨rfl, rfl, rfl, Grow.refl _⟩
  simp only [Act.put, List.setIfInBounds_toArray, List.set_cons_zero, List.set_cons_succ]
  refine Obl.still (fun W hg _ => ?_) ?_
  · have c0 := cell_old hg k0; have c1 := cell_old hg k1; have c2 := cell_old hg k2; have c3 := cell_old hg k3; have c4 := cell_old hg k4; have c5 := cell_old hg k5; have c6 := cell_old hg k6; have c7 := cell_old hg k7; clear hg k0 k1 k2 k3 k4 k5 k6 k7
    go_wp2
    exact ⟨rfl, rfl, rfl, Grow.refl _⟩
  simp only [Act.put, List.setIfInBounds_toArray, List.set_cons_zero, List.set_cons_succ]
  refine Obl.grow (OwnV.keep _ _ _) (fun W hg _ => ?_) (fun v14 => ?_)
  · have HC := Lib.hid (cat_any b 0 k k ls W (HP.out.below (hb0.trans (hg.mono hb0.size))) hk (Nat.le_refl _) hl0 (by omega))
    clear hg k0 k1 k2 k3 k4 k5 k6 k7
    go_wp2_with fail
    refine (HC.out).mono ?_
    rintro e w' ⟨A1, n1, c1, rfl, h1, h2⟩
    go_wp2
    exact ⟨rfl, rfl, ⟨_, _, _, rfl, h1.mono (Nat.zero_le _)⟩, h2⟩
  simp only [Act.put, List.setIfInBounds_toArray, List.set_cons_zero, List.set_cons_succ]
  refine Obl.grow (OwnV.keep _ _ _) (fun W hg ⟨h14, _⟩ => ?_) (fun v15 => ?_)
  · obtain ⟨Ah14, nh14, ch14, rfl, h14⟩ := h14
    have HC := Lib.hid (tweak_any f.N A Ah14 n c nh14 ch14 seed ls.flatten (fAd tree q kind g i) W (HL.out.below (hb0.trans (hg.mono hb0.size))) hN (HS.out.below (hb0.trans (hg.mono hb0.size))) hsl h14.rd hl1 ⟨by show 0 < _; omega, ht, hkd, hq, hgg, hi⟩)
    have hsz : w.heap.size ≤ W.heap.size := Nat.le_trans hb0.size hg.size
    clear hg k0 k1 k2 k3 k4 k5 k6 k7
    go_wp2_with fail
    refine (HC.out).mono ?_
    rintro e w' ⟨A1, n1, c1, rfl, h1, h2⟩
    go_wp2
    exact ⟨rfl, rfl, ⟨_, _, _, rfl, h1.mono hsz⟩, h2⟩
  simp only [Act.put, List.setIfInBounds_toArray, List.set_cons_zero, List.set_cons_succ]
  refine Obl.done (fun W hg hall => ?_)
  obtain ⟨h15, _⟩ := hall
  obtain ⟨A, n, c, rfl, h15⟩ := h15
  have hB := hb0.trans (hg.mono hb0.size)
  clear hg k0 k1 k2 k3 k4 k5 k6 k7 hb0
  go_wp2
  go_ret
  exact ⟨_, _, _, rfl, h15, hB⟩

set_option maxHeartbeats 2000000 in
theorem psecret_any (f : Few) (A A1 A2 A3 : Option Addr) (n c n1 n2 n3 c1 c2 c3 : Nat) (seed sec : List UInt8) (tree q i : Nat) (w : World) (hL : Laid w) (hN : NOk f.N) (hs : Rd eB w A n seed) (hsl : seed.length = f.N)
    (ht : W64 tree) (hq : q < 4294967296) (hi : i < 4294967296) (h1 : Rd eB w A1 n1 sec) (hl : sec.length = f.N) :
    Calls Tryz.prog 63 #[vPlace f A n c tree q, vSec A1 A2 A3 n1 n2 n3 c1 c2 c3, .int .u32 (i : Int)] w (RetOwn eB w (fSecret f.N seed sec tree q i)) := by
  have hf1 : 1 ≤ f.N := by rcases hN with h | h | h <;> omega
  have hf2 : f.N ≤ 32 := by rcases hN with h | h | h <;> omega
  have H1 := Lib.hid h1
  have HL := Lib.hid hL
  have HS := Lib.hid hs
  have HLN := Lib.hid hl
  have HQ := Lib.hid (And.intro hq hi)
  clear h1 hL hs hl hq hi
  unfold vPlace vSec
  go_enter Tryz.func63, Tryz.ntmps63
  go_wp2_with fail
  have hg : Grow w (((w.alloc (.cells #[.int .i64 (f.N : Int), .int .i64 (f.L : Int), .int .i64 (f.H : Int), .int .i64 (f.K : Int), .int .i64 (f.A : Int), .slice A n c, .int .u64 (tree : Int), .int .u32 (q : Int)] 88)).alloc (.cells #[.slice A1 n1 c1, .slice A2 n2 c2, .slice A3 n3 c3] 26)).alloc (.cells #[.slice A1 n1 c1] 24)) :=
    (((Below.refl _ _).alloc (Nat.le_refl _) _).alloc (by simp) _).alloc (by simp; omega) _
  have HC := Lib.hid (ptweak_any f A n c seed tree q 6 0 i (w.heap.size + 2) 1 [sec] _ (HL.out.below hg) hN (HS.out.below hg) hsl ht HQ.out.1 (by omega) (by omega) HQ.out.2 (parts1 (cell_newAt (by simp) rfl) (H1.out.below hg)) (by omega) (by have := HLN.out; simp; omega) (by have := HLN.out; simp; omega))
  rw [show [sec].flatten = sec by simp] at HC
  unfold vPlace at HC
  refine HC.out.mono ?_
  rintro e W1 ⟨A4, n4, c4, rfl, h5, h6⟩
  have hsz := hg.size
  have hg2 := hg.trans _ _ _ h6
  clear hg h6
  go_wp2
  go_ret
  exact ⟨_, _, _, rfl, h5.mono hsz, hg2⟩
end Go.Proofs.Sl

/- fors: what tells the i-th sum of a height: the closure that calls itself. -/
namespace Go.Proofs.Sl
open Go.RowKit Go.Proofs

/-- The variables that the closure has captured: the place, the secrets, the closure itself. -/
structure FClos (f : Few) (A : Option Addr) (n c tree q : Nat) (A1 A2 A3 : Option Addr) (n1 n2 n3 c1 c2 c3 Bp Bm Ba : Nat) (w : World) : Prop where
  p0 : w.cell? ⟨Bp, 0, none⟩ = some (.int .i64 (f.N : Int))
  p1 : w.cell? ⟨Bp, 1, none⟩ = some (.int .i64 (f.L : Int))
  p2 : w.cell? ⟨Bp, 2, none⟩ = some (.int .i64 (f.H : Int))
  p3 : w.cell? ⟨Bp, 3, none⟩ = some (.int .i64 (f.K : Int))
  p4 : w.cell? ⟨Bp, 4, none⟩ = some (.int .i64 (f.A : Int))
  p5 : w.cell? ⟨Bp, 5, none⟩ = some (.slice A n c)
  p6 : w.cell? ⟨Bp, 6, none⟩ = some (.int .u64 (tree : Int))
  p7 : w.cell? ⟨Bp, 7, none⟩ = some (.int .u32 (q : Int))
  s0 : w.cell? ⟨Bm, 0, none⟩ = some (.slice A1 n1 c1)
  s1 : w.cell? ⟨Bm, 1, none⟩ = some (.slice A2 n2 c2)
  s2 : w.cell? ⟨Bm, 2, none⟩ = some (.slice A3 n3 c3)
  fn : w.cell? ⟨Ba, 0, none⟩ = some (.func (.func 98) #[] #[.pointer (some ⟨Bp, 0, none⟩), .pointer (some ⟨Bm, 0, none⟩), .pointer (some ⟨Ba, 0, none⟩)])
theorem FClos.below {f : Few} {A : Option Addr} {n c tree q : Nat} {A1 A2 A3 : Option Addr} {n1 n2 n3 c1 c2 c3 Bp Bm Ba : Nat} {w w' : World} (h : FClos f A n c tree q A1 A2 A3 n1 n2 n3 c1 c2 c3 Bp Bm Ba w) (hb : Below w.heap.size w w') :
    FClos f A n c tree q A1 A2 A3 n1 n2 n3 c1 c2 c3 Bp Bm Ba w' := ⟨cell_old hb h.p0, cell_old hb h.p1, cell_old hb h.p2, cell_old hb h.p3, cell_old hb h.p4, cell_old hb h.p5, cell_old hb h.p6, cell_old hb h.p7, cell_old hb h.s0, cell_old hb h.s1, cell_old hb h.s2, cell_old hb h.fn⟩

/-- What the sums stand on: the seed, the secret, the tables. -/
structure FGround (f : Few) (A : Option Addr) (n : Nat) (seed : List UInt8) (tree q : Nat) (A1 : Option Addr) (n1 : Nat) (sec : List UInt8) (w : World) : Prop where
  laid : Laid w
  N : NOk f.N
  rs : Rd eB w A n seed
  seedL : seed.length = f.N
  tree : W64 tree
  q : q < 4294967296
  rc : Rd eB w A1 n1 sec
  secL : sec.length = f.N
theorem FGround.below {f : Few} {A : Option Addr} {n : Nat} {seed : List UInt8} {tree q : Nat} {A1 : Option Addr} {n1 : Nat} {sec : List UInt8} {w w' : World} (h : FGround f A n seed tree q A1 n1 sec w) (hb : Below w.heap.size w w') : FGround f A n seed tree q A1 n1 sec w' :=
  ⟨h.laid.below hb, h.N, h.rs.below hb, h.seedL, h.tree, h.q, h.rc.below hb, h.secL⟩
theorem NOk.pos {n : Nat} (h : NOk n) : 16 ≤ n := by rcases h with h | h | h <;> omega
theorem NOk.le {n : Nat} (h : NOk n) : n ≤ 32 := by rcases h with h | h | h <;> omega
theorem fSecret_length (N : Nat) (seed sec : List UInt8) (tree q i : Nat) (h : N ≤ 136) : (fSecret N seed sec tree q i).length = N := tweakL_length _ _ _ _ h
theorem fNode_length (N : Nat) (seed sec : List UInt8) (tree q g i : Nat) (h : N ≤ 136) : (fNode N seed sec tree q g i).length = N := by
  cases g <;> exact tweakL_length _ _ _ _ h

set_option maxHeartbeats 4000000 in
theorem fnode_any (f : Few) (A A1 A2 A3 : Option Addr) (n c n1 n2 n3 c1 c2 c3 Bp Bm Ba : Nat) (seed sec : List UInt8) (tree q : Nat) : ∀ (g i : Nat) (w : World), FGround f A n seed tree q A1 n1 sec w → FClos f A n c tree q A1 A2 A3 n1 n2 n3 c1 c2 c3 Bp Bm Ba w → (i + 1) * 2 ^ g ≤ 1048576 →
    Calls Tryz.prog 98 #[.int .u32 (g : Int), .int .u32 (i : Int), .pointer (some ⟨Bp, 0, none⟩), .pointer (some ⟨Bm, 0, none⟩), .pointer (some ⟨Ba, 0, none⟩)] w (RetOwn eB w (fNode f.N seed sec tree q g i)) := by
  intro g
  induction g with
  | zero =>
    intro i w hG hF hi
    have HG := Lib.hid (hG.below (Below.refl _ w).drew)
    have HF := Lib.hid (hF.below (Below.refl _ w).drew)
    have HI : Hid (i < 4294967296) := Lib.hid (by simp at hi; omega)
    clear hG hF hi
    go_enter Tryz.func98, Tryz.ntmps98
    go_wp2
    have k0 : w.drew.cell? ⟨Bp, 0, none⟩ = some (.int .i64 (f.N : Int)) := HF.out.p0
    have k1 : w.drew.cell? ⟨Bp, 1, none⟩ = some (.int .i64 (f.L : Int)) := HF.out.p1
    have k2 : w.drew.cell? ⟨Bp, 2, none⟩ = some (.int .i64 (f.H : Int)) := HF.out.p2
    have k3 : w.drew.cell? ⟨Bp, 3, none⟩ = some (.int .i64 (f.K : Int)) := HF.out.p3
    have k4 : w.drew.cell? ⟨Bp, 4, none⟩ = some (.int .i64 (f.A : Int)) := HF.out.p4
    have k5 : w.drew.cell? ⟨Bp, 5, none⟩ = some (.slice A n c) := HF.out.p5
    have k6 : w.drew.cell? ⟨Bp, 6, none⟩ = some (.int .u64 (tree : Int)) := HF.out.p6
    have k7 : w.drew.cell? ⟨Bp, 7, none⟩ = some (.int .u32 (q : Int)) := HF.out.p7
    have k8 : w.drew.cell? ⟨Bm, 0, none⟩ = some (.slice A1 n1 c1) := HF.out.s0
    have k9 : w.drew.cell? ⟨Bm, 1, none⟩ = some (.slice A2 n2 c2) := HF.out.s1
    have k10 : w.drew.cell? ⟨Bm, 2, none⟩ = some (.slice A3 n3 c3) := HF.out.s2
    have k11 : w.drew.cell? ⟨Ba, 0, none⟩ = some (.func (.func 98) #[] #[.pointer (some ⟨Bp, 0, none⟩), .pointer (some ⟨Bm, 0, none⟩), .pointer (some ⟨Ba, 0, none⟩)]) := HF.out.fn
    refine wp_region_rg Grow 36 8 3 [[], [], [], [], [], [], [5], [6]]
      [.still [] (.agg #[.int .i64 (f.N : Int), .int .i64 (f.L : Int), .int .i64 (f.H : Int), .int .i64 (f.K : Int), .int .i64 (f.A : Int), .slice A n c, .int .u64 (tree : Int), .int .u32 (q : Int)]), .still [] (.int .u32 (i : Int)), .still [] (.agg #[.int .i64 (f.N : Int), .int .i64 (f.L : Int), .int .i64 (f.H : Int), .int .i64 (f.K : Int), .int .i64 (f.A : Int), .slice A n c, .int .u64 (tree : Int), .int .u32 (q : Int)]), .still [] (.agg #[.slice A1 n1 c1, .slice A2 n2 c2, .slice A3 n3 c3]), .still [] (.int .u32 (i : Int)), .grow [] (OwnV eB 0 (fSecret f.N seed sec tree q i)), .grow [5] (PartsV [fSecret f.N seed sec tree q i]), .grow [6] (OwnV eB w.heap.size (fNode f.N seed sec tree q 0 i))] (by kernel_rfl) (by kernel_rfl) rfl rfl rfl Grow.trans (Grow.refl _) ?_
    refine Obl.still (fun W hg _ => ?_) ?_
    · have c0 := cell_old hg k0; have c1 := cell_old hg k1; have c2 := cell_old hg k2; have c3 := cell_old hg k3; have c4 := cell_old hg k4; have c5 := cell_old hg k5; have c6 := cell_old hg k6; have c7 := cell_old hg k7; have c8 := cell_old hg k8; have c9 := cell_old hg k9; have c10 := cell_old hg k10; have c11 := cell_old hg k11; clear hg k0 k1 k2 k3 k4 k5 k6 k7 k8 k9 k10 k11
      go_wp2
      exact ⟨rfl, rfl, rfl, Grow.refl _⟩
    simp only [Act.put, List.setIfInBounds_toArray, List.set_cons_zero, List.set_cons_succ]
    refine Obl.still (fun W hg _ => ?_) ?_
    · have c0 := cell_old hg k0; have c1 := cell_old hg k1; have c2 := cell_old hg k2; have c3 := cell_old hg k3; have c4 := cell_old hg k4; have c5 := cell_old hg k5; have c6 := cell_old hg k6; have c7 := cell_old hg k7; have c8 := cell_old hg k8; have c9 := cell_old hg k9; have c10 := cell_old hg k10; have c11 := cell_old hg k11; clear hg k0 k1 k2 k3 k4 k5 k6 k7 k8 k9 k10 k11
      go_wp2
      exact ⟨rfl, rfl, rfl, Grow.refl _⟩
    simp only [Act.put, List.setIfInBounds_toArray, List.set_cons_zero, List.set_cons_succ]
    refine Obl.still (fun W hg _ => ?_) ?_
    · have c0 := cell_old hg k0; have c1 := cell_old hg k1; have c2 := cell_old hg k2; have c3 := cell_old hg k3; have c4 := cell_old hg k4; have c5 := cell_old hg k5; have c6 := cell_old hg k6; have c7 := cell_old hg k7; have c8 := cell_old hg k8; have c9 := cell_old hg k9; have c10 := cell_old hg k10; have c11 := cell_old hg k11; clear hg k0 k1 k2 k3 k4 k5 k6 k7 k8 k9 k10 k11
      go_wp2
      exact ⟨rfl, rfl, rfl, Grow.refl _⟩
    simp only [Act.put, List.setIfInBounds_toArray, List.set_cons_zero, List.set_cons_succ]
    refine Obl.still (fun W hg _ => ?_) ?_
    · have c0 := cell_old hg k0; have c1 := cell_old hg k1; have c2 := cell_old hg k2; have c3 := cell_old hg k3; have c4 := cell_old hg k4; have c5 := cell_old hg k5; have c6 := cell_old hg k6; have c7 := cell_old hg k7; have c8 := cell_old hg k8; have c9 := cell_old hg k9; have c10 := cell_old hg k10; have c11 := cell_old hg k11; clear hg k0 k1 k2 k3 k4 k5 k6 k7 k8 k9 k10 k11
      go_wp2
      exact ⟨rfl, rfl, rfl, Grow.refl _⟩
    simp only [Act.put, List.setIfInBounds_toArray, List.set_cons_zero, List.set_cons_succ]
    refine Obl.still (fun W hg _ => ?_) ?_
    · have c0 := cell_old hg k0; have c1 := cell_old hg k1; have c2 := cell_old hg k2; have c3 := cell_old hg k3; have c4 := cell_old hg k4; have c5 := cell_old hg k5; have c6 := cell_old hg k6; have c7 := cell_old hg k7; have c8 := cell_old hg k8; have c9 := cell_old hg k9; have c10 := cell_old hg k10; have c11 := cell_old hg k11; clear hg k0 k1 k2 k3 k4 k5 k6 k7 k8 k9 k10 k11
      go_wp2
      exact ⟨rfl, rfl, rfl, Grow.refl _⟩
    simp only [Act.put, List.setIfInBounds_toArray, List.set_cons_zero, List.set_cons_succ]
    refine Obl.grow (OwnV.keep _ _ _) (fun W hg _ => ?_) (fun v5 => ?_)
    · have HC := Lib.hid (psecret_any f A A1 A2 A3 n c n1 n2 n3 c1 c2 c3 seed sec tree q i W (HG.out.below hg).laid HG.out.N (HG.out.below hg).rs HG.out.seedL HG.out.tree HG.out.q HI.out (HG.out.below hg).rc HG.out.secL)
      unfold vPlace vSec at HC
      clear hg k0 k1 k2 k3 k4 k5 k6 k7 k8 k9 k10 k11
      go_wp2_with fail
      refine (HC.out).mono ?_
      rintro e w' ⟨A1, n1, c1, rfl, h1, h2⟩
      go_wp2
      exact ⟨rfl, rfl, ⟨_, _, _, rfl, h1.mono (Nat.zero_le _)⟩, h2⟩
    simp only [Act.put, List.setIfInBounds_toArray, List.set_cons_zero, List.set_cons_succ]
    refine Obl.grow (PartsV.keep _) (fun W hg ⟨h5, _⟩ => ?_) (fun v6 => ?_)
    · obtain ⟨Ah5, nh5, ch5, rfl, h5⟩ := h5
      clear hg k0 k1 k2 k3 k4 k5 k6 k7 k8 k9 k10 k11
      go_wp2
      exact ⟨rfl, rfl, ⟨_, _, rfl, parts1 (cell_new ..) (h5.rd.alloc _)⟩, (Below.refl _ _).alloc (Nat.le_refl _) _⟩
    simp only [Act.put, List.setIfInBounds_toArray, List.set_cons_zero, List.set_cons_succ]
    refine Obl.grow (OwnV.keep _ _ _) (fun W hg ⟨h6, _⟩ => ?_) (fun v7 => ?_)
    · obtain ⟨bh6, nh6, rfl, h6⟩ := h6
      have hnn : nh6 = 1 := by rw [← h6.len]; rfl
      subst hnn
      have HC := Lib.hid (ptweak_any f A n c seed tree q 3 0 i bh6 1 _ W (HG.out.below hg).laid HG.out.N (HG.out.below hg).rs HG.out.seedL HG.out.tree HG.out.q (by omega) (by omega) HI.out h6 (by omega) (by rw [show [fSecret f.N seed sec tree q i].flatten = fSecret f.N seed sec tree q i by simp, fSecret_length _ _ _ _ _ _ (by have := HG.out.N.le; omega)]; have := HG.out.N.pos; omega) (by rw [show [fSecret f.N seed sec tree q i].flatten = fSecret f.N seed sec tree q i by simp, fSecret_length _ _ _ _ _ _ (by have := HG.out.N.le; omega)]; have := HG.out.N.le; omega))
      rw [show [fSecret f.N seed sec tree q i].flatten = fSecret f.N seed sec tree q i by simp] at HC
      unfold vPlace at HC
      have hsz : w.heap.size ≤ W.heap.size := (show w.drew.heap.size ≤ W.heap.size from hg.size)
      clear hg k0 k1 k2 k3 k4 k5 k6 k7 k8 k9 k10 k11
      go_wp2_with fail
      refine (HC.out).mono ?_
      rintro e w' ⟨A1, n1, c1, rfl, h1, h2⟩
      go_wp2
      exact ⟨rfl, rfl, ⟨_, _, _, rfl, h1.mono hsz⟩, h2⟩
    simp only [Act.put, List.setIfInBounds_toArray, List.set_cons_zero, List.set_cons_succ]
    refine Obl.done (fun W hg hall => ?_)
    obtain ⟨h7, _⟩ := hall
    obtain ⟨A', n', c', rfl, h7⟩ := h7
    have hB : Below w.heap.size w W := (Below.refl _ _).drew.trans hg
    clear hg k0 k1 k2 k3 k4 k5 k6 k7 k8 k9 k10 k11
    go_wp2
    go_ret
    exact ⟨_, _, _, rfl, h7, hB⟩

  | succ g ih =>
    intro i w hG hF hi
    have hp : 1 ≤ 2 ^ g := Nat.one_le_two_pow
    have hi2 : (i + 1) * 2 ≤ 1048576 := by
      refine Nat.le_trans ?_ hi
      rw [Nat.pow_succ]
      exact Nat.mul_le_mul_left _ (by omega)
    have hg2 : g + 1 ≤ 1048576 := by
      have : g + 1 < 2 ^ (g + 1) := Nat.lt_two_pow_self
      have h3 : 2 ^ (g + 1) ≤ (i + 1) * 2 ^ (g + 1) := Nat.le_mul_of_pos_left _ (by omega)
      omega
    have HG := Lib.hid (hG.below (Below.refl _ w).drew)
    have HF := Lib.hid (hF.below (Below.refl _ w).drew)
    have HI := Lib.hid hi
    have IH := Lib.hid ih
    have HB : Hid (i < 4294967296 ∧ g + 1 < 4294967296) := Lib.hid ⟨by omega, by omega⟩
    have e1 : ((g + 1 : Nat) : Int) = (g : Int) + 1 := by omega
    rw [e1]
    have E1 := Lib.hid e1
    have E2 : Hid (((2 * i : Nat) : Int) = 2 * (i : Int)) := Lib.hid (by omega)
    have E3 : Hid (((2 * i + 1 : Nat) : Int) = 2 * (i : Int) + 1) := Lib.hid (by omega)
    have b0 : ((g : Int) + 1 == 0) = false := by simp; omega
    have b1 : (g : Int) % 4294967296 = (g : Int) := by omega
    have b2 : (2 * (i : Int)) % 4294967296 = 2 * (i : Int) := by omega
    have b3 : (2 * (i : Int) + 1) % 4294967296 = 2 * (i : Int) + 1 := by omega
    clear hG hF hi ih e1 hp hi2 hg2
    go_enter Tryz.func98, Tryz.ntmps98
    go_wp2
    have k0 : w.drew.cell? ⟨Bp, 0, none⟩ = some (.int .i64 (f.N : Int)) := HF.out.p0
    have k1 : w.drew.cell? ⟨Bp, 1, none⟩ = some (.int .i64 (f.L : Int)) := HF.out.p1
    have k2 : w.drew.cell? ⟨Bp, 2, none⟩ = some (.int .i64 (f.H : Int)) := HF.out.p2
    have k3 : w.drew.cell? ⟨Bp, 3, none⟩ = some (.int .i64 (f.K : Int)) := HF.out.p3
    have k4 : w.drew.cell? ⟨Bp, 4, none⟩ = some (.int .i64 (f.A : Int)) := HF.out.p4
    have k5 : w.drew.cell? ⟨Bp, 5, none⟩ = some (.slice A n c) := HF.out.p5
    have k6 : w.drew.cell? ⟨Bp, 6, none⟩ = some (.int .u64 (tree : Int)) := HF.out.p6
    have k7 : w.drew.cell? ⟨Bp, 7, none⟩ = some (.int .u32 (q : Int)) := HF.out.p7
    have k8 : w.drew.cell? ⟨Bm, 0, none⟩ = some (.slice A1 n1 c1) := HF.out.s0
    have k9 : w.drew.cell? ⟨Bm, 1, none⟩ = some (.slice A2 n2 c2) := HF.out.s1
    have k10 : w.drew.cell? ⟨Bm, 2, none⟩ = some (.slice A3 n3 c3) := HF.out.s2
    have k11 : w.drew.cell? ⟨Ba, 0, none⟩ = some (.func (.func 98) #[] #[.pointer (some ⟨Bp, 0, none⟩), .pointer (some ⟨Bm, 0, none⟩), .pointer (some ⟨Ba, 0, none⟩)]) := HF.out.fn
    refine wp_region_rg Grow 36 18 3 [[], [], [], [], [], [], [], [], [], [], [], [], [], [], [], [], [8, 15], [16]]
      [.still [] (.agg #[.int .i64 (f.N : Int), .int .i64 (f.L : Int), .int .i64 (f.H : Int), .int .i64 (f.K : Int), .int .i64 (f.A : Int), .slice A n c, .int .u64 (tree : Int), .int .u32 (q : Int)]), .still [] (.int .u32 ((g : Int) + 1)), .still [] (.int .u32 (i : Int)), .still [] (.func (.func 98) #[] #[.pointer (some ⟨Bp, 0, none⟩), .pointer (some ⟨Bm, 0, none⟩), .pointer (some ⟨Ba, 0, none⟩)]), .still [] (.int .u32 ((g : Int) + 1)), .still [] (.int .u32 (g : Int)), .still [] (.int .u32 (i : Int)), .still [] (.int .u32 (2 * (i : Int))), .grow [] (OwnV eB 0 (fNode f.N seed sec tree q g (2 * i))), .still [] (.func (.func 98) #[] #[.pointer (some ⟨Bp, 0, none⟩), .pointer (some ⟨Bm, 0, none⟩), .pointer (some ⟨Ba, 0, none⟩)]), .still [] (.int .u32 ((g : Int) + 1)), .still [] (.int .u32 (g : Int)), .still [] (.int .u32 (i : Int)), .still [] (.int .u32 (2 * (i : Int))), .still [] (.int .u32 (2 * (i : Int) + 1)), .grow [] (OwnV eB 0 (fNode f.N seed sec tree q g (2 * i + 1))), .grow [8, 15] (PartsV [fNode f.N seed sec tree q g (2 * i), fNode f.N seed sec tree q g (2 * i + 1)]), .grow [16] (OwnV eB w.heap.size (fNode f.N seed sec tree q (g + 1) i))] (by kernel_rfl) (by kernel_rfl) rfl rfl rfl Grow.trans (Grow.refl _) ?_
    refine Obl.still (fun W hg _ => ?_) ?_
    · have c0 := cell_old hg k0; have c1 := cell_old hg k1; have c2 := cell_old hg k2; have c3 := cell_old hg k3; have c4 := cell_old hg k4; have c5 := cell_old hg k5; have c6 := cell_old hg k6; have c7 := cell_old hg k7; have c8 := cell_old hg k8; have c9 := cell_old hg k9; have c10 := cell_old hg k10; have c11 := cell_old hg k11; clear hg k0 k1 k2 k3 k4 k5 k6 k7 k8 k9 k10 k11
      go_wp2
      exact ⟨rfl, rfl, rfl, Grow.refl _⟩
    simp only [Act.put, List.setIfInBounds_toArray, List.set_cons_zero, List.set_cons_succ]
    refine Obl.still (fun W hg _ => ?_) ?_
    · have c0 := cell_old hg k0; have c1 := cell_old hg k1; have c2 := cell_old hg k2; have c3 := cell_old hg k3; have c4 := cell_old hg k4; have c5 := cell_old hg k5; have c6 := cell_old hg k6; have c7 := cell_old hg k7; have c8 := cell_old hg k8; have c9 := cell_old hg k9; have c10 := cell_old hg k10; have c11 := cell_old hg k11; clear hg k0 k1 k2 k3 k4 k5 k6 k7 k8 k9 k10 k11
      go_wp2
      exact ⟨rfl, rfl, rfl, Grow.refl _⟩
    simp only [Act.put, List.setIfInBounds_toArray, List.set_cons_zero, List.set_cons_succ]
    refine Obl.still (fun W hg _ => ?_) ?_
    · have c0 := cell_old hg k0; have c1 := cell_old hg k1; have c2 := cell_old hg k2; have c3 := cell_old hg k3; have c4 := cell_old hg k4; have c5 := cell_old hg k5; have c6 := cell_old hg k6; have c7 := cell_old hg k7; have c8 := cell_old hg k8; have c9 := cell_old hg k9; have c10 := cell_old hg k10; have c11 := cell_old hg k11; clear hg k0 k1 k2 k3 k4 k5 k6 k7 k8 k9 k10 k11
      go_wp2
      exact ⟨rfl, rfl, rfl, Grow.refl _⟩
    simp only [Act.put, List.setIfInBounds_toArray, List.set_cons_zero, List.set_cons_succ]
    refine Obl.still (fun W hg _ => ?_) ?_
    · have c0 := cell_old hg k0; have c1 := cell_old hg k1; have c2 := cell_old hg k2; have c3 := cell_old hg k3; have c4 := cell_old hg k4; have c5 := cell_old hg k5; have c6 := cell_old hg k6; have c7 := cell_old hg k7; have c8 := cell_old hg k8; have c9 := cell_old hg k9; have c10 := cell_old hg k10; have c11 := cell_old hg k11; clear hg k0 k1 k2 k3 k4 k5 k6 k7 k8 k9 k10 k11
      go_wp2
      exact ⟨rfl, rfl, rfl, Grow.refl _⟩
    simp only [Act.put, List.setIfInBounds_toArray, List.set_cons_zero, List.set_cons_succ]
    refine Obl.still (fun W hg _ => ?_) ?_
    · have c0 := cell_old hg k0; have c1 := cell_old hg k1; have c2 := cell_old hg k2; have c3 := cell_old hg k3; have c4 := cell_old hg k4; have c5 := cell_old hg k5; have c6 := cell_old hg k6; have c7 := cell_old hg k7; have c8 := cell_old hg k8; have c9 := cell_old hg k9; have c10 := cell_old hg k10; have c11 := cell_old hg k11; clear hg k0 k1 k2 k3 k4 k5 k6 k7 k8 k9 k10 k11
      go_wp2
      exact ⟨rfl, rfl, rfl, Grow.refl _⟩
    simp only [Act.put, List.setIfInBounds_toArray, List.set_cons_zero, List.set_cons_succ]
    refine Obl.still (fun W hg _ => ?_) ?_
    · have c0 := cell_old hg k0; have c1 := cell_old hg k1; have c2 := cell_old hg k2; have c3 := cell_old hg k3; have c4 := cell_old hg k4; have c5 := cell_old hg k5; have c6 := cell_old hg k6; have c7 := cell_old hg k7; have c8 := cell_old hg k8; have c9 := cell_old hg k9; have c10 := cell_old hg k10; have c11 := cell_old hg k11; clear hg k0 k1 k2 k3 k4 k5 k6 k7 k8 k9 k10 k11
      go_wp2
      exact ⟨rfl, rfl, rfl, Grow.refl _⟩
    simp only [Act.put, List.setIfInBounds_toArray, List.set_cons_zero, List.set_cons_succ]
    refine Obl.still (fun W hg _ => ?_) ?_
    · have c0 := cell_old hg k0; have c1 := cell_old hg k1; have c2 := cell_old hg k2; have c3 := cell_old hg k3; have c4 := cell_old hg k4; have c5 := cell_old hg k5; have c6 := cell_old hg k6; have c7 := cell_old hg k7; have c8 := cell_old hg k8; have c9 := cell_old hg k9; have c10 := cell_old hg k10; have c11 := cell_old hg k11; clear hg k0 k1 k2 k3 k4 k5 k6 k7 k8 k9 k10 k11
      go_wp2
      exact ⟨rfl, rfl, rfl, Grow.refl _⟩
    simp only [Act.put, List.setIfInBounds_toArray, List.set_cons_zero, List.set_cons_succ]
    refine Obl.still (fun W hg _ => ?_) ?_
    · have c0 := cell_old hg k0; have c1 := cell_old hg k1; have c2 := cell_old hg k2; have c3 := cell_old hg k3; have c4 := cell_old hg k4; have c5 := cell_old hg k5; have c6 := cell_old hg k6; have c7 := cell_old hg k7; have c8 := cell_old hg k8; have c9 := cell_old hg k9; have c10 := cell_old hg k10; have c11 := cell_old hg k11; clear hg k0 k1 k2 k3 k4 k5 k6 k7 k8 k9 k10 k11
      go_wp2
      exact ⟨rfl, rfl, rfl, Grow.refl _⟩
    simp only [Act.put, List.setIfInBounds_toArray, List.set_cons_zero, List.set_cons_succ]
    refine Obl.grow (OwnV.keep _ _ _) (fun W hg _ => ?_) (fun v8 => ?_)
    · have HC := Lib.hid (IH.out (2 * i) W (HG.out.below hg) (HF.out.below hg) (by have := HI.out; rw [Nat.pow_succ] at this; calc (2 * i + 1) * 2 ^ g ≤ ((i + 1) * 2) * 2 ^ g := Nat.mul_le_mul_right _ (by omega)
        _ = (i + 1) * (2 ^ g * 2) := by rw [Nat.mul_assoc, Nat.mul_comm 2]
        _ ≤ _ := this))
      rw [E2.out] at HC
      clear hg k0 k1 k2 k3 k4 k5 k6 k7 k8 k9 k10 k11
      go_wp2_with fail
      refine (HC.out).mono ?_
      rintro e w' ⟨A1, n1, c1, rfl, h1, h2⟩
      go_wp2
      exact ⟨rfl, rfl, ⟨_, _, _, rfl, h1.mono (Nat.zero_le _)⟩, h2⟩
    simp only [Act.put, List.setIfInBounds_toArray, List.set_cons_zero, List.set_cons_succ]
    refine Obl.still (fun W hg _ => ?_) ?_
    · have c0 := cell_old hg k0; have c1 := cell_old hg k1; have c2 := cell_old hg k2; have c3 := cell_old hg k3; have c4 := cell_old hg k4; have c5 := cell_old hg k5; have c6 := cell_old hg k6; have c7 := cell_old hg k7; have c8 := cell_old hg k8; have c9 := cell_old hg k9; have c10 := cell_old hg k10; have c11 := cell_old hg k11; clear hg k0 k1 k2 k3 k4 k5 k6 k7 k8 k9 k10 k11
      go_wp2
      exact ⟨rfl, rfl, rfl, Grow.refl _⟩
    simp only [Act.put, List.setIfInBounds_toArray, List.set_cons_zero, List.set_cons_succ]
    refine Obl.still (fun W hg _ => ?_) ?_
    · have c0 := cell_old hg k0; have c1 := cell_old hg k1; have c2 := cell_old hg k2; have c3 := cell_old hg k3; have c4 := cell_old hg k4; have c5 := cell_old hg k5; have c6 := cell_old hg k6; have c7 := cell_old hg k7; have c8 := cell_old hg k8; have c9 := cell_old hg k9; have c10 := cell_old hg k10; have c11 := cell_old hg k11; clear hg k0 k1 k2 k3 k4 k5 k6 k7 k8 k9 k10 k11
      go_wp2
      exact ⟨rfl, rfl, rfl, Grow.refl _⟩
    simp only [Act.put, List.setIfInBounds_toArray, List.set_cons_zero, List.set_cons_succ]
    refine Obl.still (fun W hg _ => ?_) ?_
    · have c0 := cell_old hg k0; have c1 := cell_old hg k1; have c2 := cell_old hg k2; have c3 := cell_old hg k3; have c4 := cell_old hg k4; have c5 := cell_old hg k5; have c6 := cell_old hg k6; have c7 := cell_old hg k7; have c8 := cell_old hg k8; have c9 := cell_old hg k9; have c10 := cell_old hg k10; have c11 := cell_old hg k11; clear hg k0 k1 k2 k3 k4 k5 k6 k7 k8 k9 k10 k11
      go_wp2
      exact ⟨rfl, rfl, rfl, Grow.refl _⟩
    simp only [Act.put, List.setIfInBounds_toArray, List.set_cons_zero, List.set_cons_succ]
    refine Obl.still (fun W hg _ => ?_) ?_
    · have c0 := cell_old hg k0; have c1 := cell_old hg k1; have c2 := cell_old hg k2; have c3 := cell_old hg k3; have c4 := cell_old hg k4; have c5 := cell_old hg k5; have c6 := cell_old hg k6; have c7 := cell_old hg k7; have c8 := cell_old hg k8; have c9 := cell_old hg k9; have c10 := cell_old hg k10; have c11 := cell_old hg k11; clear hg k0 k1 k2 k3 k4 k5 k6 k7 k8 k9 k10 k11
      go_wp2
      exact ⟨rfl, rfl, rfl, Grow.refl _⟩
    simp only [Act.put, List.setIfInBounds_toArray, List.set_cons_zero, List.set_cons_succ]
    refine Obl.still (fun W hg _ => ?_) ?_
    · have c0 := cell_old hg k0; have c1 := cell_old hg k1; have c2 := cell_old hg k2; have c3 := cell_old hg k3; have c4 := cell_old hg k4; have c5 := cell_old hg k5; have c6 := cell_old hg k6; have c7 := cell_old hg k7; have c8 := cell_old hg k8; have c9 := cell_old hg k9; have c10 := cell_old hg k10; have c11 := cell_old hg k11; clear hg k0 k1 k2 k3 k4 k5 k6 k7 k8 k9 k10 k11
      go_wp2
      exact ⟨rfl, rfl, rfl, Grow.refl _⟩
    simp only [Act.put, List.setIfInBounds_toArray, List.set_cons_zero, List.set_cons_succ]
    refine Obl.still (fun W hg _ => ?_) ?_
    · have c0 := cell_old hg k0; have c1 := cell_old hg k1; have c2 := cell_old hg k2; have c3 := cell_old hg k3; have c4 := cell_old hg k4; have c5 := cell_old hg k5; have c6 := cell_old hg k6; have c7 := cell_old hg k7; have c8 := cell_old hg k8; have c9 := cell_old hg k9; have c10 := cell_old hg k10; have c11 := cell_old hg k11; clear hg k0 k1 k2 k3 k4 k5 k6 k7 k8 k9 k10 k11
      go_wp2
      exact ⟨rfl, rfl, rfl, Grow.refl _⟩
    simp only [Act.put, List.setIfInBounds_toArray, List.set_cons_zero, List.set_cons_succ]
    refine Obl.grow (OwnV.keep _ _ _) (fun W hg _ => ?_) (fun v15 => ?_)
    · have HC := Lib.hid (IH.out (2 * i + 1) W (HG.out.below hg) (HF.out.below hg) (by have := HI.out; rw [Nat.pow_succ] at this; calc (2 * i + 1 + 1) * 2 ^ g = ((i + 1) * 2) * 2 ^ g := by rw [show 2 * i + 1 + 1 = (i + 1) * 2 by omega]
        _ = (i + 1) * (2 ^ g * 2) := by rw [Nat.mul_assoc, Nat.mul_comm 2]
        _ ≤ _ := this))
      rw [E3.out] at HC
      clear hg k0 k1 k2 k3 k4 k5 k6 k7 k8 k9 k10 k11
      go_wp2_with fail
      refine (HC.out).mono ?_
      rintro e w' ⟨A1, n1, c1, rfl, h1, h2⟩
      go_wp2
      exact ⟨rfl, rfl, ⟨_, _, _, rfl, h1.mono (Nat.zero_le _)⟩, h2⟩
    simp only [Act.put, List.setIfInBounds_toArray, List.set_cons_zero, List.set_cons_succ]
    refine Obl.grow (PartsV.keep _) (fun W hg ⟨h8, h15, _⟩ => ?_) (fun v16 => ?_)
    · obtain ⟨Ah8, nh8, ch8, rfl, h8⟩ := h8
      obtain ⟨Ah15, nh15, ch15, rfl, h15⟩ := h15
      clear hg k0 k1 k2 k3 k4 k5 k6 k7 k8 k9 k10 k11
      go_wp2
      exact ⟨rfl, rfl, ⟨_, _, rfl, parts2 (cell_new ..) (cell_new ..) (h8.rd.alloc _) (h15.rd.alloc _)⟩, (Below.refl _ _).alloc (Nat.le_refl _) _⟩
    simp only [Act.put, List.setIfInBounds_toArray, List.set_cons_zero, List.set_cons_succ]
    refine Obl.grow (OwnV.keep _ _ _) (fun W hg ⟨h16, _⟩ => ?_) (fun v17 => ?_)
    · obtain ⟨bh16, nh16, rfl, h16⟩ := h16
      have hnn : nh16 = 2 := by rw [← h16.len]; rfl
      subst hnn
      have hfl : [fNode f.N seed sec tree q g (2 * i), fNode f.N seed sec tree q g (2 * i + 1)].flatten = fNode f.N seed sec tree q g (2 * i) ++ fNode f.N seed sec tree q g (2 * i + 1) := by simp
      have hln : (fNode f.N seed sec tree q g (2 * i) ++ fNode f.N seed sec tree q g (2 * i + 1)).length = f.N + f.N := by rw [List.length_append, fNode_length _ _ _ _ _ _ _ (by have := HG.out.N.le; omega), fNode_length _ _ _ _ _ _ _ (by have := HG.out.N.le; omega)]
      have HC := Lib.hid (ptweak_any f A n c seed tree q 3 (g + 1) i bh16 2 _ W (HG.out.below hg).laid HG.out.N (HG.out.below hg).rs HG.out.seedL HG.out.tree HG.out.q (by omega) HB.out.2 HB.out.1 h16 (by omega) (by rw [hfl, hln]; have := HG.out.N.pos; omega) (by rw [hfl, hln]; have := HG.out.N.le; omega))
      rw [hfl, E1.out] at HC
      clear hfl hln
      unfold vPlace at HC
      have hsz : w.heap.size ≤ W.heap.size := (show w.drew.heap.size ≤ W.heap.size from hg.size)
      clear hg k0 k1 k2 k3 k4 k5 k6 k7 k8 k9 k10 k11
      go_wp2_with fail
      refine (HC.out).mono ?_
      rintro e w' ⟨A1, n1, c1, rfl, h1, h2⟩
      go_wp2
      exact ⟨rfl, rfl, ⟨_, _, _, rfl, h1.mono hsz⟩, h2⟩
    simp only [Act.put, List.setIfInBounds_toArray, List.set_cons_zero, List.set_cons_succ]
    refine Obl.done (fun W hg hall => ?_)
    obtain ⟨h17, _⟩ := hall
    obtain ⟨A', n', c', rfl, h17⟩ := h17
    have hB : Below w.heap.size w W := (Below.refl _ _).drew.trans hg
    clear hg k0 k1 k2 k3 k4 k5 k6 k7 k8 k9 k10 k11
    go_wp2
    go_ret
    exact ⟨_, _, _, rfl, h17, hB⟩
end Go.Proofs.Sl

/- fors: what makes the closure of sums; whether a set may be; whether it can be made. -/
namespace Go.Proofs.Sl
open Go.RowKit Go.Proofs

set_option maxHeartbeats 1000000 in
theorem psums_any (f : Few) (A A1 A2 A3 : Option Addr) (n c n1 n2 n3 c1 c2 c3 tree q : Nat) (w : World) :
    Calls Tryz.prog 61 #[vPlace f A n c tree q, vSec A1 A2 A3 n1 n2 n3 c1 c2 c3] w
      (fun e w' => ∃ Bp Bm Ba, e = .returned (.func (.func 98) #[] #[.pointer (some ⟨Bp, 0, none⟩), .pointer (some ⟨Bm, 0, none⟩), .pointer (some ⟨Ba, 0, none⟩)]) ∧ FClos f A n c tree q A1 A2 A3 n1 n2 n3 c1 c2 c3 Bp Bm Ba w' ∧ Grow w w') := by
  unfold vPlace vSec
  go_enter Tryz.func61, Tryz.ntmps61
  go_wp2
  rw [run_store_one _ _ _ _ Value.nilFunc rfl (by go_simp) (by go_simp)]
  go_wp2
  go_ret
  refine ⟨_, _, _, rfl, ?_, ?_⟩
  · constructor <;> go_simp
  · exact (((Below.refl _ w).alloc (Nat.le_refl _) _).alloc (by simp) _).alloc (by simp; omega) _

theorem in_any (a b : Int) (w : World) : Calls Tryz.prog 82 #[.int .i64 a, .int .i64 b] w (fun e w' => e = .returned (.bool (decide (1 ≤ a ∧ a ≤ b))) ∧ w = w') := by
  by_cases h1 : 1 ≤ a
  · by_cases h2 : a ≤ b
    · have e : decide (1 ≤ a ∧ a ≤ b) = true := by simp [h1, h2]
      rw [e]
      go_enter Tryz.func82, Tryz.ntmps82
      go_wp2
      go_ret
      exact ⟨rfl, rfl⟩
    · have e : decide (1 ≤ a ∧ a ≤ b) = false := by simp [h2]
      rw [e]
      go_enter Tryz.func82, Tryz.ntmps82
      go_wp2
      go_ret
      exact ⟨rfl, rfl⟩
  · have e : decide (1 ≤ a ∧ a ≤ b) = false := by simp [h1]
    rw [e]
    go_enter Tryz.func82, Tryz.ntmps82
    go_wp2
    go_ret
    exact ⟨rfl, rfl⟩

/-- A set of whichever numbers. -/
def vFewI (N L H K A : Int) : Value := .agg #[.int .i64 N, .int .i64 L, .int .i64 H, .int .i64 K, .int .i64 A]
def lowI (a b : Int) : Bool := decide (1 ≤ a ∧ a ≤ b)
def sizeI (N : Int) : Bool := decide (N = 16 ∨ N = 24 ∨ N = 32)
def mayI (N L H K A : Int) : Bool := sizeI N && lowI L 22 && lowI H 9 && decide ((L - 1) * H ≤ 63) && lowI K 40 && lowI A 14

set_option maxHeartbeats 2000000 in
theorem may_any (N L H K A : Int) (w : World) : Calls Tryz.prog 45 #[vFewI N L H K A] w (RetV w (.bool (mayI N L H K A))) := by
  unfold vFewI
  by_cases hs : sizeI N = true
  · have hw (a b : Int) : ∃ x, lowI a b = x := ⟨_, rfl⟩
    have hN : N = 16 ∨ N = 24 ∨ N = 32 := by simpa [sizeI] using hs
    obtain ⟨b1, hb1⟩ := hw L 22
    obtain ⟨b2, hb2⟩ := hw H 9
    obtain ⟨b3, hb3⟩ := hw K 40
    obtain ⟨b4, hb4⟩ := hw A 14
    have hin (a b : Int) (w : World) : Calls Tryz.prog 82 #[.int .i64 a, .int .i64 b] w (fun e w' => e = .returned (.bool (lowI a b)) ∧ w = w') := in_any a b w
    have i1 := Lib.hid (fun w => hb1 ▸ hin L 22 w)
    have i2 := Lib.hid (fun w => hb2 ▸ hin H 9 w)
    have i3 := Lib.hid (fun w => hb3 ▸ hin K 40 w)
    have i4 := Lib.hid (fun w => hb4 ▸ hin A 14 w)
    have hm : mayI N L H K A = (b1 && b2 && decide ((L - 1) * H ≤ 63) && b3 && b4) := by unfold mayI; rw [hs, hb1, hb2, hb3, hb4]; simp
    rw [hm]
    have hl (a b : Int) (h : lowI a b = true) : 1 ≤ a ∧ a ≤ b := by simpa [lowI] using h
    have hLH : b1 = true → b2 = true → 0 ≤ (L - 1) * H ∧ (L - 1) * H ≤ 189 := by
      intro h1 h2
      obtain ⟨h3, h4⟩ := hl _ _ (hb1.trans h1)
      obtain ⟨h5, h6⟩ := hl _ _ (hb2.trans h2)
      refine ⟨Int.mul_nonneg (by omega) (by omega), ?_⟩
      calc (L - 1) * H ≤ 21 * H := Int.mul_le_mul_of_nonneg_right (by omega) (by omega)
        _ ≤ 189 := by omega
    have hL1 : b1 = true → 1 ≤ L ∧ L ≤ 22 := fun h => hl _ _ (hb1.trans h)
    clear hm hw hin hl hb1 hb2 hb3 hb4 hs
    obtain ⟨x, hx⟩ : ∃ x, decide ((L - 1) * H ≤ 63) = x := ⟨_, rfl⟩
    rw [hx]
    cases b1; rotate_left; cases b2; rotate_left; cases x; rotate_left; cases b3
    all_goals
      first | have p1 := hL1 rfl | skip
      first | have p2 := hLH rfl rfl | skip
      clear hL1 hLH
      try simp only [decide_eq_true_eq, decide_eq_false_iff_not] at hx
      rcases hN with rfl | rfl | rfl
    all_goals
      go_enter Tryz.func45, Tryz.ntmps45
      go_wp2_with (go_at_call 82; (first | with_reducible refine (i1.out _).mono ?_ | with_reducible refine (i2.out _).mono ?_ | with_reducible refine (i3.out _).mono ?_ | with_reducible refine (i4.out _).mono ?_); rintro e w1 ⟨rfl, rfl⟩)
      go_ret
      exact ⟨rfl, (Below.refl _ _).alloc (Nat.le_refl _) _⟩
  · have hm : mayI N L H K A = false := by unfold mayI; simp [hs]
    rw [hm]
    have h1 : (N == 16) = false := by simp [sizeI] at hs ⊢; omega
    have h2 : (N == 24) = false := by simp [sizeI] at hs ⊢; omega
    have h3 : (N == 32) = false := by simp [sizeI] at hs ⊢; omega
    clear hm
    go_enter Tryz.func45, Tryz.ntmps45
    go_wp2
    go_ret
    exact ⟨rfl, (Below.refl _ _).alloc (Nat.le_refl _) _⟩
end Go.Proofs.Sl

/- fors: whether a set can be made of secrets; a set that may be, in natural numbers. -/
namespace Go.Proofs.Sl
open Go.RowKit Go.Proofs

def rightI (N : Int) (n1 n2 n3 : Nat) : Bool := ((n1 : Int) == N) && ((n2 : Int) == N) && ((n3 : Int) == N)
def madeI (N L H K A : Int) (n1 n2 n3 : Nat) : Bool := mayI N L H K A && decide (H ≤ 6) && decide (A ≤ 6) && rightI N n1 n2 n3

set_option maxHeartbeats 2000000 in
theorem made_any (N L H K A : Int) (A1 A2 A3 : Option Addr) (n1 n2 n3 c1 c2 c3 : Nat) (w : World) : Calls Tryz.prog 25 #[vFewI N L H K A, vSec A1 A2 A3 n1 n2 n3 c1 c2 c3] w (RetV w (.bool (madeI N L H K A n1 n2 n3))) := by
  have hm : madeI N L H K A n1 n2 n3 = (mayI N L H K A && decide (H ≤ 6) && decide (A ≤ 6) && (((n1 : Int) == N) && ((n2 : Int) == N) && ((n3 : Int) == N))) := rfl
  rw [hm]
  clear hm
  have i1 := Lib.hid (fun w => may_any N L H K A w)
  unfold vFewI vSec at *
  obtain ⟨b0, hb0⟩ : ∃ x, mayI N L H K A = x := ⟨_, rfl⟩
  rw [hb0] at i1 ⊢
  clear hb0
  obtain ⟨b1, hb1⟩ : ∃ x, ((n1 : Int) == N) = x := ⟨_, rfl⟩
  obtain ⟨b2, hb2⟩ : ∃ x, ((n2 : Int) == N) = x := ⟨_, rfl⟩
  obtain ⟨b3, hb3⟩ : ∃ x, ((n3 : Int) == N) = x := ⟨_, rfl⟩
  obtain ⟨x1, hx1⟩ : ∃ x, decide (H ≤ 6) = x := ⟨_, rfl⟩
  obtain ⟨x2, hx2⟩ : ∃ x, decide (A ≤ 6) = x := ⟨_, rfl⟩
  rw [hb1, hb2, hb3, hx1, hx2]
  have hr : ∃ b, (b1 && b2 && b3) = b := ⟨_, rfl⟩
  obtain ⟨b, hr⟩ := hr
  cases b0; rotate_left; cases x1; rotate_left; cases x2
  all_goals try simp only [decide_eq_true_eq, decide_eq_false_iff_not] at hx1
  all_goals try simp only [decide_eq_true_eq, decide_eq_false_iff_not] at hx2
  all_goals (cases b1; rotate_left; cases b2)
  all_goals
    clear hr
    go_enter Tryz.func25, Tryz.ntmps25
    go_wp2_with fail
    refine (i1.out _).mono ?_
    rintro e w1 ⟨rfl, hB⟩
    have k0 : w1.cell? ⟨w.heap.size, 2, none⟩ = some (.int .i64 H) := (hB.cell (by simp; omega)).trans (by go_simp)
    have k1 : w1.cell? ⟨w.heap.size, 4, none⟩ = some (.int .i64 A) := (hB.cell (by simp; omega)).trans (by go_simp)
    have hG := (((Below.refl _ w).alloc (Nat.le_refl _) _).alloc (by simp) _).trans (hB.mono (by simp; omega))
    clear hB
    go_wp2
    go_ret
    exact ⟨rfl, hG⟩
end Go.Proofs.Sl
