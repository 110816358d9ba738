/- The public key begins with the seed, and ends with the top tree's root; it does not hang on the salt: the statement's walk. -/
import Derived.Test.YtipedpkkabfdjaaDoorB25
namespace Go.Proofs.Sl
open Go.RowKit Go.Proofs

set_option maxHeartbeats 4000000 in
theorem public_out (N L H K A : Int) (A1 A2 A3 As : Option Addr) (n1 n2 n3 c1 c2 c3 ns cs : Nat) (w : World) (hL : Laid w)
    (h : lightI N L H K A = false ∨ 100 < n1 ∨ 100 < n2 ∨ 100 < n3 ∨ 100 < ns) :
    Calls Tryd.prog 5 #[vFewI N L H K A, vSec A1 A2 A3 n1 n2 n3 c1 c2 c3, .slice As ns cs] w (RetV w (.bool true)) := by
  have HAW := Lib.hid awake_any
  have HLI := Lib.hid (fun w => rlight_any N L H K A w)
  have HL := Lib.hid hL
  obtain ⟨b1, hb1⟩ : ∃ x, lightI N L H K A = x := ⟨_, rfl⟩
  rw [hb1] at HLI h
  clear hL hb1
  unfold vFewI vSec at *
  cases b1
  all_goals by_cases h1 : 100 < n1
  all_goals by_cases h2 : 100 < n2
  all_goals by_cases h3 : 100 < n3
  all_goals by_cases h4 : 100 < ns
  all_goals first | (exfalso; simp at h; omega; done) | skip
  all_goals
    clear h
    go_enter Tryd.func5, Tryd.ntmps5
    go_wp2_with fail
    refine (HAW.out _ (HL.out.below (((Below.refl _ w).alloc (Nat.le_refl _) _).alloc (by simp) _))).mono ?_
    rintro e w1 ⟨rfl, hB⟩
    have q0 : w1.cell? ⟨w.heap.size, 0, none⟩ = some (.int .i64 N) := (hB.cell (by simp; try omega)).trans (by go_simp)
    have q1 : w1.cell? ⟨w.heap.size, 1, none⟩ = some (.int .i64 L) := (hB.cell (by simp; try omega)).trans (by go_simp)
    have q2 : w1.cell? ⟨w.heap.size, 2, none⟩ = some (.int .i64 H) := (hB.cell (by simp; try omega)).trans (by go_simp)
    have q3 : w1.cell? ⟨w.heap.size, 3, none⟩ = some (.int .i64 K) := (hB.cell (by simp; try omega)).trans (by go_simp)
    have q4 : w1.cell? ⟨w.heap.size, 4, none⟩ = some (.int .i64 A) := (hB.cell (by simp; try omega)).trans (by go_simp)
    have q5 : w1.cell? ⟨w.heap.size + 1, 0, none⟩ = some (.slice A1 n1 c1) := (hB.cell (by simp; try omega)).trans (by go_simp)
    have q6 : w1.cell? ⟨w.heap.size + 1, 1, none⟩ = some (.slice A2 n2 c2) := (hB.cell (by simp; try omega)).trans (by go_simp)
    have q7 : w1.cell? ⟨w.heap.size + 1, 2, none⟩ = some (.slice A3 n3 c3) := (hB.cell (by simp; try omega)).trans (by go_simp)
    have G1 : Hid (Below w.heap.size w w1) := Lib.hid ((((Below.refl _ w).alloc (Nat.le_refl _) _).alloc (by simp) _).trans (hB.mono (by simp; omega)))
    clear hB
    go_wp2_with fail
    refine (HLI.out w1).mono ?_
    rintro e w2 ⟨rfl, g2⟩
    have G2 : Hid (Below w.heap.size w w2) := Lib.hid (G1.out.trans (Below.mono g2 G1.out.size))
    have r0 := cell_old g2 q0
    have r1 := cell_old g2 q1
    have r2 := cell_old g2 q2
    have r3 := cell_old g2 q3
    have r4 := cell_old g2 q4
    have r5 := cell_old g2 q5
    have r6 := cell_old g2 q6
    have r7 := cell_old g2 q7
    clear g2 G1 q0 q1 q2 q3 q4 q5 q6 q7
    go_wp2_with fail
    go_ret
    exact ⟨rfl, G2.out⟩

set_option maxHeartbeats 4000000 in
theorem public_not (N L H K A : Int) (A1 A2 A3 As : Option Addr) (n1 n2 n3 c1 c2 c3 ns cs : Nat) (w : World) (hL : Laid w) (hl : lightI N L H K A = true) (hm : madeI N L H K A n1 n2 n3 = false) (h1 : n1 ≤ 100) (h2 : n2 ≤ 100) (h3 : n3 ≤ 100) (h4 : ns ≤ 100) :
    Calls Tryd.prog 5 #[vFewI N L H K A, vSec A1 A2 A3 n1 n2 n3 c1 c2 c3, .slice As ns cs] w (RetV w (.bool true)) := by
  have HAW := Lib.hid awake_any
  have HLI := Lib.hid (fun w => hl ▸ rlight_any N L H K A w)
  have HMA := Lib.hid (fun w => hm ▸ rmade_any N L H K A A1 A2 A3 n1 n2 n3 c1 c2 c3 w)
  have HPU := Lib.hid (fun w => public_no N L H K A A1 A2 A3 n1 n2 n3 c1 c2 c3 w hm)
  have HL := Lib.hid hL
  clear hL hl hm
  unfold vFewI vSec at *
  go_enter Tryd.func5, Tryd.ntmps5
  go_wp2_with fail
  refine (HAW.out _ (HL.out.below (((Below.refl _ w).alloc (Nat.le_refl _) _).alloc (by simp) _))).mono ?_
  rintro e w1 ⟨rfl, hB⟩
  have q0 : w1.cell? ⟨w.heap.size, 0, none⟩ = some (.int .i64 N) := (hB.cell (by simp; try omega)).trans (by go_simp)
  have q1 : w1.cell? ⟨w.heap.size, 1, none⟩ = some (.int .i64 L) := (hB.cell (by simp; try omega)).trans (by go_simp)
  have q2 : w1.cell? ⟨w.heap.size, 2, none⟩ = some (.int .i64 H) := (hB.cell (by simp; try omega)).trans (by go_simp)
  have q3 : w1.cell? ⟨w.heap.size, 3, none⟩ = some (.int .i64 K) := (hB.cell (by simp; try omega)).trans (by go_simp)
  have q4 : w1.cell? ⟨w.heap.size, 4, none⟩ = some (.int .i64 A) := (hB.cell (by simp; try omega)).trans (by go_simp)
  have q5 : w1.cell? ⟨w.heap.size + 1, 0, none⟩ = some (.slice A1 n1 c1) := (hB.cell (by simp; try omega)).trans (by go_simp)
  have q6 : w1.cell? ⟨w.heap.size + 1, 1, none⟩ = some (.slice A2 n2 c2) := (hB.cell (by simp; try omega)).trans (by go_simp)
  have q7 : w1.cell? ⟨w.heap.size + 1, 2, none⟩ = some (.slice A3 n3 c3) := (hB.cell (by simp; try omega)).trans (by go_simp)
  have G1 : Hid (Below w.heap.size w w1) := Lib.hid ((((Below.refl _ w).alloc (Nat.le_refl _) _).alloc (by simp) _).trans (hB.mono (by simp; omega)))
  clear hB
  go_wp2_with fail
  refine (HLI.out w1).mono ?_
  rintro e w2 ⟨rfl, g2⟩
  have G2 : Hid (Below w.heap.size w w2) := Lib.hid (G1.out.trans (Below.mono g2 G1.out.size))
  have r0 := cell_old g2 q0
  have r1 := cell_old g2 q1
  have r2 := cell_old g2 q2
  have r3 := cell_old g2 q3
  have r4 := cell_old g2 q4
  have r5 := cell_old g2 q5
  have r6 := cell_old g2 q6
  have r7 := cell_old g2 q7
  clear g2 G1 q0 q1 q2 q3 q4 q5 q6 q7
  go_wp2_with fail
  refine (HPU.out w2).mono ?_
  rintro e w3 ⟨rfl, g3⟩
  have G3 : Hid (Below w.heap.size w w3) := Lib.hid (G2.out.trans (Below.mono g3 G2.out.size))
  have q0 := cell_old g3 r0
  have q1 := cell_old g3 r1
  have q2 := cell_old g3 r2
  have q3 := cell_old g3 r3
  have q4 := cell_old g3 r4
  have q5 := cell_old g3 r5
  have q6 := cell_old g3 r6
  have q7 := cell_old g3 r7
  clear g3 G2 r0 r1 r2 r3 r4 r5 r6 r7
  go_wp2_with fail
  refine (HMA.out w3).mono ?_
  rintro e w4 ⟨rfl, g4⟩
  have G4 : Hid (Below w.heap.size w w4) := Lib.hid (G3.out.trans (Below.mono g4 G3.out.size))
  clear g4 G3 q0 q1 q2 q3 q4 q5 q6 q7
  go_wp2
  go_ret
  exact ⟨rfl, G4.out⟩

set_option maxHeartbeats 8000000 in
theorem public_in_eq (f : Few) (m : Sec) (A1 A2 A3 As : Option Addr) (n1 n2 n3 c1 c2 c3 ns cs : Nat) (salt : List UInt8) (w : World) (hM : Ground f m A1 A2 A3 n1 n2 n3 w) (hl : lightI f.N f.L f.H f.K f.A = true) (hsl : ns = f.N) (hs : Rd eB w As ns salt) (h4 : ns ≤ 100) :
    Calls Tryd.prog 5 #[vFew f, vSec A1 A2 A3 n1 n2 n3 c1 c2 c3, .slice As ns cs] w (RetV w (.bool true)) := by
  have HM := Lib.hid hM
  have HL := Lib.hid hM.laid
  have HAW := Lib.hid awake_any
  have HLI := Lib.hid (fun w => hl ▸ rlight_any f.N f.L f.H f.K f.A w)
  have HMA := Lib.hid (fun w => hM.made ▸ rmade_any f.N f.L f.H f.K f.A A1 A2 A3 n1 n2 n3 c1 c2 c3 w)
  have hN1 := hM.ok.ok.N.pos'
  have hN2 := hM.ok.ok.N.le'
  have hLr := hM.ok.ok.L2
  have hLr1 := hM.ok.ok.L1
  have h1 : n1 ≤ 100 := by have := hM.r1.len; have := hM.ok.secret; omega
  have h2 : n2 ≤ 100 := by have := hM.r2.len; have := hM.ok.salt; omega
  have h3 : n3 ≤ 100 := by have := hM.r3.len; have := hM.ok.seed; omega
  have HPUB := Lib.hid (fun W (hW : Below w.heap.size w W) => public_any f m A1 A2 A3 n1 n2 n3 c1 c2 c3 W (HM.out.below hW))
  have HPUB2 := Lib.hid (fun W (hW : Below w.heap.size w W) => public_any f ⟨m.secret, salt, m.seed⟩ A1 As A3 n1 ns n3 c1 cs c3 W ⟨HM.out.laid.below hW, ⟨HM.out.ok.ok, HM.out.ok.H, HM.out.ok.A, HM.out.ok.secret, hs.len.trans hsl, HM.out.ok.seed⟩, HM.out.r1.below hW, hs.below hW, HM.out.r3.below hW⟩)
  have HPE : publicL f ⟨m.secret, salt, m.seed⟩ = publicL f m := rfl
  rw [HPE] at HPUB2
  have hb : ((ns : Int) != (f.N : Int)) = false := by simp; omega
  have HROOT := Lib.hid (fun W (hW : Below w.heap.size w W) => root_any f m A1 A2 A3 n1 n2 n3 c1 c2 c3 (f.L - 1) 0 W (HM.out.below hW) (by omega) (by unfold W64; omega))
  have HBEY0 := Lib.hid (fun W (hW : Below w.heap.size w W) => root_beyond f m A1 A2 A3 n1 n2 n3 c1 c2 c3 f.L 0 W (HM.out.below hW) (Nat.le_refl _) (by omega))
  have e1 : ((f.L : Int) - 1) % 4294967296 = (f.L : Int) - 1 := by omega
  have e2 : (f.L : Int) % 4294967296 = (f.L : Int) := by omega
  have hcast : ((f.L - 1 : Nat) : Int) = (f.L : Int) - 1 := by omega
  rw [hcast] at HROOT
  have HPBL := Lib.hid (publicL_length f m hM.ok)
  have HPBE : Hid (publicL f m = m.seed ++ rootL f m (f.L - 1) 0) := Lib.hid rfl
  have HRTL := Lib.hid (rootL_length f m (f.L - 1) 0 (by omega))
  have HSEED := Lib.hid hM.ok.seed
  generalize publicL f m = pb at *
  generalize rootL f m (f.L - 1) 0 = rt at *
  clear hM hl hcast hsl hs HPE
  unfold vFewI at HLI HMA
  unfold vSec at HMA
  unfold vFew vSec at *
  go_enter Tryd.func5, Tryd.ntmps5
  go_wp2_with fail
  refine (HAW.out _ (HL.out.below (((Below.refl _ w).alloc (Nat.le_refl _) _).alloc (by simp) _))).mono ?_
  rintro e w1 ⟨rfl, hB⟩
  have q0 : w1.cell? ⟨w.heap.size, 0, none⟩ = some (.int .i64 (f.N : Int)) := (hB.cell (by simp; try omega)).trans (by go_simp)
  have q1 : w1.cell? ⟨w.heap.size, 1, none⟩ = some (.int .i64 (f.L : Int)) := (hB.cell (by simp; try omega)).trans (by go_simp)
  have q2 : w1.cell? ⟨w.heap.size, 2, none⟩ = some (.int .i64 (f.H : Int)) := (hB.cell (by simp; try omega)).trans (by go_simp)
  have q3 : w1.cell? ⟨w.heap.size, 3, none⟩ = some (.int .i64 (f.K : Int)) := (hB.cell (by simp; try omega)).trans (by go_simp)
  have q4 : w1.cell? ⟨w.heap.size, 4, none⟩ = some (.int .i64 (f.A : Int)) := (hB.cell (by simp; try omega)).trans (by go_simp)
  have q5 : w1.cell? ⟨w.heap.size + 1, 0, none⟩ = some (.slice A1 n1 c1) := (hB.cell (by simp; try omega)).trans (by go_simp)
  have q6 : w1.cell? ⟨w.heap.size + 1, 1, none⟩ = some (.slice A2 n2 c2) := (hB.cell (by simp; try omega)).trans (by go_simp)
  have q7 : w1.cell? ⟨w.heap.size + 1, 2, none⟩ = some (.slice A3 n3 c3) := (hB.cell (by simp; try omega)).trans (by go_simp)
  have G1 : Hid (Below w.heap.size w w1) := Lib.hid ((((Below.refl _ w).alloc (Nat.le_refl _) _).alloc (by simp) _).trans (hB.mono (by simp; omega)))
  clear hB
  go_wp2_with fail
  refine (HLI.out w1).mono ?_
  rintro e w2 ⟨rfl, g2⟩
  have G2 : Hid (Below w.heap.size w w2) := Lib.hid (G1.out.trans (Below.mono g2 G1.out.size))
  have r0 := cell_old g2 q0
  have r1 := cell_old g2 q1
  have r2 := cell_old g2 q2
  have r3 := cell_old g2 q3
  have r4 := cell_old g2 q4
  have r5 := cell_old g2 q5
  have r6 := cell_old g2 q6
  have r7 := cell_old g2 q7
  clear g2 G1 q0 q1 q2 q3 q4 q5 q6 q7
  go_wp2_with fail
  refine (HPUB.out w2 G2.out).mono ?_
  rintro e w3 ⟨Ap, np, cp, rfl, hp, g3⟩
  have G3 : Hid (Below w.heap.size w w3) := Lib.hid (G2.out.trans (Below.mono g3 G2.out.size))
  have HP := Lib.hid hp.rd
  have HNPQ : Hid (np = f.N + f.N) := Lib.hid (by rw [← hp.len]; exact HPBL.out)
  have hcp := hp.nc
  have q0 := cell_old g3 r0
  have q1 := cell_old g3 r1
  have q2 := cell_old g3 r2
  have q3 := cell_old g3 r3
  have q4 := cell_old g3 r4
  have q5 := cell_old g3 r5
  have q6 := cell_old g3 r6
  have q7 := cell_old g3 r7
  clear g3 hp G2 r0 r1 r2 r3 r4 r5 r6 r7
  go_wp2_with fail
  refine (HMA.out w3).mono ?_
  rintro e w4 ⟨rfl, g4⟩
  have G4 : Hid (Below w.heap.size w w4) := Lib.hid (G3.out.trans (Below.mono g4 G3.out.size))
  have HP4 := Lib.hid (HP.out.below g4)
  have r0 := cell_old g4 q0
  have r1 := cell_old g4 q1
  have r2 := cell_old g4 q2
  have r3 := cell_old g4 q3
  have r4 := cell_old g4 q4
  have r5 := cell_old g4 q5
  have r6 := cell_old g4 q6
  have r7 := cell_old g4 q7
  have hlt4 : w.heap.size + 1 < w4.heap.size := World.block_lt_of_cell? w4 _ r5
  have hlt5 : w.heap.size < w4.heap.size := by omega
  have hs2 : (w4.heap.size == w.heap.size + 1) = false := by simp; omega
  have hs3 : (w4.heap.size == w.heap.size) = false := by simp; omega
  clear g4 HP G3 q0 q1 q2 q3 q4 q5 q6 q7
  go_wp2_with fail
  generalize hW5 : World.alloc w4 _ = w5
  have g5 : Below w4.heap.size w4 w5 := by rw [← hW5]; exact (Below.refl _ _).alloc (Nat.le_refl _) _
  have G5 : Hid (Below w.heap.size w w5) := Lib.hid (G4.out.trans (g5.mono G4.out.size))
  have HP5 := Lib.hid (HP4.out.below g5)
  have q0 := cell_old g5 r0
  have q1 := cell_old g5 r1
  have q2 := cell_old g5 r2
  have q3 := cell_old g5 r3
  have q4 := cell_old g5 r4
  have q5 := cell_old g5 r5
  have q6 := cell_old g5 r6
  have q7 := cell_old g5 r7
  clear g5 hW5 HP4 G4 r0 r1 r2 r3 r4 r5 r6 r7
  refine (HPUB2.out w5 G5.out).mono ?_
  rintro e w6 ⟨Aq, nq, cq, rfl, hq, g6⟩
  have HQ := Lib.hid hq.rd
  have G6 : Hid (Below w.heap.size w w6) := Lib.hid (G5.out.trans (Below.mono g6 G5.out.size))
  have HP6 := Lib.hid (HP5.out.below g6)
  have r0 := cell_old g6 q0
  have r1 := cell_old g6 q1
  have r2 := cell_old g6 q2
  have r3 := cell_old g6 q3
  have r4 := cell_old g6 q4
  have r5 := cell_old g6 q5
  have r6 := cell_old g6 q6
  have r7 := cell_old g6 q7
  clear g6 hq HP5 G5 q0 q1 q2 q3 q4 q5 q6 q7
  go_wp2_with fail
  refine (HROOT.out w6 G6.out).mono ?_
  rintro e w7 ⟨Ar, nr, cr, rfl, hr, g7⟩
  have HG : Hid (Below w.heap.size w w7.drew) := Lib.hid ((G6.out.trans (Below.mono g7 G6.out.size)).drew)
  have HP7 : Hid (Rd eB w7.drew Ap np pb) := Lib.hid ((HP6.out.below g7).drew)
  have HR7 : Hid (Rd eB w7.drew Ar nr rt) := Lib.hid hr.rd.drew
  have HQ7 : Hid (Rd eB w7.drew Aq nq pb) := Lib.hid ((HQ.out.below g7).drew)
  have k0 : w7.drew.cell? ⟨w.heap.size, 0, none⟩ = some (.int .i64 (f.N : Int)) := cell_old g7 r0
  have k1 : w7.drew.cell? ⟨w.heap.size, 1, none⟩ = some (.int .i64 (f.L : Int)) := cell_old g7 r1
  have k2 : w7.drew.cell? ⟨w.heap.size, 2, none⟩ = some (.int .i64 (f.H : Int)) := cell_old g7 r2
  have k3 : w7.drew.cell? ⟨w.heap.size, 3, none⟩ = some (.int .i64 (f.K : Int)) := cell_old g7 r3
  have k4 : w7.drew.cell? ⟨w.heap.size, 4, none⟩ = some (.int .i64 (f.A : Int)) := cell_old g7 r4
  have k5 : w7.drew.cell? ⟨w.heap.size + 1, 0, none⟩ = some (.slice A1 n1 c1) := cell_old g7 r5
  have k6 : w7.drew.cell? ⟨w.heap.size + 1, 1, none⟩ = some (.slice A2 n2 c2) := cell_old g7 r6
  have k7 : w7.drew.cell? ⟨w.heap.size + 1, 2, none⟩ = some (.slice A3 n3 c3) := cell_old g7 r7
  have hap : ∃ ap, Ap = some ap := by
    obtain ⟨a, e, _⟩ := HP7.out.at 0 (by have := HNPQ.out; omega)
    exact ⟨a, e⟩
  obtain ⟨ap, rfl⟩ := hap
  have hnp2 : f.N ≤ np := by have := HNPQ.out; omega
  have hcp3 : ¬ cp = f.N := by have := HNPQ.out; omega
  have hq1 : ((np : Int) == 2 * (f.N : Int)) = true := by have := HNPQ.out; simp; omega
  have HS1 : Hid (∀ W', Grow w7.drew W' → Calls Tryd.prog 16 #[.slice (some ap) f.N cp, .slice A3 n3 c3] W' (RetV W' (.bool true))) := Lib.hid (fun W' hW' => by
    have := same_any (some ap) A3 f.N n3 cp c3 (pb.take f.N) m.seed W' ((HP7.out.below hW').take f.N hnp2) ((HM.out.below (Below.trans HG.out (Below.mono hW' HG.out.size))).r3)
    rw [HPBE.out, List.take_left' HSEED.out, sameB_refl] at this
    exact this)
  have HS2 : Hid (∀ W', Grow w7.drew W' → Calls Tryd.prog 16 #[.slice (some (ap.add f.N)) (np - f.N) (cp - f.N), .slice Ar nr cr] W' (RetV W' (.bool true))) := Lib.hid (fun W' hW' => by
    have h9 := (HP7.out.below hW').sub f.N np hnp2 (Nat.le_refl _)
    have e9 : (pb.take np).drop f.N = rt := by rw [List.take_of_length_le (by rw [HP7.out.len]; exact Nat.le_refl _), HPBE.out, List.drop_left' HSEED.out]
    rw [e9] at h9
    have := same_any (some (ap.add f.N)) Ar (np - f.N) nr (cp - f.N) cr rt rt W' h9 (HR7.out.below hW')
    rw [sameB_refl] at this
    exact this)
  have HBEY : Hid (∀ W', Grow w7.drew W' → Calls Tryd.prog 18 #[.agg #[.int .i64 (f.N : Int), .int .i64 (f.L : Int), .int .i64 (f.H : Int), .int .i64 (f.K : Int), .int .i64 (f.A : Int)], .agg #[.slice A1 n1 c1, .slice A2 n2 c2, .slice A3 n3 c3], .int .u32 (f.L : Int), .int .u64 0] W' (RetV W' (.slice none 0 0))) := Lib.hid (fun W' hW' => HBEY0.out W' (Below.trans HG.out (Below.mono hW' HG.out.size)))
  have HSQ : Hid (∀ W', Grow w7.drew W' → Calls Tryd.prog 16 #[.slice (some ap) np cp, .slice Aq nq cq] W' (RetV W' (.bool true))) := Lib.hid (fun W' hW' => by
    have := same_any (some ap) Aq np nq cp cq pb pb W' (HP7.out.below hW') (HQ7.out.below hW')
    rw [sameB_refl] at this
    exact this)
  clear g7 hr HP6 G6 HQ HQ7 r0 r1 r2 r3 r4 r5 r6 r7 HP7 HR7 HNPQ HBEY0
  go_wp2_with fail
  refine wp_region_rg Grow 107 45 8 [[], [], [], [], [], [], [], [], [], [], [], [], [], [], [], [], [], [], [], [], [], [], [], [], [], [], [], [], [], [], [], [], [], [], [], [], [], [], [], [], [], [], [], [], []]
    [.still [] (.slice (some ap) np cp), .still [] (.int .i64 (np : Int)), .still [] (.pointer (some ⟨w.heap.size, 0, none⟩)), .still [] (.int .i64 (f.N : Int)), .still [] (.int .i64 (2 * (f.N : Int))), .still [] (.bool true), .still [] (.bool true), .still [] (.slice (some ap) np cp), .still [] (.pointer (some ⟨w.heap.size, 0, none⟩)), .still [] (.int .i64 (f.N : Int)), .still [] (.slice (some ap) f.N cp), .still [] (.pointer (some ⟨w.heap.size + 1, 2, none⟩)), .still [] (.slice A3 n3 c3), .still [] (.bool true), .still [] (.bool true), .still [] (.bool true), .still [] (.slice (some ap) np cp), .still [] (.pointer (some ⟨w.heap.size, 0, none⟩)), .still [] (.int .i64 (f.N : Int)), .still [] (.slice (some (ap.add f.N)) (np - f.N) (cp - f.N)), .still [] (.slice Ar nr cr), .still [] (.bool true), .still [] (.bool true), .still [] (.bool true), .still [] (.slice As ns cs), .still [] (.int .i64 (ns : Int)), .still [] (.pointer (some ⟨w.heap.size, 0, none⟩)), .still [] (.int .i64 (f.N : Int)), .still [] (.bool false), .still [] (.bool false), .still [] (.slice (some ap) np cp), .still [] (.slice Aq nq cq), .still [] (.bool true), .still [] (.bool true), .still [] (.bool true), .still [] (.bool true), .still [] (.agg #[.int .i64 (f.N : Int), .int .i64 (f.L : Int), .int .i64 (f.H : Int), .int .i64 (f.K : Int), .int .i64 (f.A : Int)]), .still [] (.agg #[.slice A1 n1 c1, .slice A2 n2 c2, .slice A3 n3 c3]), .still [] (.pointer (some ⟨w.heap.size, 1, none⟩)), .still [] (.int .i64 (f.L : Int)), .still [] (.int .u32 (f.L : Int)), .still [] (.slice none 0 0), .still [] (.int .i64 0), .still [] (.bool true), .still [] (.bool true)] (by kernel_rfl) (by kernel_rfl) rfl rfl rfl Grow.trans (Grow.refl _) ?_
  iterate 13
    refine Obl.still (fun W hg _ => ?_) ?_
    · have c0 := cell_old hg k0; have c1 := cell_old hg k1; have c2 := cell_old hg k2; have c3 := cell_old hg k3; have c4 := cell_old hg k4; have c5 := cell_old hg k5; have c6 := cell_old hg k6; have c7 := cell_old hg k7; clear hg k0 k1 k2 k3 k4 k5 k6 k7
      go_wp2
      exact ⟨rfl, rfl, rfl, Grow.refl _⟩
    simp only [Act.put, List.setIfInBounds_toArray, List.set_cons_zero, List.set_cons_succ]
  refine Obl.still (fun W hg _ => ?_) ?_
  · have HC := Lib.hid (HS1.out W hg)
    clear hg k0 k1 k2 k3 k4 k5 k6 k7
    go_wp2_with fail
    refine (HC.out).mono ?_
    rintro e w' ⟨rfl, hB⟩
    have hG : Grow W w' := hB
    clear hB
    go_wp2
    exact ⟨rfl, rfl, rfl, hG⟩
  simp only [Act.put, List.setIfInBounds_toArray, List.set_cons_zero, List.set_cons_succ]
  iterate 7
    refine Obl.still (fun W hg _ => ?_) ?_
    · have c0 := cell_old hg k0; have c1 := cell_old hg k1; have c2 := cell_old hg k2; have c3 := cell_old hg k3; have c4 := cell_old hg k4; have c5 := cell_old hg k5; have c6 := cell_old hg k6; have c7 := cell_old hg k7; clear hg k0 k1 k2 k3 k4 k5 k6 k7
      go_wp2
      exact ⟨rfl, rfl, rfl, Grow.refl _⟩
    simp only [Act.put, List.setIfInBounds_toArray, List.set_cons_zero, List.set_cons_succ]
  refine Obl.still (fun W hg _ => ?_) ?_
  · have HC := Lib.hid (HS2.out W hg)
    clear hg k0 k1 k2 k3 k4 k5 k6 k7
    go_wp2_with fail
    refine (HC.out).mono ?_
    rintro e w' ⟨rfl, hB⟩
    have hG : Grow W w' := hB
    clear hB
    go_wp2
    exact ⟨rfl, rfl, rfl, hG⟩
  simp only [Act.put, List.setIfInBounds_toArray, List.set_cons_zero, List.set_cons_succ]
  iterate 10
    refine Obl.still (fun W hg _ => ?_) ?_
    · have c0 := cell_old hg k0; have c1 := cell_old hg k1; have c2 := cell_old hg k2; have c3 := cell_old hg k3; have c4 := cell_old hg k4; have c5 := cell_old hg k5; have c6 := cell_old hg k6; have c7 := cell_old hg k7; clear hg k0 k1 k2 k3 k4 k5 k6 k7
      go_wp2
      exact ⟨rfl, rfl, rfl, Grow.refl _⟩
    simp only [Act.put, List.setIfInBounds_toArray, List.set_cons_zero, List.set_cons_succ]
  refine Obl.still (fun W hg _ => ?_) ?_
  · have HC := Lib.hid (HSQ.out W hg)
    clear hg k0 k1 k2 k3 k4 k5 k6 k7
    go_wp2_with fail
    refine (HC.out).mono ?_
    rintro e w' ⟨rfl, hB⟩
    have hG : Grow W w' := hB
    clear hB
    go_wp2
    exact ⟨rfl, rfl, rfl, hG⟩
  simp only [Act.put, List.setIfInBounds_toArray, List.set_cons_zero, List.set_cons_succ]
  iterate 8
    refine Obl.still (fun W hg _ => ?_) ?_
    · have c0 := cell_old hg k0; have c1 := cell_old hg k1; have c2 := cell_old hg k2; have c3 := cell_old hg k3; have c4 := cell_old hg k4; have c5 := cell_old hg k5; have c6 := cell_old hg k6; have c7 := cell_old hg k7; clear hg k0 k1 k2 k3 k4 k5 k6 k7
      go_wp2
      exact ⟨rfl, rfl, rfl, Grow.refl _⟩
    simp only [Act.put, List.setIfInBounds_toArray, List.set_cons_zero, List.set_cons_succ]
  refine Obl.still (fun W hg _ => ?_) ?_
  · have HC := Lib.hid (HBEY.out W hg)
    clear hg k0 k1 k2 k3 k4 k5 k6 k7
    go_wp2_with fail
    refine (HC.out).mono ?_
    rintro e w' ⟨rfl, hB⟩
    have hG : Grow W w' := hB
    clear hB
    go_wp2
    exact ⟨rfl, rfl, rfl, hG⟩
  simp only [Act.put, List.setIfInBounds_toArray, List.set_cons_zero, List.set_cons_succ]
  iterate 3
    refine Obl.still (fun W hg _ => ?_) ?_
    · have c0 := cell_old hg k0; have c1 := cell_old hg k1; have c2 := cell_old hg k2; have c3 := cell_old hg k3; have c4 := cell_old hg k4; have c5 := cell_old hg k5; have c6 := cell_old hg k6; have c7 := cell_old hg k7; clear hg k0 k1 k2 k3 k4 k5 k6 k7
      go_wp2
      exact ⟨rfl, rfl, rfl, Grow.refl _⟩
    simp only [Act.put, List.setIfInBounds_toArray, List.set_cons_zero, List.set_cons_succ]
  refine Obl.done (fun W hg hall => ?_)
  have hB := Below.trans HG.out (Below.mono hg HG.out.size)
  clear hg k0 k1 k2 k3 k4 k5 k6 k7 hall
  go_wp2
  go_ret
  exact ⟨rfl, hB⟩


set_option maxHeartbeats 8000000 in
theorem public_in_ne (f : Few) (m : Sec) (A1 A2 A3 As : Option Addr) (n1 n2 n3 c1 c2 c3 ns cs : Nat) (w : World) (hM : Ground f m A1 A2 A3 n1 n2 n3 w) (hl : lightI f.N f.L f.H f.K f.A = true) (hsl : ns ≠ f.N) (h4 : ns ≤ 100) :
    Calls Tryd.prog 5 #[vFew f, vSec A1 A2 A3 n1 n2 n3 c1 c2 c3, .slice As ns cs] w (RetV w (.bool true)) := by
  have HM := Lib.hid hM
  have HL := Lib.hid hM.laid
  have HAW := Lib.hid awake_any
  have HLI := Lib.hid (fun w => hl ▸ rlight_any f.N f.L f.H f.K f.A w)
  have HMA := Lib.hid (fun w => hM.made ▸ rmade_any f.N f.L f.H f.K f.A A1 A2 A3 n1 n2 n3 c1 c2 c3 w)
  have hN1 := hM.ok.ok.N.pos'
  have hN2 := hM.ok.ok.N.le'
  have hLr := hM.ok.ok.L2
  have hLr1 := hM.ok.ok.L1
  have h1 : n1 ≤ 100 := by have := hM.r1.len; have := hM.ok.secret; omega
  have h2 : n2 ≤ 100 := by have := hM.r2.len; have := hM.ok.salt; omega
  have h3 : n3 ≤ 100 := by have := hM.r3.len; have := hM.ok.seed; omega
  have HPUB := Lib.hid (fun W (hW : Below w.heap.size w W) => public_any f m A1 A2 A3 n1 n2 n3 c1 c2 c3 W (HM.out.below hW))
  have HPUB2 := Lib.hid (fun W => public_no f.N f.L f.H f.K f.A A1 As A3 n1 ns n3 c1 cs c3 W (by
    unfold madeI rightI
    have : ((ns : Int) == (f.N : Int)) = false := by simp; omega
    rw [this]; simp))
  have hb : ((ns : Int) != (f.N : Int)) = true := by simp; omega
  have HROOT := Lib.hid (fun W (hW : Below w.heap.size w W) => root_any f m A1 A2 A3 n1 n2 n3 c1 c2 c3 (f.L - 1) 0 W (HM.out.below hW) (by omega) (by unfold W64; omega))
  have HBEY0 := Lib.hid (fun W (hW : Below w.heap.size w W) => root_beyond f m A1 A2 A3 n1 n2 n3 c1 c2 c3 f.L 0 W (HM.out.below hW) (Nat.le_refl _) (by omega))
  have e1 : ((f.L : Int) - 1) % 4294967296 = (f.L : Int) - 1 := by omega
  have e2 : (f.L : Int) % 4294967296 = (f.L : Int) := by omega
  have hcast : ((f.L - 1 : Nat) : Int) = (f.L : Int) - 1 := by omega
  rw [hcast] at HROOT
  have HPBL := Lib.hid (publicL_length f m hM.ok)
  have HPBE : Hid (publicL f m = m.seed ++ rootL f m (f.L - 1) 0) := Lib.hid rfl
  have HRTL := Lib.hid (rootL_length f m (f.L - 1) 0 (by omega))
  have HSEED := Lib.hid hM.ok.seed
  generalize publicL f m = pb at *
  generalize rootL f m (f.L - 1) 0 = rt at *
  clear hM hl hcast hsl
  unfold vFewI at HLI HMA HPUB2
  unfold vSec at HMA
  unfold vFew vSec at *
  go_enter Tryd.func5, Tryd.ntmps5
  go_wp2_with fail
  refine (HAW.out _ (HL.out.below (((Below.refl _ w).alloc (Nat.le_refl _) _).alloc (by simp) _))).mono ?_
  rintro e w1 ⟨rfl, hB⟩
  have q0 : w1.cell? ⟨w.heap.size, 0, none⟩ = some (.int .i64 (f.N : Int)) := (hB.cell (by simp; try omega)).trans (by go_simp)
  have q1 : w1.cell? ⟨w.heap.size, 1, none⟩ = some (.int .i64 (f.L : Int)) := (hB.cell (by simp; try omega)).trans (by go_simp)
  have q2 : w1.cell? ⟨w.heap.size, 2, none⟩ = some (.int .i64 (f.H : Int)) := (hB.cell (by simp; try omega)).trans (by go_simp)
  have q3 : w1.cell? ⟨w.heap.size, 3, none⟩ = some (.int .i64 (f.K : Int)) := (hB.cell (by simp; try omega)).trans (by go_simp)
  have q4 : w1.cell? ⟨w.heap.size, 4, none⟩ = some (.int .i64 (f.A : Int)) := (hB.cell (by simp; try omega)).trans (by go_simp)
  have q5 : w1.cell? ⟨w.heap.size + 1, 0, none⟩ = some (.slice A1 n1 c1) := (hB.cell (by simp; try omega)).trans (by go_simp)
  have q6 : w1.cell? ⟨w.heap.size + 1, 1, none⟩ = some (.slice A2 n2 c2) := (hB.cell (by simp; try omega)).trans (by go_simp)
  have q7 : w1.cell? ⟨w.heap.size + 1, 2, none⟩ = some (.slice A3 n3 c3) := (hB.cell (by simp; try omega)).trans (by go_simp)
  have G1 : Hid (Below w.heap.size w w1) := Lib.hid ((((Below.refl _ w).alloc (Nat.le_refl _) _).alloc (by simp) _).trans (hB.mono (by simp; omega)))
  clear hB
  go_wp2_with fail
  refine (HLI.out w1).mono ?_
  rintro e w2 ⟨rfl, g2⟩
  have G2 : Hid (Below w.heap.size w w2) := Lib.hid (G1.out.trans (Below.mono g2 G1.out.size))
  have r0 := cell_old g2 q0
  have r1 := cell_old g2 q1
  have r2 := cell_old g2 q2
  have r3 := cell_old g2 q3
  have r4 := cell_old g2 q4
  have r5 := cell_old g2 q5
  have r6 := cell_old g2 q6
  have r7 := cell_old g2 q7
  clear g2 G1 q0 q1 q2 q3 q4 q5 q6 q7
  go_wp2_with fail
  refine (HPUB.out w2 G2.out).mono ?_
  rintro e w3 ⟨Ap, np, cp, rfl, hp, g3⟩
  have G3 : Hid (Below w.heap.size w w3) := Lib.hid (G2.out.trans (Below.mono g3 G2.out.size))
  have HP := Lib.hid hp.rd
  have HNPQ : Hid (np = f.N + f.N) := Lib.hid (by rw [← hp.len]; exact HPBL.out)
  have hcp := hp.nc
  have q0 := cell_old g3 r0
  have q1 := cell_old g3 r1
  have q2 := cell_old g3 r2
  have q3 := cell_old g3 r3
  have q4 := cell_old g3 r4
  have q5 := cell_old g3 r5
  have q6 := cell_old g3 r6
  have q7 := cell_old g3 r7
  clear g3 hp G2 r0 r1 r2 r3 r4 r5 r6 r7
  go_wp2_with fail
  refine (HMA.out w3).mono ?_
  rintro e w4 ⟨rfl, g4⟩
  have G4 : Hid (Below w.heap.size w w4) := Lib.hid (G3.out.trans (Below.mono g4 G3.out.size))
  have HP4 := Lib.hid (HP.out.below g4)
  have r0 := cell_old g4 q0
  have r1 := cell_old g4 q1
  have r2 := cell_old g4 q2
  have r3 := cell_old g4 q3
  have r4 := cell_old g4 q4
  have r5 := cell_old g4 q5
  have r6 := cell_old g4 q6
  have r7 := cell_old g4 q7
  have hlt4 : w.heap.size + 1 < w4.heap.size := World.block_lt_of_cell? w4 _ r5
  have hlt5 : w.heap.size < w4.heap.size := by omega
  have hs2 : (w4.heap.size == w.heap.size + 1) = false := by simp; omega
  have hs3 : (w4.heap.size == w.heap.size) = false := by simp; omega
  clear g4 HP G3 q0 q1 q2 q3 q4 q5 q6 q7
  go_wp2_with fail
  generalize hW5 : World.alloc w4 _ = w5
  have g5 : Below w4.heap.size w4 w5 := by rw [← hW5]; exact (Below.refl _ _).alloc (Nat.le_refl _) _
  have G5 : Hid (Below w.heap.size w w5) := Lib.hid (G4.out.trans (g5.mono G4.out.size))
  have HP5 := Lib.hid (HP4.out.below g5)
  have q0 := cell_old g5 r0
  have q1 := cell_old g5 r1
  have q2 := cell_old g5 r2
  have q3 := cell_old g5 r3
  have q4 := cell_old g5 r4
  have q5 := cell_old g5 r5
  have q6 := cell_old g5 r6
  have q7 := cell_old g5 r7
  clear g5 hW5 HP4 G4 r0 r1 r2 r3 r4 r5 r6 r7
  refine (HPUB2.out w5).mono ?_
  rintro e w6 ⟨rfl, g6⟩
  have G6 : Hid (Below w.heap.size w w6) := Lib.hid (G5.out.trans (Below.mono g6 G5.out.size))
  have HP6 := Lib.hid (HP5.out.below g6)
  have r0 := cell_old g6 q0
  have r1 := cell_old g6 q1
  have r2 := cell_old g6 q2
  have r3 := cell_old g6 q3
  have r4 := cell_old g6 q4
  have r5 := cell_old g6 q5
  have r6 := cell_old g6 q6
  have r7 := cell_old g6 q7
  clear g6 HP5 G5 q0 q1 q2 q3 q4 q5 q6 q7
  go_wp2_with fail
  refine (HROOT.out w6 G6.out).mono ?_
  rintro e w7 ⟨Ar, nr, cr, rfl, hr, g7⟩
  have HG : Hid (Below w.heap.size w w7.drew) := Lib.hid ((G6.out.trans (Below.mono g7 G6.out.size)).drew)
  have HP7 : Hid (Rd eB w7.drew Ap np pb) := Lib.hid ((HP6.out.below g7).drew)
  have HR7 : Hid (Rd eB w7.drew Ar nr rt) := Lib.hid hr.rd.drew
  have k0 : w7.drew.cell? ⟨w.heap.size, 0, none⟩ = some (.int .i64 (f.N : Int)) := cell_old g7 r0
  have k1 : w7.drew.cell? ⟨w.heap.size, 1, none⟩ = some (.int .i64 (f.L : Int)) := cell_old g7 r1
  have k2 : w7.drew.cell? ⟨w.heap.size, 2, none⟩ = some (.int .i64 (f.H : Int)) := cell_old g7 r2
  have k3 : w7.drew.cell? ⟨w.heap.size, 3, none⟩ = some (.int .i64 (f.K : Int)) := cell_old g7 r3
  have k4 : w7.drew.cell? ⟨w.heap.size, 4, none⟩ = some (.int .i64 (f.A : Int)) := cell_old g7 r4
  have k5 : w7.drew.cell? ⟨w.heap.size + 1, 0, none⟩ = some (.slice A1 n1 c1) := cell_old g7 r5
  have k6 : w7.drew.cell? ⟨w.heap.size + 1, 1, none⟩ = some (.slice A2 n2 c2) := cell_old g7 r6
  have k7 : w7.drew.cell? ⟨w.heap.size + 1, 2, none⟩ = some (.slice A3 n3 c3) := cell_old g7 r7
  have hap : ∃ ap, Ap = some ap := by
    obtain ⟨a, e, _⟩ := HP7.out.at 0 (by have := HNPQ.out; omega)
    exact ⟨a, e⟩
  obtain ⟨ap, rfl⟩ := hap
  have hnp2 : f.N ≤ np := by have := HNPQ.out; omega
  have hcp3 : ¬ cp = f.N := by have := HNPQ.out; omega
  have hq1 : ((np : Int) == 2 * (f.N : Int)) = true := by have := HNPQ.out; simp; omega
  have HS1 : Hid (∀ W', Grow w7.drew W' → Calls Tryd.prog 16 #[.slice (some ap) f.N cp, .slice A3 n3 c3] W' (RetV W' (.bool true))) := Lib.hid (fun W' hW' => by
    have := same_any (some ap) A3 f.N n3 cp c3 (pb.take f.N) m.seed W' ((HP7.out.below hW').take f.N hnp2) ((HM.out.below (Below.trans HG.out (Below.mono hW' HG.out.size))).r3)
    rw [HPBE.out, List.take_left' HSEED.out, sameB_refl] at this
    exact this)
  have HS2 : Hid (∀ W', Grow w7.drew W' → Calls Tryd.prog 16 #[.slice (some (ap.add f.N)) (np - f.N) (cp - f.N), .slice Ar nr cr] W' (RetV W' (.bool true))) := Lib.hid (fun W' hW' => by
    have h9 := (HP7.out.below hW').sub f.N np hnp2 (Nat.le_refl _)
    have e9 : (pb.take np).drop f.N = rt := by rw [List.take_of_length_le (by rw [HP7.out.len]; exact Nat.le_refl _), HPBE.out, List.drop_left' HSEED.out]
    rw [e9] at h9
    have := same_any (some (ap.add f.N)) Ar (np - f.N) nr (cp - f.N) cr rt rt W' h9 (HR7.out.below hW')
    rw [sameB_refl] at this
    exact this)
  have HBEY : Hid (∀ W', Grow w7.drew W' → Calls Tryd.prog 18 #[.agg #[.int .i64 (f.N : Int), .int .i64 (f.L : Int), .int .i64 (f.H : Int), .int .i64 (f.K : Int), .int .i64 (f.A : Int)], .agg #[.slice A1 n1 c1, .slice A2 n2 c2, .slice A3 n3 c3], .int .u32 (f.L : Int), .int .u64 0] W' (RetV W' (.slice none 0 0))) := Lib.hid (fun W' hW' => HBEY0.out W' (Below.trans HG.out (Below.mono hW' HG.out.size)))
  clear g7 hr HP6 G6 r0 r1 r2 r3 r4 r5 r6 r7 HP7 HR7 HNPQ HBEY0
  go_wp2_with fail
  refine wp_region_rg Grow 107 45 8 [[], [], [], [], [], [], [], [], [], [], [], [], [], [], [], [], [], [], [], [], [], [], [], [], [], [], [], [], [], [], [], [], [], [], [], [], [], [], [], [], [], [], [], [], []]
    [.still [] (.slice (some ap) np cp), .still [] (.int .i64 (np : Int)), .still [] (.pointer (some ⟨w.heap.size, 0, none⟩)), .still [] (.int .i64 (f.N : Int)), .still [] (.int .i64 (2 * (f.N : Int))), .still [] (.bool true), .still [] (.bool true), .still [] (.slice (some ap) np cp), .still [] (.pointer (some ⟨w.heap.size, 0, none⟩)), .still [] (.int .i64 (f.N : Int)), .still [] (.slice (some ap) f.N cp), .still [] (.pointer (some ⟨w.heap.size + 1, 2, none⟩)), .still [] (.slice A3 n3 c3), .still [] (.bool true), .still [] (.bool true), .still [] (.bool true), .still [] (.slice (some ap) np cp), .still [] (.pointer (some ⟨w.heap.size, 0, none⟩)), .still [] (.int .i64 (f.N : Int)), .still [] (.slice (some (ap.add f.N)) (np - f.N) (cp - f.N)), .still [] (.slice Ar nr cr), .still [] (.bool true), .still [] (.bool true), .still [] (.bool true), .still [] (.slice As ns cs), .still [] (.int .i64 (ns : Int)), .still [] (.pointer (some ⟨w.heap.size, 0, none⟩)), .still [] (.int .i64 (f.N : Int)), .still [] (.bool true), .still [] (.bool true), .still [] undef, .still [] undef, .still [] undef, .still [] (.bool true), .still [] (.bool true), .still [] (.bool true), .still [] (.agg #[.int .i64 (f.N : Int), .int .i64 (f.L : Int), .int .i64 (f.H : Int), .int .i64 (f.K : Int), .int .i64 (f.A : Int)]), .still [] (.agg #[.slice A1 n1 c1, .slice A2 n2 c2, .slice A3 n3 c3]), .still [] (.pointer (some ⟨w.heap.size, 1, none⟩)), .still [] (.int .i64 (f.L : Int)), .still [] (.int .u32 (f.L : Int)), .still [] (.slice none 0 0), .still [] (.int .i64 0), .still [] (.bool true), .still [] (.bool true)] (by kernel_rfl) (by kernel_rfl) rfl rfl rfl Grow.trans (Grow.refl _) ?_
  iterate 13
    refine Obl.still (fun W hg _ => ?_) ?_
    · have c0 := cell_old hg k0; have c1 := cell_old hg k1; have c2 := cell_old hg k2; have c3 := cell_old hg k3; have c4 := cell_old hg k4; have c5 := cell_old hg k5; have c6 := cell_old hg k6; have c7 := cell_old hg k7; clear hg k0 k1 k2 k3 k4 k5 k6 k7
      go_wp2
      exact ⟨rfl, rfl, rfl, Grow.refl _⟩
    simp only [Act.put, List.setIfInBounds_toArray, List.set_cons_zero, List.set_cons_succ]
  refine Obl.still (fun W hg _ => ?_) ?_
  · have HC := Lib.hid (HS1.out W hg)
    clear hg k0 k1 k2 k3 k4 k5 k6 k7
    go_wp2_with fail
    refine (HC.out).mono ?_
    rintro e w' ⟨rfl, hB⟩
    have hG : Grow W w' := hB
    clear hB
    go_wp2
    exact ⟨rfl, rfl, rfl, hG⟩
  simp only [Act.put, List.setIfInBounds_toArray, List.set_cons_zero, List.set_cons_succ]
  iterate 7
    refine Obl.still (fun W hg _ => ?_) ?_
    · have c0 := cell_old hg k0; have c1 := cell_old hg k1; have c2 := cell_old hg k2; have c3 := cell_old hg k3; have c4 := cell_old hg k4; have c5 := cell_old hg k5; have c6 := cell_old hg k6; have c7 := cell_old hg k7; clear hg k0 k1 k2 k3 k4 k5 k6 k7
      go_wp2
      exact ⟨rfl, rfl, rfl, Grow.refl _⟩
    simp only [Act.put, List.setIfInBounds_toArray, List.set_cons_zero, List.set_cons_succ]
  refine Obl.still (fun W hg _ => ?_) ?_
  · have HC := Lib.hid (HS2.out W hg)
    clear hg k0 k1 k2 k3 k4 k5 k6 k7
    go_wp2_with fail
    refine (HC.out).mono ?_
    rintro e w' ⟨rfl, hB⟩
    have hG : Grow W w' := hB
    clear hB
    go_wp2
    exact ⟨rfl, rfl, rfl, hG⟩
  simp only [Act.put, List.setIfInBounds_toArray, List.set_cons_zero, List.set_cons_succ]
  iterate 19
    refine Obl.still (fun W hg _ => ?_) ?_
    · have c0 := cell_old hg k0; have c1 := cell_old hg k1; have c2 := cell_old hg k2; have c3 := cell_old hg k3; have c4 := cell_old hg k4; have c5 := cell_old hg k5; have c6 := cell_old hg k6; have c7 := cell_old hg k7; clear hg k0 k1 k2 k3 k4 k5 k6 k7
      go_wp2
      exact ⟨rfl, rfl, rfl, Grow.refl _⟩
    simp only [Act.put, List.setIfInBounds_toArray, List.set_cons_zero, List.set_cons_succ]
  refine Obl.still (fun W hg _ => ?_) ?_
  · have HC := Lib.hid (HBEY.out W hg)
    clear hg k0 k1 k2 k3 k4 k5 k6 k7
    go_wp2_with fail
    refine (HC.out).mono ?_
    rintro e w' ⟨rfl, hB⟩
    have hG : Grow W w' := hB
    clear hB
    go_wp2
    exact ⟨rfl, rfl, rfl, hG⟩
  simp only [Act.put, List.setIfInBounds_toArray, List.set_cons_zero, List.set_cons_succ]
  iterate 3
    refine Obl.still (fun W hg _ => ?_) ?_
    · have c0 := cell_old hg k0; have c1 := cell_old hg k1; have c2 := cell_old hg k2; have c3 := cell_old hg k3; have c4 := cell_old hg k4; have c5 := cell_old hg k5; have c6 := cell_old hg k6; have c7 := cell_old hg k7; clear hg k0 k1 k2 k3 k4 k5 k6 k7
      go_wp2
      exact ⟨rfl, rfl, rfl, Grow.refl _⟩
    simp only [Act.put, List.setIfInBounds_toArray, List.set_cons_zero, List.set_cons_succ]
  refine Obl.done (fun W hg hall => ?_)
  have hB := Below.trans HG.out (Below.mono hg HG.out.size)
  clear hg k0 k1 k2 k3 k4 k5 k6 k7 hall
  go_wp2
  go_ret
  exact ⟨rfl, hB⟩


end Go.Proofs.Sl
