/- The same extra and text give the same signature, and another extra's fits too: the statement's walk. -/
import Derived.Test.YtipedpkkabfdjaaDoorB25
namespace Go.Proofs.Sl
open Go.RowKit Go.Proofs

set_option maxHeartbeats 4000000 in
theorem extras_out (N L H K A : Int) (A1 A2 A3 Ax At : Option Addr) (n1 n2 n3 c1 c2 c3 nx cx nt ct layer tree : Nat) (w : World) (hL : Laid w)
    (h : lightI N L H K A = false ∨ madeI N L H K A n1 n2 n3 = false ∨ 1000 < nt ∨ (nx : Int) < N) :
    Calls Tryd.prog 4 #[vFewI N L H K A, vSec A1 A2 A3 n1 n2 n3 c1 c2 c3, vTold layer tree Ax At nx cx nt ct] w (RetV w (.bool true)) := by
  have HAW := Lib.hid awake_any
  have HLI := Lib.hid (fun w => rlight_any N L H K A w)
  have HMA := Lib.hid (fun w => rmade_any N L H K A A1 A2 A3 n1 n2 n3 c1 c2 c3 w)
  have HL := Lib.hid hL
  obtain ⟨b1, hb1⟩ : ∃ x, lightI N L H K A = x := ⟨_, rfl⟩
  obtain ⟨b2, hb2⟩ : ∃ x, madeI N L H K A n1 n2 n3 = x := ⟨_, rfl⟩
  rw [hb1] at HLI h
  rw [hb2] at HMA h
  clear hL hb1 hb2
  unfold vFewI vSec vTold at *
  by_cases h3 : 1000 < nt
  all_goals by_cases h4 : (nx : Int) < N
  all_goals cases b1; rotate_left; cases b2
  all_goals first | (exfalso; simp at h; omega; done) | skip
  all_goals
    clear h
    go_enter Tryd.func4, Tryd.ntmps4
    go_wp2_with fail
    refine (HAW.out _ (HL.out.below ((((Below.refl _ w).alloc (Nat.le_refl _) _).alloc (by simp) _).alloc (by simp; omega) _))).mono ?_
    rintro e w1 ⟨rfl, hB⟩
    have q0 : w1.cell? ⟨w.heap.size, 0, none⟩ = some (.int .i64 N) := (hB.cell (by simp; try omega)).trans (by go_simp)
    have q1 : w1.cell? ⟨w.heap.size, 1, none⟩ = some (.int .i64 L) := (hB.cell (by simp; try omega)).trans (by go_simp)
    have q2 : w1.cell? ⟨w.heap.size, 2, none⟩ = some (.int .i64 H) := (hB.cell (by simp; try omega)).trans (by go_simp)
    have q3 : w1.cell? ⟨w.heap.size, 3, none⟩ = some (.int .i64 K) := (hB.cell (by simp; try omega)).trans (by go_simp)
    have q4 : w1.cell? ⟨w.heap.size, 4, none⟩ = some (.int .i64 A) := (hB.cell (by simp; try omega)).trans (by go_simp)
    have q5 : w1.cell? ⟨w.heap.size + 1, 0, none⟩ = some (.slice A1 n1 c1) := (hB.cell (by simp; try omega)).trans (by go_simp)
    have q6 : w1.cell? ⟨w.heap.size + 1, 1, none⟩ = some (.slice A2 n2 c2) := (hB.cell (by simp; try omega)).trans (by go_simp)
    have q7 : w1.cell? ⟨w.heap.size + 1, 2, none⟩ = some (.slice A3 n3 c3) := (hB.cell (by simp; try omega)).trans (by go_simp)
    have q8 : w1.cell? ⟨w.heap.size + 1 + 1, 2, none⟩ = some (.slice Ax nx cx) := (hB.cell (by simp)).trans (by go_simp)
    have q9 : w1.cell? ⟨w.heap.size + 1 + 1, 3, none⟩ = some (.slice At nt ct) := (hB.cell (by simp)).trans (by go_simp)
    have G1 : Hid (Below w.heap.size w w1) := Lib.hid (((((Below.refl _ w).alloc (Nat.le_refl _) _).alloc (by simp) _).alloc (by simp; omega) _).trans (hB.mono (by simp; omega)))
    clear hB
    go_wp2_with fail
    refine (HLI.out w1).mono ?_
    rintro e w2 ⟨rfl, g2⟩
    have G2 : Hid (Below w.heap.size w w2) := Lib.hid (G1.out.trans (Below.mono g2 G1.out.size))
    have r0 := cell_old g2 q0; have r1 := cell_old g2 q1; have r2 := cell_old g2 q2; have r3 := cell_old g2 q3; have r4 := cell_old g2 q4; have r5 := cell_old g2 q5; have r6 := cell_old g2 q6; have r7 := cell_old g2 q7; have r8 := cell_old g2 q8; have r9 := cell_old g2 q9
    clear g2 q0 q1 q2 q3 q4 q5 q6 q7 q8 q9
    go_wp2_with fail
    first
    | (go_ret; exact ⟨rfl, G2.out⟩)
    | (refine (HMA.out w2).mono ?_
       rintro e w3 ⟨rfl, g3⟩
       have G3 : Hid (Below w.heap.size w w3) := Lib.hid (G2.out.trans (Below.mono g3 G2.out.size))
       have x0 := cell_old g3 r0; have x8 := cell_old g3 r8; have x9 := cell_old g3 r9
       clear g3 r0 r1 r2 r3 r4 r5 r6 r7 r8 r9
       go_wp2_with fail
       go_ret
       exact ⟨rfl, G3.out⟩)

set_option maxHeartbeats 8000000 in
theorem extras_in (f : Few) (m : Sec) (A1 A2 A3 Ax At : Option Addr) (n1 n2 n3 c1 c2 c3 nx cx nt ct layer tree : Nat) (extra text : List UInt8) (w : World) (hM : Ground f m A1 A2 A3 n1 n2 n3 w)
    (hl : lightI f.N f.L f.H f.K f.A = true) (hx : Rd eB w Ax f.N extra) (hxn : f.N ≤ nx) (hcx : nx ≤ cx) (ht : Rd eB w At nt text) (hnt : nt ≤ 1000) :
    Calls Tryd.prog 4 #[vFew f, vSec A1 A2 A3 n1 n2 n3 c1 c2 c3, vTold layer tree Ax At nx cx nt ct] w (RetV w (.bool true)) := by
  have HM := Lib.hid hM
  have HX := Lib.hid hx
  have HT := Lib.hid ht
  have HAW := Lib.hid awake_any
  have HLI := Lib.hid (fun w => hl ▸ rlight_any f.N f.L f.H f.K f.A w)
  have HMA := Lib.hid (fun w => hM.made ▸ rmade_any f.N f.L f.H f.K f.A A1 A2 A3 n1 n2 n3 c1 c2 c3 w)
  have hN1 := hM.ok.ok.N.pos'
  have hN2 := hM.ok.ok.N.le'
  have hNle : ¬ (nx : Int) < (f.N : Int) := by omega
  have hntle : ¬ (1000 : Int) < (nt : Int) := by omega
  obtain ⟨ax, hax⟩ : ∃ ax, Ax = some ax := by
    obtain ⟨a, e, _⟩ := hx.at 0 (by omega)
    exact ⟨a, e⟩
  subst hax
  have HSIGN := Lib.hid (fun W (hW : Below w.heap.size w W) => sign_any f m A1 A2 A3 (some ax) At n1 n2 n3 c1 c2 c3 f.N cx nt ct extra text W (HM.out.below hW) (HX.out.below hW) HX.out.len (HT.out.below hW) (by rw [HT.out.len]; omega))
  have HPUB := Lib.hid (fun W (hW : Below w.heap.size w W) => public_any f m A1 A2 A3 n1 n2 n3 c1 c2 c3 W (HM.out.below hW))
  have HSGL := Lib.hid (signL_length f (by omega) m extra text)
  have HFT := Lib.hid (signed_fits f m hM.ok extra text)
  have HPBL := Lib.hid (publicL_length f m hM.ok)
  obtain ⟨x0, hx0⟩ : ∃ x, extra[0]'(by rw [HX.out.len]; omega) = x := ⟨_, rfl⟩
  have HX0 := Lib.hid hx0
  clear hx0
  have HSIGN2 := Lib.hid (fun W Ay cy (hW : Below w.heap.size w W) (hy : Rd eB W Ay f.N (extra.set 0 (x0 + 1))) => sign_any f m A1 A2 A3 Ay At n1 n2 n3 c1 c2 c3 f.N cy nt ct (extra.set 0 (x0 + 1)) text W (HM.out.below hW) hy (by rw [List.length_set]; exact HX.out.len) (HT.out.below hW) (by rw [HT.out.len]; omega))
  have HSGL2 := Lib.hid (signL_length f (by omega) m (extra.set 0 (x0 + 1)) text)
  have HFT2 := Lib.hid (signed_fits f m HM.out.ok (extra.set 0 (x0 + 1)) text)
  generalize signL f m (extra.set 0 (x0 + 1)) text = sg2 at *
  generalize signL f m extra text = sg at *
  generalize publicL f m = pb at *
  clear hM hx ht hl
  unfold vFewI at HLI HMA
  unfold vSec at HMA
  unfold vFew vSec vTold at *
  go_enter Tryd.func4, Tryd.ntmps4
  go_wp2_with fail
  refine (HAW.out _ (HM.out.laid.below ((((Below.refl _ w).alloc (Nat.le_refl _) _).alloc (by simp) _).alloc (by simp; omega) _))).mono ?_
  rintro e w1 ⟨rfl, hB⟩
  have q0 : w1.cell? ⟨w.heap.size, 0, none⟩ = some (.int .i64 (f.N : Int)) := (hB.cell (by simp; try omega)).trans (by go_simp)
  have q1 : w1.cell? ⟨w.heap.size, 1, none⟩ = some (.int .i64 (f.L : Int)) := (hB.cell (by simp; try omega)).trans (by go_simp)
  have q2 : w1.cell? ⟨w.heap.size, 2, none⟩ = some (.int .i64 (f.H : Int)) := (hB.cell (by simp; try omega)).trans (by go_simp)
  have q3 : w1.cell? ⟨w.heap.size, 3, none⟩ = some (.int .i64 (f.K : Int)) := (hB.cell (by simp; try omega)).trans (by go_simp)
  have q4 : w1.cell? ⟨w.heap.size, 4, none⟩ = some (.int .i64 (f.A : Int)) := (hB.cell (by simp; try omega)).trans (by go_simp)
  have q5 : w1.cell? ⟨w.heap.size + 1, 0, none⟩ = some (.slice A1 n1 c1) := (hB.cell (by simp; try omega)).trans (by go_simp)
  have q6 : w1.cell? ⟨w.heap.size + 1, 1, none⟩ = some (.slice A2 n2 c2) := (hB.cell (by simp; try omega)).trans (by go_simp)
  have q7 : w1.cell? ⟨w.heap.size + 1, 2, none⟩ = some (.slice A3 n3 c3) := (hB.cell (by simp; try omega)).trans (by go_simp)
  have q8 : w1.cell? ⟨w.heap.size + 1 + 1, 0, none⟩ = some (.int .u32 (layer : Int)) := (hB.cell (by simp; try omega)).trans (by go_simp)
  have q9 : w1.cell? ⟨w.heap.size + 1 + 1, 1, none⟩ = some (.int .u64 (tree : Int)) := (hB.cell (by simp; try omega)).trans (by go_simp)
  have q10 : w1.cell? ⟨w.heap.size + 1 + 1, 2, none⟩ = some (.slice (some ax) nx cx) := (hB.cell (by simp; try omega)).trans (by go_simp)
  have q11 : w1.cell? ⟨w.heap.size + 1 + 1, 3, none⟩ = some (.slice At nt ct) := (hB.cell (by simp; try omega)).trans (by go_simp)
  have G1 : Hid (Below w.heap.size w w1) := Lib.hid (((((Below.refl _ w).alloc (Nat.le_refl _) _).alloc (by simp) _).alloc (by simp; omega) _).trans (hB.mono (by simp; omega)))
  clear hB
  go_wp2_with fail
  refine (HLI.out w1).mono ?_
  rintro e w2 ⟨rfl, g2⟩
  have G2 : Hid (Below w.heap.size w w2) := Lib.hid (G1.out.trans (Below.mono g2 G1.out.size))
  have r0 := cell_old g2 q0
  have r1 := cell_old g2 q1
  have r2 := cell_old g2 q2
  have r3 := cell_old g2 q3
  have r4 := cell_old g2 q4
  have r5 := cell_old g2 q5
  have r6 := cell_old g2 q6
  have r7 := cell_old g2 q7
  have r8 := cell_old g2 q8
  have r9 := cell_old g2 q9
  have r10 := cell_old g2 q10
  have r11 := cell_old g2 q11
  clear g2 q0 q1 q2 q3 q4 q5 q6 q7 q8 q9 q10 q11 G1
  go_wp2_with fail
  refine (HMA.out w2).mono ?_
  rintro e w3 ⟨rfl, g3⟩
  have G3 : Hid (Below w.heap.size w w3) := Lib.hid (G2.out.trans (Below.mono g3 G2.out.size))
  have q0 := cell_old g3 r0
  have q1 := cell_old g3 r1
  have q2 := cell_old g3 r2
  have q3 := cell_old g3 r3
  have q4 := cell_old g3 r4
  have q5 := cell_old g3 r5
  have q6 := cell_old g3 r6
  have q7 := cell_old g3 r7
  have q8 := cell_old g3 r8
  have q9 := cell_old g3 r9
  have q10 := cell_old g3 r10
  have q11 := cell_old g3 r11
  clear g3 r0 r1 r2 r3 r4 r5 r6 r7 r8 r9 r10 r11 G2
  go_wp2_with fail
  have HG : Hid (Below w.heap.size w w3.drew) := Lib.hid G3.out.drew
  have k0 : w3.drew.cell? ⟨w.heap.size, 0, none⟩ = some (.int .i64 (f.N : Int)) := q0
  have k1 : w3.drew.cell? ⟨w.heap.size, 1, none⟩ = some (.int .i64 (f.L : Int)) := q1
  have k2 : w3.drew.cell? ⟨w.heap.size, 2, none⟩ = some (.int .i64 (f.H : Int)) := q2
  have k3 : w3.drew.cell? ⟨w.heap.size, 3, none⟩ = some (.int .i64 (f.K : Int)) := q3
  have k4 : w3.drew.cell? ⟨w.heap.size, 4, none⟩ = some (.int .i64 (f.A : Int)) := q4
  have k5 : w3.drew.cell? ⟨w.heap.size + 1, 0, none⟩ = some (.slice A1 n1 c1) := q5
  have k6 : w3.drew.cell? ⟨w.heap.size + 1, 1, none⟩ = some (.slice A2 n2 c2) := q6
  have k7 : w3.drew.cell? ⟨w.heap.size + 1, 2, none⟩ = some (.slice A3 n3 c3) := q7
  have k8 : w3.drew.cell? ⟨w.heap.size + 1 + 1, 0, none⟩ = some (.int .u32 (layer : Int)) := q8
  have k9 : w3.drew.cell? ⟨w.heap.size + 1 + 1, 1, none⟩ = some (.int .u64 (tree : Int)) := q9
  have k10 : w3.drew.cell? ⟨w.heap.size + 1 + 1, 2, none⟩ = some (.slice (some ax) nx cx) := q10
  have k11 : w3.drew.cell? ⟨w.heap.size + 1 + 1, 3, none⟩ = some (.slice At nt ct) := q11
  clear q0 q1 q2 q3 q4 q5 q6 q7 q8 q9 q10 q11 G3
  have hxn2 : f.N ≤ cx := by omega
  refine wp_region_rg Grow 122 15 8 [[], [], [], [], [], [], [], [], [], [], [9], [10], [10], [11], [12]]
    [.still [] (.agg #[.int .i64 (f.N : Int), .int .i64 (f.L : Int), .int .i64 (f.H : Int), .int .i64 (f.K : Int), .int .i64 (f.A : Int)]), .still [] (.agg #[.slice A1 n1 c1, .slice A2 n2 c2, .slice A3 n3 c3]), .still [] (.pointer (some ⟨w.heap.size + 1 + 1, 2, none⟩)), .still [] (.slice (some ax) nx cx), .still [] (.pointer (some ⟨w.heap.size, 0, none⟩)), .still [] (.int .i64 (f.N : Int)), .still [] (.slice (some ax) f.N cx), .still [] (.pointer (some ⟨w.heap.size + 1 + 1, 3, none⟩)), .still [] (.slice At nt ct), .grow [] (SigV 0 sg), .grow [9] (SigV 0 sg), .grow [10] (OwnV eB 0 sg), .grow [10] (ValV (.int .i64 0)), .grow [11] (OwnV eB 0 sg), .grow [12] (ValV (.int .i64 0))] (by kernel_rfl) (by kernel_rfl) rfl rfl rfl Grow.trans (Grow.refl _) ?_
  iterate 9
    refine Obl.still (fun W hg _ => ?_) ?_
    · have c0 := cell_old hg k0; have c1 := cell_old hg k1; have c2 := cell_old hg k2; have c3 := cell_old hg k3; have c4 := cell_old hg k4; have c5 := cell_old hg k5; have c6 := cell_old hg k6; have c7 := cell_old hg k7; have c8 := cell_old hg k8; have c9 := cell_old hg k9; have c10 := cell_old hg k10; have c11 := cell_old hg k11; clear hg k0 k1 k2 k3 k4 k5 k6 k7 k8 k9 k10 k11
      go_wp2
      exact ⟨rfl, rfl, rfl, Grow.refl _⟩
    simp only [Act.put, List.setIfInBounds_toArray, List.set_cons_zero, List.set_cons_succ]
  refine Obl.grow (SigV.keep _ _) (fun W hg _ => ?_) (fun v9 => ?_)
  · have hbW := Below.trans HG.out (Below.mono hg HG.out.size)
    have HC := Lib.hid (HSIGN.out W hbW)
    clear hbW
    clear hg k0 k1 k2 k3 k4 k5 k6 k7 k8 k9 k10 k11
    go_wp2_with fail
    refine HC.out.mono ?_
    rintro e w' ⟨A', n', c', rfl, h1, h2⟩
    have H1 := Lib.hid (h1.mono (Nat.zero_le _))
    have H2 := Lib.hid h2
    clear h1 h2 HC
    go_wp2
    exact ⟨rfl, rfl, ⟨_, _, _, rfl, H1.out⟩, H2.out⟩
  simp only [Act.put, List.setIfInBounds_toArray, List.set_cons_zero, List.set_cons_succ]
  refine Obl.grow (SigV.keep _ _) (fun W hg ⟨h9, _⟩ => ?_) (fun v10 => ?_)
  · obtain ⟨A', n', c', rfl, h9⟩ := h9
    clear hg k0 k1 k2 k3 k4 k5 k6 k7 k8 k9 k10 k11
    go_wp2
    exact ⟨rfl, rfl, ⟨_, _, _, rfl, h9⟩, Grow.refl _⟩
  simp only [Act.put, List.setIfInBounds_toArray, List.set_cons_zero, List.set_cons_succ]
  refine Obl.grow (OwnV.keep _ _ _) (fun W hg ⟨h10, _⟩ => ?_) (fun v11 => ?_)
  · obtain ⟨A', n', c', rfl, h10⟩ := h10
    clear hg k0 k1 k2 k3 k4 k5 k6 k7 k8 k9 k10 k11
    go_wp2
    exact ⟨rfl, rfl, ⟨_, _, _, rfl, h10⟩, Grow.refl _⟩
  simp only [Act.put, List.setIfInBounds_toArray, List.set_cons_zero, List.set_cons_succ]
  refine Obl.grow (ValV.keep _) (fun W hg ⟨h10, _⟩ => ?_) (fun v12 => ?_)
  · obtain ⟨A', n', c', rfl, h10⟩ := h10
    clear hg k0 k1 k2 k3 k4 k5 k6 k7 k8 k9 k10 k11
    go_wp2
    exact ⟨rfl, rfl, rfl, Grow.refl _⟩
  simp only [Act.put, List.setIfInBounds_toArray, List.set_cons_zero, List.set_cons_succ]
  refine Obl.grow (OwnV.keep _ _ _) (fun W hg ⟨h11, _⟩ => ?_) (fun v13 => ?_)
  · obtain ⟨Ah11, nh11, ch11, rfl, h11⟩ := h11
    clear hg k0 k1 k2 k3 k4 k5 k6 k7 k8 k9 k10 k11
    go_wp2
    exact ⟨rfl, rfl, ⟨_, _, _, rfl, h11⟩, Grow.refl _⟩
  simp only [Act.put, List.setIfInBounds_toArray, List.set_cons_zero, List.set_cons_succ]
  refine Obl.grow (ValV.keep _) (fun W hg ⟨h12, _⟩ => ?_) (fun v14 => ?_)
  · subst h12
    clear hg k0 k1 k2 k3 k4 k5 k6 k7 k8 k9 k10 k11
    go_wp2
    exact ⟨rfl, rfl, rfl, Grow.refl _⟩
  simp only [Act.put, List.setIfInBounds_toArray, List.set_cons_zero, List.set_cons_succ]
  refine Obl.done (fun W hg hall => ?_)
  obtain ⟨h14, h13, h12, h11, h10, h9, _⟩ := hall
  cases h14
  clear h12 h11 h10 h9
  obtain ⟨Aa, na, ca, rfl, ha⟩ := h13
  have HG2 : Hid (Below w.heap.size w W) := Lib.hid (Below.trans HG.out (Below.mono hg HG.out.size))
  have HNA : Hid (na = sizeL f) := Lib.hid (by rw [← ha.len]; exact HSGL.out)
  have hca := ha.nc
  have HSA0 := Lib.hid ha.rd
  have x0 := cell_old hg k0
  have x1 := cell_old hg k1
  have x2 := cell_old hg k2
  have x3 := cell_old hg k3
  have x4 := cell_old hg k4
  have x5 := cell_old hg k5
  have x6 := cell_old hg k6
  have x7 := cell_old hg k7
  have x8 := cell_old hg k8
  have x9 := cell_old hg k9
  have x10 := cell_old hg k10
  have x11 := cell_old hg k11
  clear hg k0 k1 k2 k3 k4 k5 k6 k7 k8 k9 k10 k11 ha HG
  go_wp2_with fail
  have HG : Hid (Below w.heap.size w W.drew) := Lib.hid HG2.out.drew
  have HSA : Hid (Rd eB W.drew Aa na sg) := Lib.hid HSA0.out.drew
  have k0 : W.drew.cell? ⟨w.heap.size, 0, none⟩ = some (.int .i64 (f.N : Int)) := x0
  have k1 : W.drew.cell? ⟨w.heap.size, 1, none⟩ = some (.int .i64 (f.L : Int)) := x1
  have k2 : W.drew.cell? ⟨w.heap.size, 2, none⟩ = some (.int .i64 (f.H : Int)) := x2
  have k3 : W.drew.cell? ⟨w.heap.size, 3, none⟩ = some (.int .i64 (f.K : Int)) := x3
  have k4 : W.drew.cell? ⟨w.heap.size, 4, none⟩ = some (.int .i64 (f.A : Int)) := x4
  have k5 : W.drew.cell? ⟨w.heap.size + 1, 0, none⟩ = some (.slice A1 n1 c1) := x5
  have k6 : W.drew.cell? ⟨w.heap.size + 1, 1, none⟩ = some (.slice A2 n2 c2) := x6
  have k7 : W.drew.cell? ⟨w.heap.size + 1, 2, none⟩ = some (.slice A3 n3 c3) := x7
  have k8 : W.drew.cell? ⟨w.heap.size + 1 + 1, 0, none⟩ = some (.int .u32 (layer : Int)) := x8
  have k9 : W.drew.cell? ⟨w.heap.size + 1 + 1, 1, none⟩ = some (.int .u64 (tree : Int)) := x9
  have k10 : W.drew.cell? ⟨w.heap.size + 1 + 1, 2, none⟩ = some (.slice (some ax) nx cx) := x10
  have k11 : W.drew.cell? ⟨w.heap.size + 1 + 1, 3, none⟩ = some (.slice At nt ct) := x11
  clear x0 x1 x2 x3 x4 x5 x6 x7 x8 x9 x10 x11 HG2 HSA0
  refine wp_region_rg Grow 122 15 8 [[], [], [], [], [], [], [], [], [], [], [9], [10], [10], [11], [12]]
    [.still [] (.agg #[.int .i64 (f.N : Int), .int .i64 (f.L : Int), .int .i64 (f.H : Int), .int .i64 (f.K : Int), .int .i64 (f.A : Int)]), .still [] (.agg #[.slice A1 n1 c1, .slice A2 n2 c2, .slice A3 n3 c3]), .still [] (.pointer (some ⟨w.heap.size + 1 + 1, 2, none⟩)), .still [] (.slice (some ax) nx cx), .still [] (.pointer (some ⟨w.heap.size, 0, none⟩)), .still [] (.int .i64 (f.N : Int)), .still [] (.slice (some ax) f.N cx), .still [] (.pointer (some ⟨w.heap.size + 1 + 1, 3, none⟩)), .still [] (.slice At nt ct), .grow [] (SigV 0 sg), .grow [9] (SigV 0 sg), .grow [10] (OwnV eB 0 sg), .grow [10] (ValV (.int .i64 0)), .grow [11] (OwnV eB 0 sg), .grow [12] (ValV (.int .i64 0))] (by kernel_rfl) (by kernel_rfl) rfl rfl rfl Grow.trans (Grow.refl _) ?_
  iterate 9
    refine Obl.still (fun W hg _ => ?_) ?_
    · have c0 := cell_old hg k0; have c1 := cell_old hg k1; have c2 := cell_old hg k2; have c3 := cell_old hg k3; have c4 := cell_old hg k4; have c5 := cell_old hg k5; have c6 := cell_old hg k6; have c7 := cell_old hg k7; have c8 := cell_old hg k8; have c9 := cell_old hg k9; have c10 := cell_old hg k10; have c11 := cell_old hg k11; clear hg k0 k1 k2 k3 k4 k5 k6 k7 k8 k9 k10 k11
      go_wp2
      exact ⟨rfl, rfl, rfl, Grow.refl _⟩
    simp only [Act.put, List.setIfInBounds_toArray, List.set_cons_zero, List.set_cons_succ]
  refine Obl.grow (SigV.keep _ _) (fun W hg _ => ?_) (fun v9 => ?_)
  · have hbW := Below.trans HG.out (Below.mono hg HG.out.size)
    have HC := Lib.hid (HSIGN.out W hbW)
    clear hbW
    clear hg k0 k1 k2 k3 k4 k5 k6 k7 k8 k9 k10 k11
    go_wp2_with fail
    refine HC.out.mono ?_
    rintro e w' ⟨A', n', c', rfl, h1, h2⟩
    have H1 := Lib.hid (h1.mono (Nat.zero_le _))
    have H2 := Lib.hid h2
    clear h1 h2 HC
    go_wp2
    exact ⟨rfl, rfl, ⟨_, _, _, rfl, H1.out⟩, H2.out⟩
  simp only [Act.put, List.setIfInBounds_toArray, List.set_cons_zero, List.set_cons_succ]
  refine Obl.grow (SigV.keep _ _) (fun W hg ⟨h9, _⟩ => ?_) (fun v10 => ?_)
  · obtain ⟨A', n', c', rfl, h9⟩ := h9
    clear hg k0 k1 k2 k3 k4 k5 k6 k7 k8 k9 k10 k11
    go_wp2
    exact ⟨rfl, rfl, ⟨_, _, _, rfl, h9⟩, Grow.refl _⟩
  simp only [Act.put, List.setIfInBounds_toArray, List.set_cons_zero, List.set_cons_succ]
  refine Obl.grow (OwnV.keep _ _ _) (fun W hg ⟨h10, _⟩ => ?_) (fun v11 => ?_)
  · obtain ⟨A', n', c', rfl, h10⟩ := h10
    clear hg k0 k1 k2 k3 k4 k5 k6 k7 k8 k9 k10 k11
    go_wp2
    exact ⟨rfl, rfl, ⟨_, _, _, rfl, h10⟩, Grow.refl _⟩
  simp only [Act.put, List.setIfInBounds_toArray, List.set_cons_zero, List.set_cons_succ]
  refine Obl.grow (ValV.keep _) (fun W hg ⟨h10, _⟩ => ?_) (fun v12 => ?_)
  · obtain ⟨A', n', c', rfl, h10⟩ := h10
    clear hg k0 k1 k2 k3 k4 k5 k6 k7 k8 k9 k10 k11
    go_wp2
    exact ⟨rfl, rfl, rfl, Grow.refl _⟩
  simp only [Act.put, List.setIfInBounds_toArray, List.set_cons_zero, List.set_cons_succ]
  refine Obl.grow (OwnV.keep _ _ _) (fun W hg ⟨h11, _⟩ => ?_) (fun v13 => ?_)
  · obtain ⟨Ah11, nh11, ch11, rfl, h11⟩ := h11
    clear hg k0 k1 k2 k3 k4 k5 k6 k7 k8 k9 k10 k11
    go_wp2
    exact ⟨rfl, rfl, ⟨_, _, _, rfl, h11⟩, Grow.refl _⟩
  simp only [Act.put, List.setIfInBounds_toArray, List.set_cons_zero, List.set_cons_succ]
  refine Obl.grow (ValV.keep _) (fun W hg ⟨h12, _⟩ => ?_) (fun v14 => ?_)
  · subst h12
    clear hg k0 k1 k2 k3 k4 k5 k6 k7 k8 k9 k10 k11
    go_wp2
    exact ⟨rfl, rfl, rfl, Grow.refl _⟩
  simp only [Act.put, List.setIfInBounds_toArray, List.set_cons_zero, List.set_cons_succ]
  refine Obl.done (fun W hg hall => ?_)
  obtain ⟨h14, h13, h12, h11, h10, h9, _⟩ := hall
  cases h14
  clear h12 h11 h10 h9
  obtain ⟨Ab, nb, cb, rfl, hb⟩ := h13
  have HG3 : Hid (Below w.heap.size w W) := Lib.hid (Below.trans HG.out (Below.mono hg HG.out.size))
  have HSA2 := Lib.hid (HSA.out.below hg)
  have HSB := Lib.hid hb.rd
  have HNB : Hid (nb = sizeL f) := Lib.hid (by rw [← hb.len]; exact HSGL.out)
  have y0 := cell_old hg k0
  have y1 := cell_old hg k1
  have y2 := cell_old hg k2
  have y3 := cell_old hg k3
  have y4 := cell_old hg k4
  have y5 := cell_old hg k5
  have y6 := cell_old hg k6
  have y7 := cell_old hg k7
  have y8 := cell_old hg k8
  have y9 := cell_old hg k9
  have y10 := cell_old hg k10
  have y11 := cell_old hg k11
  clear hg k0 k1 k2 k3 k4 k5 k6 k7 k8 k9 k10 k11 hb HG HSA
  go_upto_region 7 with fail
  have HO0 : Hid (Own eB W.heap.size (W.alloc (.cells #[] 5)) (some ⟨W.heap.size, 0, none⟩) 0 0 []) := Lib.hid (Own.new (B := W.heap.size) (enc := eB) W 5 [] (Nat.le_refl _) (by simp))
  have hg0 : Below W.heap.size W (W.alloc (.cells #[] 5)) := (Below.refl _ _).alloc (Nat.le_refl _) _
  have HEX : Hid (Rd eB (W.alloc (.cells #[] 5)) (some ax) f.N extra) := Lib.hid (HX.out.below (HG3.out.trans (hg0.mono HG3.out.size)))
  have HGA := Lib.hid hg0
  have hgs := hg0.size
  have hlt5 : w.heap.size + 1 + 1 < W.heap.size := World.block_lt_of_cell? W _ y10
  have hlt4 : w.heap.size + 1 < W.heap.size := by omega
  have hlt3 : w.heap.size < W.heap.size := by omega
  have hq5 : (W.heap.size == w.heap.size + 1 + 1) = false := by simp; omega
  have hq4 : (W.heap.size == w.heap.size + 1) = false := by simp; omega
  have hq3 : (W.heap.size == w.heap.size) = false := by simp; omega
  clear hg0
  go_upto_region 8 with (at_builtin; refine wpList_append_sl rfl _ _ 24 5 (.int .u8 0) 1 rfl Tryd.underlying24 infoB rfl (fun _ => rfl) rfl rfl HO0.out HEX.out (by omega) (by omega) hgs ?_; intro Ay cy w5 h1 h2 h3; have H1 : Hid (Own eB W.heap.size w5 Ay f.N cy extra) := Lib.hid (by simpa using h1); have H3 : Hid (Below W.heap.size W w5) := Lib.hid (Below.trans HGA.out h3); clear h1 h2 h3)
  obtain ⟨gy, rfl⟩ : ∃ g, Ay = some ⟨g, 0, none⟩ := by
    rcases H1.out.at_ with ⟨h1, h2⟩ | ⟨g, h1, _⟩
    · have := H1.out.nc; omega
    · exact ⟨g, h1⟩
  have m0 := H1.out.cell_at 0 (by omega)
  rw [HX0.out] at m0
  have mf := H1.out.free_at 0 (by omega)
  have hu8 : IntKind.u8.wrap ((x0.toNat : Int) + 1) = ((x0 + 1).toNat : Int) := by
    rw [UInt8.toNat_add]
    simp [IntKind.wrap, IntKind.bits, IntKind.signed]
  have HS2 := Lib.hid (H1.out.set 0 (by omega) (x0 + 1))
  generalize x0 + 1 = x1 at *
  have HGY := Lib.hid H1.out.base
  clear HO0 HGA HEX hgs
  go_upto_region 9 with fail
  have HB6 : Hid (Below W.heap.size W (w5.setCell ⟨gy, 0, none⟩ (eB x1))) := Lib.hid (H3.out.setCell (p := ⟨gy, 0, none⟩) HGY.out.1 (eB x1))
  generalize hW6 : World.setCell w5 _ _ = w6
  have hW6' : w5.setCell ⟨gy, 0, none⟩ (eB x1) = w6 := hW6
  rw [hW6'] at HB6 HS2
  have G6 : Hid (Below w.heap.size w w6) := Lib.hid (Below.trans HG3.out (HB6.out.mono HG3.out.size))
  have SA6 := Lib.hid (HSA2.out.below HB6.out)
  have SB6 := Lib.hid (HSB.out.below HB6.out)
  have x0 := cell_old HB6.out y0
  have x1 := cell_old HB6.out y1
  have x2 := cell_old HB6.out y2
  have x3 := cell_old HB6.out y3
  have x4 := cell_old HB6.out y4
  have x5 := cell_old HB6.out y5
  have x6 := cell_old HB6.out y6
  have x7 := cell_old HB6.out y7
  have x8 := cell_old HB6.out y8
  have x9 := cell_old HB6.out y9
  have x10 := cell_old HB6.out y10
  have x11 := cell_old HB6.out y11
  clear hW6 hW6' m0 mf hu8 H1 H3 HG3 HSA2 HSB hlt5 hlt4 hlt3 hq5 hq4 hq3 HB6 HGY y0 y1 y2 y3 y4 y5 y6 y7 y8 y9 y10 y11
  go_wp2_with fail
  refine (HSIGN2.out w6 _ cy G6.out HS2.out.rd).mono ?_
  rintro e w7 ⟨Ac, n7, c7, rfl, h7, g7⟩
  have G7 : Hid (Below w.heap.size w w7) := Lib.hid (Below.trans G6.out (Below.mono g7 G6.out.size))
  have SA7 := Lib.hid (SA6.out.below g7)
  have SB7 := Lib.hid (SB6.out.below g7)
  have SC7 := Lib.hid h7.rd
  have HN7 : Hid (n7 = sizeL f) := Lib.hid (by rw [← h7.len]; exact HSGL2.out)
  have hc7 := h7.nc
  have y0 := cell_old g7 x0
  have y1 := cell_old g7 x1
  have y2 := cell_old g7 x2
  have y3 := cell_old g7 x3
  have y4 := cell_old g7 x4
  have y5 := cell_old g7 x5
  have y6 := cell_old g7 x6
  have y7 := cell_old g7 x7
  have y8 := cell_old g7 x8
  have y9 := cell_old g7 x9
  have y10 := cell_old g7 x10
  have y11 := cell_old g7 x11
  clear g7 h7 G6 SA6 SB6 HS2 x0 x1 x2 x3 x4 x5 x6 x7 x8 x9 x10 x11
  go_wp2_with fail
  refine (HPUB.out w7 G7.out).mono ?_
  rintro e w8 ⟨Ap, np, cp, rfl, hp, g8⟩
  have G8 : Hid (Below w.heap.size w w8) := Lib.hid (Below.trans G7.out (Below.mono g8 G7.out.size))
  have SA8 := Lib.hid (SA7.out.below g8)
  have SB8 := Lib.hid (SB7.out.below g8)
  have SC8 := Lib.hid (SC7.out.below g8)
  have SP8 := Lib.hid hp.rd
  have HNP : Hid (np = 2 * f.N) := Lib.hid (by have h9 := HPBL.out; rw [← hp.len]; omega)
  have hcp := hp.nc
  have x0 := cell_old g8 y0
  have x1 := cell_old g8 y1
  have x2 := cell_old g8 y2
  have x3 := cell_old g8 y3
  have x4 := cell_old g8 y4
  have x5 := cell_old g8 y5
  have x6 := cell_old g8 y6
  have x7 := cell_old g8 y7
  have x8 := cell_old g8 y8
  have x9 := cell_old g8 y9
  have x10 := cell_old g8 y10
  have x11 := cell_old g8 y11
  clear g8 hp G7 SA7 SB7 SC7 y0 y1 y2 y3 y4 y5 y6 y7 y8 y9 y10 y11
  go_wp2_with fail
  have HCS := Lib.hid (same_any Aa Ab na nb ca cb sg sg w8 SA8.out SB8.out)
  rw [sameB_refl] at HCS
  refine HCS.out.mono ?_
  rintro e w9 ⟨rfl, g9⟩
  have G9 : Hid (Below w.heap.size w w9) := Lib.hid (Below.trans G8.out (Below.mono g9 G8.out.size))
  have SA9 := Lib.hid (SA8.out.below g9)
  have SC9 := Lib.hid (SC8.out.below g9)
  have SP9 := Lib.hid (SP8.out.below g9)
  have y0 := cell_old g9 x0
  have y1 := cell_old g9 x1
  have y2 := cell_old g9 x2
  have y3 := cell_old g9 x3
  have y4 := cell_old g9 x4
  have y5 := cell_old g9 x5
  have y6 := cell_old g9 x6
  have y7 := cell_old g9 x7
  have y8 := cell_old g9 x8
  have y9 := cell_old g9 x9
  have y10 := cell_old g9 x10
  have y11 := cell_old g9 x11
  clear g9 HCS G8 SA8 SB8 SC8 SP8 x0 x1 x2 x3 x4 x5 x6 x7 x8 x9 x10 x11
  go_wp2_with fail
  have HF9 : Hid (Calls Tryd.prog 17 #[.agg #[.int .i64 (f.N : Int), .int .i64 (f.L : Int), .int .i64 (f.H : Int), .int .i64 (f.K : Int), .int .i64 (f.A : Int)], .slice Ap np cp, .slice At nt ct, .slice Aa na ca] w9 (RetV w9 (.bool true))) := Lib.hid (by
    have h2n := HNP.out
    subst h2n
    have := fits_any f HM.out.ok.ok Ap At Aa cp nt ct na ca pb text sg w9 (HM.out.laid.below G9.out) SP9.out hcp (HT.out.below G9.out) (by rw [HT.out.len]; omega) SA9.out HNA.out hca
    rw [HFT.out] at this
    exact this)
  refine HF9.out.mono ?_
  rintro e w10 ⟨rfl, g10⟩
  have G10 : Hid (Below w.heap.size w w10) := Lib.hid (Below.trans G9.out (Below.mono g10 G9.out.size))
  have SC10 := Lib.hid (SC9.out.below g10)
  have SP10 := Lib.hid (SP9.out.below g10)
  have x0 := cell_old g10 y0
  have x1 := cell_old g10 y1
  have x2 := cell_old g10 y2
  have x3 := cell_old g10 y3
  have x4 := cell_old g10 y4
  have x5 := cell_old g10 y5
  have x6 := cell_old g10 y6
  have x7 := cell_old g10 y7
  have x8 := cell_old g10 y8
  have x9 := cell_old g10 y9
  have x10 := cell_old g10 y10
  have x11 := cell_old g10 y11
  clear g10 HF9 G9 SA9 SC9 SP9 y0 y1 y2 y3 y4 y5 y6 y7 y8 y9 y10 y11
  go_wp2_with fail
  have HF10 : Hid (Calls Tryd.prog 17 #[.agg #[.int .i64 (f.N : Int), .int .i64 (f.L : Int), .int .i64 (f.H : Int), .int .i64 (f.K : Int), .int .i64 (f.A : Int)], .slice Ap np cp, .slice At nt ct, .slice Ac n7 c7] w10 (RetV w10 (.bool true))) := Lib.hid (by
    have h2n := HNP.out
    subst h2n
    have := fits_any f HM.out.ok.ok Ap At Ac cp nt ct n7 c7 pb text sg2 w10 (HM.out.laid.below G10.out) SP10.out hcp (HT.out.below G10.out) (by rw [HT.out.len]; omega) SC10.out HN7.out hc7
    rw [HFT2.out] at this
    exact this)
  refine HF10.out.mono ?_
  rintro e w11 ⟨rfl, g11⟩
  have G11 : Hid (Below w.heap.size w w11) := Lib.hid (Below.trans G10.out (Below.mono g11 G10.out.size))
  clear g11 HF10 x0 x1 x2 x3 x4 x5 x6 x7 x8 x9 x10 x11
  go_wp2
  go_ret
  exact ⟨rfl, G11.out⟩
end Go.Proofs.Sl
