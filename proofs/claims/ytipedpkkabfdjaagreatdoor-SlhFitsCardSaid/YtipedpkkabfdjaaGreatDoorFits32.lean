/- The document's SLH: whether a signature fits. -/
import Derived.Test.YtipedpkkabfdjaaGreatDoorFits30
import Derived.Test.YtipedpkkabfdjaaGreatDoorFits31
namespace Go.Proofs.Sl
open Go.RowKit Go.Proofs

theorem cut_drop (l : List UInt8) (m i j : Nat) : cutL (l.drop m) i j = cutL l (m + i) (m + j) := by
  unfold cutL
  rw [List.take_drop, List.drop_drop]
theorem climbTo_length (f : Few) (hN : f.N ≤ 136) (seed : List UInt8) (tree q : Nat) (of sig : List UInt8) (ho : of.length = f.N) : ∀ l, (climbTo f seed tree q of sig l).length = f.N
  | 0 => ho
  | _ + 1 => sClimb_length _ _ _ _ _ _ _ hN (sEnds_length _ _ _ _ _ _ _ hN) _

set_option maxRecDepth 8000 in
set_option maxHeartbeats 8000000 in
theorem rfits_any (f : Few) (hf : FewOk f) (Ap At As : Option Addr) (cp nt ct ns cs : Nat) (pub text sig : List UInt8) (w : World) (hp : Rd eB w Ap (2 * f.N) pub) (hcp : 2 * f.N ≤ cp) (ht : Rd eB w At nt text) (htl : text.length ≤ 65536) (hs : Rd eB w As ns sig) (hns : ns = sizeL f) (hcs : ns ≤ cs) :
    Calls Tryz.prog 22 #[vFew f, .slice Ap (2 * f.N) cp, .slice At nt ct, .slice As ns cs] w (RetV w (.bool (fitsL f pub text sig))) := by
  have hN1 := hf.N.pos'
  have hN2 := hf.N.le'
  have HF := Lib.hid hf
  have hA := hf.A2
  have hK := hf.K2
  have hH := hf.H2
  have hH1 := hf.H1
  have hLL := hf.L2
  have hLH := hf.LH
  obtain ⟨hd, hhd⟩ : ∃ x, sHead f = x := ⟨_, rfl⟩
  obtain ⟨ea, hea⟩ : ∃ x, sEach f = x := ⟨_, rfl⟩
  have hsz : sizeL f = hd + f.L * ea := by rw [← hhd, ← hea]; unfold sHead sEach sizeL; rw [Nat.mul_left_comm f.L f.N, ← Nat.mul_add]
  have hns2 : ns = hd + f.L * ea := hns.trans hsz
  have hkA : f.K * ((f.A + 1) * f.N) ≤ 40 * (15 * 32) := Nat.mul_le_mul hK (Nat.mul_le_mul (by omega) hN2)
  have hhe : hd = f.N + f.K * ((f.A + 1) * f.N) := by rw [← hhd, sHead_eq]
  have hhd1 : hd ≤ 32 + 40 * (15 * 32) := by omega
  have hK1 := hf.K1
  have hkA1 : 1 * (1 * 16) ≤ f.K * ((f.A + 1) * f.N) := Nat.mul_le_mul hK1 (Nat.mul_le_mul (by omega) hN1)
  have hhd0 : f.N ≤ hd := by omega
  have hhd2 : f.N < hd := by omega
  have hch : chainsL f.N ≤ 67 := by unfold chainsL; omega
  have hea2 : ea ≤ 32 * (67 + 9) := by rw [← hea]; exact Nat.mul_le_mul hN2 (by omega)
  have hLe : f.L * ea ≤ 22 * (32 * 76) := Nat.mul_le_mul hLL hea2
  have hns9 : ns ≤ 80000 := by omega
  obtain ⟨nk, hnk⟩ : ∃ x, f.N * f.K = x := ⟨_, rfl⟩
  have hnk1 : (f.N : Int) * (f.K : Int) = (nk : Int) := by rw [← hnk, Int.natCast_mul]
  have hnk9 : nk ≤ 32 * 40 := by rw [← hnk]; exact Nat.mul_le_mul hN2 hK
  obtain ⟨na, hna⟩ : ∃ x, nk * (f.A + 1) = x := ⟨_, rfl⟩
  have hna1 : (nk : Int) * ((f.A : Int) + 1) = (na : Int) := by rw [← hna]; simp
  have hhn : hd = f.N + na := by rw [hhe, ← hna, ← hnk]; congr 1; rw [Nat.mul_comm f.N f.K, Nat.mul_assoc, Nat.mul_comm f.N (f.A + 1)]
  have hnd1 : (f.N : Int) + (na : Int) = (hd : Int) := by omega
  have HEA : Hid (chainsL f.N * f.N + f.H * f.N = ea) := Lib.hid (by rw [← hea]; unfold sEach; rw [← Nat.add_mul, Nat.mul_comm])
  have HNS : Hid (ns = hd + f.L * ea) := Lib.hid hns2
  have HSGL : Hid (sig.length = ns) := Lib.hid hs.len
  have HTOL : Hid ((cutL sig f.N hd).length = f.K * fEach f) := Lib.hid (by rw [cutL_length _ _ _ hhd0 (by rw [hs.len]; omega), hhe]; unfold fEach; omega)
  obtain ⟨seed, hseed⟩ : ∃ x, pub.take f.N = x := ⟨_, rfl⟩
  have HSD : Hid (Rd eB w Ap f.N seed) := Lib.hid (by rw [← hseed]; exact hp.take f.N (by omega))
  have HSDL : Hid (seed.length = f.N) := Lib.hid HSD.out.len
  have hsd0 : cutL pub 0 f.N = seed := by rw [← hseed]; simp [cutL]
  have hsg0 : cutL sig 0 f.N = sig.take f.N := by simp [cutL]
  have HFITS : Hid (∀ d of0, digestL f (sig.take f.N) pub text = d → fStands f seed (treeOf f d) (leafOf f d) (d.take (pA f)) (cutL sig f.N hd) = of0 → fitsL f pub text sig = sameB (climbTo f seed (treeOf f d) (leafOf f d) of0 sig f.L) (pub.drop f.N)) := Lib.hid (fun d of0 h1 h2 => by
    unfold fitsL
    dsimp only
    rw [hsd0, hsg0, h1, hhd, h2])
  have HCL0 : Hid (∀ tr qq of0 l, climbTo f seed tr qq of0 sig (l + 1) = sClimb f.N seed l (treeAt f.H tr l) (leafAt f.H tr qq l) (sEnds f.N seed l (treeAt f.H tr l) (leafAt f.H tr qq l) (climbTo f seed tr qq of0 sig l) (cutL sig (hd + l * ea) (hd + (l + 1) * ea))) ((cutL sig (hd + l * ea) (hd + (l + 1) * ea)).drop (chainsL f.N * f.N)) f.H) := Lib.hid (fun tr qq of0 l => by rw [← hhd, ← hea]; rfl)
  have HEN : Hid (∀ l T Q of S, sEnds f.N seed l T Q of S = tweakL f.N seed ⟨l, T, 1, Q, 0, 0⟩ ((List.range (chainsL f.N)).flatMap fun i => upL f.N seed l T Q i ((digAll of).getD i 0) (cutL S (i * f.N) ((i + 1) * f.N)) (15 - (digAll of).getD i 0))) := Lib.hid (fun _ _ _ _ _ => rfl)
  have HP := Lib.hid hp
  have HT := Lib.hid ht
  have HS := Lib.hid hs
  have hnt : nt ≤ 65536 := by rw [← ht.len]; exact htl
  have HDLN : Hid ((sig.take f.N ++ pub ++ text).length ≤ 70000) := Lib.hid (by simp only [List.length_append, List.length_take, hp.len]; omega)
  have HM := Lib.hid (fun w => mayI_ok' hf ▸ rmay_any f.N f.L f.H f.K f.A w)
  have HZ := Lib.hid (fun w => rsize_any f hf w)
  rw [← hns] at HZ
  have HPT := Lib.hid (fun w => rparts_any f hf w)
  have hpa := pA_le hf
  have hpb := pB_le hf
  have hpc := pC_le hf
  have hpa1 := pA_pos hf
  obtain ⟨np, hnp⟩ : ∃ x, 2 * f.N = x := ⟨_, rfl⟩
  rw [hnp] at hcp HP ⊢
  have hne1 : ((np : Int) != 2 * (f.N : Int)) = false := by simp only [bne_eq_false_iff_eq]; omega
  have hne2 : ((ns : Int) != (ns : Int)) = false := by simp
  have HNP := Lib.hid hnp
  have hcpN : f.N ≤ cp := by omega
  have hcsN : f.N ≤ cs := by omega
  have hcs3 : ¬ cs = f.N := by omega
  have hnsN : f.N ≤ ns := by omega
  have hnp2 : f.N ≤ np := by omega
  have hcp3 : ¬ cp = f.N := by omega
  have hhns : hd ≤ ns := by omega
  clear hp ht htl hs hns hsz hns2 hkA hkA1 hhe hLe hnk hna hhn hf hseed hsd0 hsg0 hhd hea hnp
  unfold vFewI at HM
  unfold vFew at *
  go_enter Tryz.func22, Tryz.ntmps22
  go_wp2_with fail
  refine (HM.out _).mono ?_
  rintro e w1 ⟨rfl, hB⟩
  have k0 : w1.cell? ⟨w.heap.size, 0, none⟩ = some (.int .i64 (f.N : Int)) := (hB.cell (by simp)).trans (by go_simp)
  have k1 : w1.cell? ⟨w.heap.size, 1, none⟩ = some (.int .i64 (f.L : Int)) := (hB.cell (by simp)).trans (by go_simp)
  have k2 : w1.cell? ⟨w.heap.size, 2, none⟩ = some (.int .i64 (f.H : Int)) := (hB.cell (by simp)).trans (by go_simp)
  have k3 : w1.cell? ⟨w.heap.size, 3, none⟩ = some (.int .i64 (f.K : Int)) := (hB.cell (by simp)).trans (by go_simp)
  have k4 : w1.cell? ⟨w.heap.size, 4, none⟩ = some (.int .i64 (f.A : Int)) := (hB.cell (by simp)).trans (by go_simp)
  have G1 : Hid (Below w.heap.size w w1) := Lib.hid (((Below.refl _ w).alloc (Nat.le_refl _) _).trans (hB.mono (by simp)))
  have hs1 : w.heap.size < w1.heap.size := World.block_lt_of_cell? w1 _ k0
  clear hB
  go_wp2_with fail
  refine (HZ.out w1).mono ?_
  rintro e w2 ⟨rfl, g2⟩
  have G2 : Hid (Below w.heap.size w w2) := Lib.hid (G1.out.trans (Below.mono g2 G1.out.size))
  have p0 := cell_old g2 k0
  have p1 := cell_old g2 k1
  have p2 := cell_old g2 k2
  have p3 := cell_old g2 k3
  have p4 := cell_old g2 k4
  have hs2 : w.heap.size < w2.heap.size := Nat.lt_of_lt_of_le hs1 g2.size
  clear g2 G1 k0 k1 k2 k3 k4
  go_wp2_with fail
  have k0 : w2.drew.cell? ⟨w.heap.size, 0, none⟩ = some (.int .i64 (f.N : Int)) := p0
  have k1 : w2.drew.cell? ⟨w.heap.size, 1, none⟩ = some (.int .i64 (f.L : Int)) := p1
  have k2 : w2.drew.cell? ⟨w.heap.size, 2, none⟩ = some (.int .i64 (f.H : Int)) := p2
  have k3 : w2.drew.cell? ⟨w.heap.size, 3, none⟩ = some (.int .i64 (f.K : Int)) := p3
  have k4 : w2.drew.cell? ⟨w.heap.size, 4, none⟩ = some (.int .i64 (f.A : Int)) := p4
  refine wp_region_rg Grow 207 8 6 [[], [], [], [], [], [], [], []]
    [.still [] (.agg #[.int .i64 (f.N : Int), .int .i64 (f.L : Int), .int .i64 (f.H : Int), .int .i64 (f.K : Int), .int .i64 (f.A : Int)]), .still [] (.slice As ns cs), .still [] (.pointer (some ⟨w.heap.size, 0, none⟩)), .still [] (.int .i64 (f.N : Int)), .still [] (.slice As f.N cs), .still [] (.slice Ap np cp), .still [] (.slice At nt ct), .grow [] (OwnV eB w2.heap.size (digestL f (sig.take f.N) pub text))] (by kernel_rfl) (by kernel_rfl) rfl rfl rfl Grow.trans (Grow.refl _) ?_
  iterate 7
    refine Obl.still (fun W hg _ => ?_) ?_
    · have c0 := cell_old hg k0; have c1 := cell_old hg k1; have c2 := cell_old hg k2; have c3 := cell_old hg k3; have c4 := cell_old hg k4; clear hg k0 k1 k2 k3 k4
      go_wp2
      exact ⟨rfl, rfl, rfl, Grow.refl _⟩
    simp only [Act.put, List.setIfInBounds_toArray, List.set_cons_zero, List.set_cons_succ]
  refine Obl.grow (OwnV.keep _ _ _) (fun W hg _ => ?_) (fun v7 => ?_)
  · have hbW : Below w.heap.size w W := G2.out.trans (((Below.refl _ _).drew.trans hg).mono G2.out.size)
    have hsW : w2.heap.size ≤ W.heap.size := hg.size
    have HSZ := Lib.hid hsW
    have HC := Lib.hid (rdigest_any f HF.out As Ap At f.N np nt cs cp ct (sig.take f.N) pub text W ((HS.out.below hbW).take f.N (by omega)) (HP.out.below hbW) (HT.out.below hbW) HDLN.out)
    unfold vFew at HC
    clear hsW hbW
    clear hg k0 k1 k2 k3 k4
    go_wp2_with fail
    refine (HC.out).mono ?_
    rintro e w' ⟨A1, n1, c1, rfl, h1, h2⟩
    go_wp2
    exact ⟨rfl, rfl, ⟨_, _, _, rfl, h1.mono HSZ.out⟩, h2⟩
  simp only [Act.put, List.setIfInBounds_toArray, List.set_cons_zero, List.set_cons_succ]
  refine Obl.done (fun W hg hall => ?_)
  obtain ⟨hx, _⟩ := hall
  obtain ⟨Ad, nd, cd, rfl, hx⟩ := hx
  have HD := Lib.hid hx
  have g3 : Grow w2 W := (Below.refl _ _).drew.trans hg
  have q0 := cell_old g3 p0
  have q1 := cell_old g3 p1
  have q2 := cell_old g3 p2
  have q3 := cell_old g3 p3
  have q4 := cell_old g3 p4
  have HG3 : Hid (Below w.heap.size w W) := Lib.hid (G2.out.trans (g3.mono G2.out.size))
  clear hg k0 k1 k2 k3 k4 hx g3 p0 p1 p2 p3 p4


  obtain ⟨d, hd0⟩ : ∃ x, digestL f (sig.take f.N) pub text = x := ⟨_, rfl⟩
  rw [hd0] at HD
  have hdl : d.length = pA f + pB f + pC f := by rw [← hd0]; exact shakeL_length _ _ (by omega)
  have hnd : nd = pA f + pB f + pC f := by rw [← HD.out.len, hdl]
  have hWV : whereV f nd d = .tuple #[.int .u64 (treeOf f d : Int), .int .u32 (leafOf f d : Int), .bool true] := if_pos hnd
  have HWH := Lib.hid (rwhere_any f HF.out Ad nd cd d W HD.out.rd HD.out.nc)
  rw [hWV] at HWH
  unfold vFew at HWH
  have hT1 : treeOf f d < 2 ^ ((f.L - 1) * f.H) := Nat.mod_lt _ (Nat.two_pow_pos _)
  have hT2 : 2 ^ ((f.L - 1) * f.H) ≤ 2 ^ 63 := Nat.pow_le_pow_right (by omega) hLH
  have hQ1 : leafOf f d < 2 ^ f.H := Nat.mod_lt _ (Nat.two_pow_pos _)
  have hQ2 : leafOf f d < 4294967296 := by have := pow512_le hH; omega
  have HT1 : Hid (W64 (treeOf f d) ∧ leafOf f d < 4294967296 ∧ leafOf f d < 2 ^ f.H) := Lib.hid ⟨by unfold W64; omega, hQ2, hQ1⟩
  have HDL2 : Hid (f.K * f.A ≤ (d.take (pA f)).length * 8) := Lib.hid (by rw [List.length_take, hdl, Nat.min_eq_left (by omega)]; unfold pA wholeB; omega)
  have hcd : pA f ≤ cd := by have := HD.out.nc; omega
  have HRD := Lib.hid (HD.out.rd.take (pA f) (by omega))
  obtain ⟨of0, hof0⟩ : ∃ x, fStands f seed (treeOf f d) (leafOf f d) (d.take (pA f)) (cutL sig f.N hd) = x := ⟨_, rfl⟩
  have HRES := Lib.hid (HFITS.out d of0 hd0 hof0)
  have HOF0 := Lib.hid hof0
  have HOFL : Hid (of0.length = f.N) := Lib.hid (by rw [← hof0]; exact tweakL_length _ _ _ _ (by omega))
  obtain ⟨tr, htr⟩ : ∃ x, treeOf f d = x := ⟨_, rfl⟩
  obtain ⟨qq, hqq⟩ : ∃ x, leafOf f d = x := ⟨_, rfl⟩
  rw [htr, hqq] at HT1 HWH HOF0 HRES
  obtain ⟨a0, ha0⟩ : ∃ x, pA f = x := ⟨_, rfl⟩
  obtain ⟨b0, hb0⟩ : ∃ x, pB f = x := ⟨_, rfl⟩
  obtain ⟨c0, hc0⟩ : ∃ x, pC f = x := ⟨_, rfl⟩
  rw [ha0, hb0, hc0] at HPT
  rw [ha0] at HDL2 hcd HRD HOF0 hpa hpa1
  rw [hb0] at hpb
  rw [hc0] at hpc
  clear hnd hd0 hdl hWV hT1 hT2 hQ1 hQ2 hof0 htr hqq ha0 hb0 hc0 HFITS HD
  go_wp2_with fail
  refine HWH.out.mono ?_
  rintro e w5 ⟨rfl, g5⟩
  have HG5 : Hid (Below w.heap.size w w5) := Lib.hid (HG3.out.trans (g5.mono HG3.out.size))
  have HRD5 := Lib.hid (HRD.out.below g5)
  have p0 := cell_old g5 q0
  have p1 := cell_old g5 q1
  have p2 := cell_old g5 q2
  have p3 := cell_old g5 q3
  have p4 := cell_old g5 q4
  clear HWH HRD g5 q0 q1 q2 q3 q4
  go_wp2_with fail
  have k0 : w5.drew.cell? ⟨w.heap.size, 0, none⟩ = some (.int .i64 (f.N : Int)) := p0
  have k1 : w5.drew.cell? ⟨w.heap.size, 1, none⟩ = some (.int .i64 (f.L : Int)) := p1
  have k2 : w5.drew.cell? ⟨w.heap.size, 2, none⟩ = some (.int .i64 (f.H : Int)) := p2
  have k3 : w5.drew.cell? ⟨w.heap.size, 3, none⟩ = some (.int .i64 (f.K : Int)) := p3
  have k4 : w5.drew.cell? ⟨w.heap.size, 4, none⟩ = some (.int .i64 (f.A : Int)) := p4
  refine wp_region_rg Grow 207 15 6 [[], [], [], [], [], [], [], [], [], [], [], [], [], [], []]
    [.still [] (.agg #[.int .i64 (f.N : Int), .int .i64 (f.L : Int), .int .i64 (f.H : Int), .int .i64 (f.K : Int), .int .i64 (f.A : Int)]), .still [] (.slice Ap f.N cp), .still [] (.int .u64 (tr : Int)), .still [] (.int .u32 (qq : Int)), .still [] (.slice Ad nd cd), .still [] (.agg #[.int .i64 (f.N : Int), .int .i64 (f.L : Int), .int .i64 (f.H : Int), .int .i64 (f.K : Int), .int .i64 (f.A : Int)]), .still [] (.agg #[.int .i64 (a0 : Int), .int .i64 (b0 : Int), .int .i64 (c0 : Int)]), .still [] (.int .i64 (a0 : Int)), .still [] (.slice Ad a0 cd), .still [] (.slice As ns cs), .still [] (.pointer (some ⟨w.heap.size, 0, none⟩)), .still [] (.int .i64 (f.N : Int)), .still [] (.int .i64 (hd : Int)), .still [] (.slice (Option.map (fun x => x.add f.N) As) (hd - f.N) (cs - f.N)), .grow [] (OwnV eB 0 of0)] (by kernel_rfl) (by kernel_rfl) rfl rfl rfl Grow.trans (Grow.refl _) ?_
  iterate 6
    refine Obl.still (fun W hg _ => ?_) ?_
    · have c0 := cell_old hg k0; have c1 := cell_old hg k1; have c2 := cell_old hg k2; have c3 := cell_old hg k3; have c4 := cell_old hg k4; clear hg k0 k1 k2 k3 k4
      go_wp2
      exact ⟨rfl, rfl, rfl, Grow.refl _⟩
    simp only [Act.put, List.setIfInBounds_toArray, List.set_cons_zero, List.set_cons_succ]
  refine Obl.still (fun W hg _ => ?_) ?_
  · have HC := Lib.hid (HPT.out W)
    clear hg k0 k1 k2 k3 k4
    go_wp2_with fail
    refine (HC.out).mono ?_
    rintro e w' ⟨rfl, hB⟩
    have hG : Grow W w' := hB
    clear hB
    go_wp2
    exact ⟨rfl, rfl, rfl, hG⟩
  simp only [Act.put, List.setIfInBounds_toArray, List.set_cons_zero, List.set_cons_succ]
  refine Obl.still (fun W hg _ => ?_) ?_
  · have hix := run_index3 (a0 : Int) (b0 : Int) (c0 : Int) W
    clear hg k0 k1 k2 k3 k4
    go_wp2
    exact ⟨rfl, rfl, rfl, Grow.refl _⟩
  simp only [Act.put, List.setIfInBounds_toArray, List.set_cons_zero, List.set_cons_succ]
  iterate 6
    refine Obl.still (fun W hg _ => ?_) ?_
    · have c0 := cell_old hg k0; have c1 := cell_old hg k1; have c2 := cell_old hg k2; have c3 := cell_old hg k3; have c4 := cell_old hg k4; clear hg k0 k1 k2 k3 k4
      go_wp2
      exact ⟨rfl, rfl, rfl, Grow.refl _⟩
    simp only [Act.put, List.setIfInBounds_toArray, List.set_cons_zero, List.set_cons_succ]
  refine Obl.grow (OwnV.keep _ _ _) (fun W hg _ => ?_) (fun v14 => ?_)
  · have hbW : Below w.heap.size w W := HG5.out.trans (((Below.refl _ _).drew.trans hg).mono HG5.out.size)
    have hrd : Rd eB W Ad a0 (d.take a0) := HRD5.out.below (w := w5) ((Below.refl _ _).drew.trans hg)
    have HC := Lib.hid (rstands_any f Ap Ad (Option.map (fun x => x.add f.N) As) f.N cp a0 cd (hd - f.N) (cs - f.N) tr qq seed (d.take a0) (cutL sig f.N hd) W HF.out (HSD.out.below hbW) HSDL.out HT1.out.1 HT1.out.2.1 hrd (by omega) HDL2.out ((HS.out.below hbW).sub f.N hd (by omega) (by omega)) HTOL.out (by omega))
    rw [HOF0.out] at HC
    unfold vFew at HC
    clear hbW hrd
    clear hg k0 k1 k2 k3 k4
    go_wp2_with fail
    refine (HC.out).mono ?_
    rintro e w' ⟨A1, n1, c1, rfl, h1, h2⟩
    go_wp2
    exact ⟨rfl, rfl, ⟨_, _, _, rfl, h1.mono (Nat.zero_le _)⟩, h2⟩
  simp only [Act.put, List.setIfInBounds_toArray, List.set_cons_zero, List.set_cons_succ]
  refine Obl.done (fun w9 hg hall => ?_)
  obtain ⟨hx, _⟩ := hall
  obtain ⟨A8, n8, c8, rfl, hx⟩ := hx
  obtain rfl : f.N = n8 := by rw [← hx.len]; exact HOFL.out.symm
  have H9 : Hid (Rd eB w9 A8 f.N of0) := Lib.hid hx.rd
  have g9 : Grow w5 w9 := (Below.refl _ _).drew.trans hg
  have q0 := cell_old g9 p0
  have q1 := cell_old g9 p1
  have q2 := cell_old g9 p2
  have q3 := cell_old g9 p3
  have q4 := cell_old g9 p4
  have HG9 : Hid (Below w.heap.size w w9) := Lib.hid (HG5.out.trans (g9.mono HG5.out.size))
  clear hg k0 k1 k2 k3 k4 hx g9 p0 p1 p2 p3 p4


  have hs9 : w.heap.size < w9.heap.size := World.block_lt_of_cell? w9 _ q0
  have eL : (f.L : Int) % 4294967296 = (f.L : Int) := by omega
  have HCL := Lib.hid (HCL0.out tr qq of0)
  have HQT : Hid (∀ l, leafAt f.H tr qq l < 2 ^ f.H) := Lib.hid (fun l => leafAt_lt f tr qq HT1.out.2.2 l)
  have HTT : Hid (∀ l, W64 (treeAt f.H tr l)) := Lib.hid (fun l => by have h1 := treeAt_le f.H tr l; have h2 := HT1.out.1; unfold W64 at *; omega)
  have HTS : Hid (∀ l, treeAt f.H tr (l + 1) = treeAt f.H tr l / 2 ^ f.H ∧ leafAt f.H tr qq (l + 1) = treeAt f.H tr l % 2 ^ f.H) := Lib.hid (fun l => ⟨treeAt_succ f.H tr l, rfl⟩)
  have HCLL : Hid (∀ l, (climbTo f seed tr qq of0 sig l).length = f.N) := Lib.hid (climbTo_length f (by omega) seed tr qq of0 sig HOFL.out)
  have HDL1 : Hid (∀ l, (digAll (climbTo f seed tr qq of0 sig l)).length = chainsL f.N) := Lib.hid (fun l => by rw [digAll_length, HCLL.out]; unfold chainsL; omega)
  have HPOW := Lib.hid (fun W => rpow_any f.H W (by omega))
  have hpw1 : 1 ≤ 2 ^ f.H := Nat.one_le_two_pow
  have hpw2 : 2 ^ f.H ≤ 512 := pow512_le hH
  obtain ⟨pH, hpH⟩ : ∃ x, 2 ^ f.H = x := ⟨_, rfl⟩
  rw [hpH] at HPOW hpw1 hpw2 HQT HTS
  have HCH := Lib.hid (fun W => rchains_any f HF.out W)
  unfold vFew at HCH
  have hch1 : 1 ≤ chainsL f.N := by unfold chainsL; omega
  obtain ⟨ch, hch0⟩ : ∃ x, chainsL f.N = x := ⟨_, rfl⟩
  rw [hch0] at HCH HEA HDL1 hch HCL HEN hch1
  have hcn : ch * f.N ≤ 67 * 32 := Nat.mul_le_mul hch hN2
  clear hpH hch0 HCL0 HT1 HOF0 HTOL HDL2 HPT HRD5 HDLN HM HZ HG5 HG3 G2 hcd hpa hpa1 hpb hpc hnk1 hna1 hnd1
  go_wp2_with fail
  go_loopw [11, 12, 14, 15, 16] (fun t q a v ly wr => ∃ (l : Nat) (Ao : Option Addr) (co : Nat), l ≤ f.L ∧ ly = .int .u32 (l : Int) ∧ t = .int .u64 ((treeAt f.H tr l : Nat) : Int) ∧ q = .int .u32 ((leafAt f.H tr qq l : Nat) : Int) ∧ a = .int .i64 ((hd + l * ea : Nat) : Int) ∧ v = .slice Ao f.N co ∧ Rd eB wr Ao f.N (climbTo f seed tr qq of0 sig l) ∧ Grow w9 wr) (fun _ _ _ _ ly _ => f.L - (intOf ly).toNat)
  case atStart => exact ⟨0, A8, c8, Nat.zero_le _, rfl, by simp [treeAt], by simp [leafAt], by simp, rfl, H9.out, Grow.refl _⟩
  case round =>
    obtain ⟨wo, rfl⟩ : ∃ x, x = wr := ⟨_, rfl⟩
    obtain ⟨l, Ao, co, hl, rfl, rfl, rfl, rfl, rfl, hof, hgr⟩ := hrel
    obtain ⟨T, hT⟩ : ∃ x, treeAt f.H tr l = x := ⟨_, rfl⟩
    obtain ⟨Q, hQ⟩ : ∃ x, leafAt f.H tr qq l = x := ⟨_, rfl⟩
    have hQ1 : Q < pH := by rw [← hQ]; exact HQT.out l
    have hTW : W64 T := by rw [← hT]; exact HTT.out l
    have HTW := Lib.hid hTW
    obtain ⟨n0, hn0⟩ : ∃ x, hd + l * ea = x := ⟨_, rfl⟩
    have hlea : l * ea ≤ 22 * (32 * (67 + 9)) := Nat.mul_le_mul (by omega) hea2
    have hn0l : n0 ≤ 100000 := by omega
    rw [hT, hQ, hn0]
    have HN0 := Lib.hid hn0
    have HOF := Lib.hid hof
    have HGR' := Lib.hid hgr
    have HTQ := Lib.hid (And.intro hT hQ)
    have p0 := cell_old hgr q0
    have p1 := cell_old hgr q1
    have p2 := cell_old hgr q2
    have p3 := cell_old hgr q3
    have p4 := cell_old hgr q4
    have HWO : Hid (w9.heap.size ≤ wo.heap.size) := Lib.hid hgr.size
    have hso : w.heap.size < wo.heap.size := Nat.lt_of_lt_of_le hs9 hgr.size
    clear hof hgr hT hQ hTW hn0 hlea
    by_cases hlt : l < f.L
    · have hs3 : (wo.heap.size == w.heap.size) = false := by simp; omega
      have hs4 : (w.heap.size == wo.heap.size) = false := by simp; omega
      have hn0e : n0 + ea ≤ ns := by
        have h1 := HN0.out
        have h2 := HNS.out
        have h3 := Nat.mul_le_mul_right ea (show l + 1 ≤ f.L by omega)
        rw [Nat.succ_mul] at h3
        omega
      obtain ⟨S, hS⟩ : ∃ x, cutL sig n0 (n0 + ea) = x := ⟨_, rfl⟩
      have HSX := Lib.hid hS
      have HCLX : Hid (climbTo f seed tr qq of0 sig (l + 1) = sClimb f.N seed l T Q (sEnds f.N seed l T Q (climbTo f seed tr qq of0 sig l) S) (S.drop (ch * f.N)) f.H) := Lib.hid (by rw [HCL.out l, HTQ.out.1, HTQ.out.2, Nat.succ_mul, ← Nat.add_assoc, HN0.out, hS])
      clear hS
      go_wp2_with fail
      generalize hW2 : World.alloc wo _ = wa
      have g2 : Grow wo wa := by rw [← hW2]; exact (Below.refl _ _).alloc (Nat.le_refl _) _
      have r0 : wa.cell? ⟨w.heap.size, 0, none⟩ = some (.int .i64 (f.N : Int)) := cell_old g2 p0
      have r1 : wa.cell? ⟨w.heap.size, 1, none⟩ = some (.int .i64 (f.L : Int)) := cell_old g2 p1
      have r2 : wa.cell? ⟨w.heap.size, 2, none⟩ = some (.int .i64 (f.H : Int)) := cell_old g2 p2
      have r3 : wa.cell? ⟨w.heap.size, 3, none⟩ = some (.int .i64 (f.K : Int)) := cell_old g2 p3
      have r4 : wa.cell? ⟨w.heap.size, 4, none⟩ = some (.int .i64 (f.A : Int)) := cell_old g2 p4
      have r5 : wa.cell? ⟨wo.heap.size, 0, none⟩ = some (.int .u32 (l : Int)) := by subst hW2; go_simp
      have r6 : wa.cell? ⟨wo.heap.size, 1, none⟩ = some (.int .u64 (T : Int)) := by subst hW2; go_simp
      have r7 : wa.cell? ⟨wo.heap.size, 2, none⟩ = some (.int .u32 0) := by subst hW2; go_simp
      have r8 : wa.cell? ⟨wo.heap.size, 3, none⟩ = some (.int .u32 (Q : Int)) := by subst hW2; go_simp
      have r9 : wa.cell? ⟨wo.heap.size, 4, none⟩ = some (.int .u32 0) := by subst hW2; go_simp
      have r10 : wa.cell? ⟨wo.heap.size, 5, none⟩ = some (.int .u32 0) := by subst hW2; go_simp
      have rf : wa.frozen? ⟨wo.heap.size, 2, none⟩ = false := by subst hW2; go_simp
      have HAL := Lib.hid (rall_any Ao f.N co _ wa (HOF.out.below g2) HF.out.N)
      have hsa : wo.heap.size < wa.heap.size := by rw [← hW2]; simp
      have HGA : Hid (Grow w9 wa) := Lib.hid (HGR'.out.trans _ _ _ g2)
      clear hW2 g2 p0 p1 p2 p3 p4
      refine HAL.out.mono ?_
      rintro e wd ⟨Al, nl, cl, rfl, h3, g3⟩
      obtain rfl : ch = nl := by rw [← h3.len]; exact (HDL1.out l).symm
      have HDG := Lib.hid h3.rd
      have HGD : Hid (Grow w9 wd) := Lib.hid (HGA.out.trans _ _ _ g3)
      have hsd : wo.heap.size < wd.heap.size := Nat.lt_of_lt_of_le hsa g3.size
      have s0 := cell_old g3 r0
      have s1 := cell_old g3 r1
      have s2 := cell_old g3 r2
      have s3 := cell_old g3 r3
      have s4 := cell_old g3 r4
      have s5 := cell_old g3 r5
      have s6 := cell_old g3 r6
      have s7 := cell_old g3 r7
      have s8 := cell_old g3 r8
      have s9 := cell_old g3 r9
      have s10 := cell_old g3 r10
      have sf : wd.frozen? ⟨wo.heap.size, 2, none⟩ = false := (World.frozen?_of_block (w := wa) (a := ⟨wo.heap.size, 2, none⟩) (g3.block _ hsa)).trans rf
      have HSF := Lib.hid sf
      have HAD : Hid (Go.Proofs.Sl.Ad.Ok ⟨l, T, 0, Q, 0, 0⟩) := Lib.hid ⟨by show l < _; omega, HTW.out, by show (0 : Nat) < _; omega, by show Q < _; omega, by show (0 : Nat) < _; omega, by show (0 : Nat) < _; omega⟩
      obtain ⟨dg, hdg⟩ : ∃ x, digAll (climbTo f seed tr qq of0 sig l) = x := ⟨_, rfl⟩
      have hdlt : ∀ i, dg.getD i 0 < 16 := fun i => by rw [← hdg]; exact digAll_getD_lt _ i
      have HENX : Hid (sEnds f.N seed l T Q (climbTo f seed tr qq of0 sig l) S = tweakL f.N seed ⟨l, T, 1, Q, 0, 0⟩ ((List.range ch).flatMap fun i => upL f.N seed l T Q i (dg.getD i 0) (cutL S (i * f.N) ((i + 1) * f.N)) (15 - dg.getD i 0))) := Lib.hid (by rw [HEN.out, hdg])
      have HDLT := Lib.hid hdlt
      rw [hdg] at HDG
      clear h3 g3 HAL HOF HGA HGR' hdg hdlt sf rf r0 r1 r2 r3 r4 r5 r6 r7 r8 r9 r10
      go_wp2_with fail
      go_loopw [14, 19, 20] (fun a v t wr => ∃ (k : Nat) (A : Option Addr) (c : Nat), k ≤ ch ∧ t = .int .i64 (k : Int) ∧ a = .int .i64 ((n0 + k * f.N : Nat) : Int) ∧ v = .slice A (k * f.N) c ∧ Own eB wd.heap.size wr A (k * f.N) c ((List.range k).flatMap fun i => upL f.N seed l T Q i (dg.getD i 0) (cutL S (i * f.N) ((i + 1) * f.N)) (15 - dg.getD i 0)) ∧ Grow wd wr) (fun _ _ t _ => ch - (intOf t).toNat)
      case atStart => exact ⟨0, none, 0, Nat.zero_le _, rfl, by simp, by simp, by simpa using Own.nil _ _, Grow.refl _⟩
      case round =>
        obtain ⟨k, A, c, hk, rfl, rfl, rfl, ho, hgb⟩ := hrel
        have hkN : k * f.N ≤ 67 * 32 := Nat.mul_le_mul (by omega) hN2
        obtain ⟨kn, hkn⟩ : ∃ x, k * f.N = x := ⟨_, rfl⟩
        rw [hkn] at ho hkN ⊢
        obtain ⟨lo, hlo⟩ : ∃ x, n0 + kn = x := ⟨_, rfl⟩
        rw [hlo]
        have HKN := Lib.hid hkn
        have HLO := Lib.hid hlo
        have HGB' := Lib.hid hgb
        have HO' := Lib.hid ho
        have x0 := cell_old hgb s0
        have x1 := cell_old hgb s1
        have x2 := cell_old hgb s2
        have x3 := cell_old hgb s3
        have x4 := cell_old hgb s4
        have x5 := cell_old hgb s5
        have x6 := cell_old hgb s6
        have x7 := cell_old hgb s7
        have x8 := cell_old hgb s8
        have x9 := cell_old hgb s9
        have x10 := cell_old hgb s10
        have hlol : lo ≤ 110000 := by omega
        clear ho hgb hkn hlo
        go_wp2_with fail
        refine (HCH.out wr).mono ?_
        rintro e wr1 ⟨rfl, g1⟩
        have HGB : Hid (Grow wd wr1) := Lib.hid (HGB'.out.trans _ _ _ g1)
        have HO := Lib.hid (HO'.out.below g1)
        have y0 := cell_old g1 x0
        have y1 := cell_old g1 x1
        have y2 := cell_old g1 x2
        have y3 := cell_old g1 x3
        have y4 := cell_old g1 x4
        have y5 := cell_old g1 x5
        have y6 := cell_old g1 x6
        have y7 := cell_old g1 x7
        have y8 := cell_old g1 x8
        have y9 := cell_old g1 x9
        have y10 := cell_old g1 x10
        clear HGB' HO' g1 x0 x1 x2 x3 x4 x5 x6 x7 x8 x9 x10
        by_cases hkt : k < ch
        · have hkd : k < dg.length := by rw [HDG.out.len]; exact hkt
          obtain ⟨al, rfl, hcl⟩ := HDG.out.at k hkt
          have hdk : dg[k] = dg.getD k 0 := by rw [List.getD_eq_getElem?_getD, List.getElem?_eq_getElem hkd, Option.getD_some]
          rw [hdk] at hcl
          have hdk16 := HDLT.out k
          obtain ⟨dk, hdk2⟩ : ∃ x, dg.getD k 0 = x := ⟨_, rfl⟩
          rw [hdk2] at hcl hdk16
          have HDK := Lib.hid hdk2
          have y11 := cell_old HGB.out hcl
          have HGW : Hid (Below w.heap.size w wr1.drew) := Lib.hid ((HG9.out.trans ((HGD.out.trans _ _ _ HGB.out).mono HG9.out.size)).drew)
          have hke : kn + f.N ≤ ea := by
            have h1 := HKN.out
            have h2 := HEA.out
            have h3 := Nat.mul_le_mul_right f.N (show k + 1 ≤ ch by omega)
            rw [Nat.succ_mul] at h3
            omega
          have hle : lo + f.N ≤ ns := by have := HLO.out; omega
          have HPL : Hid ((cutL sig lo (lo + f.N)).length = f.N) := Lib.hid (by rw [cutL_length _ _ _ (by omega) (by rw [HSGL.out]; omega)]; omega)
          have HPT2 : Hid (cutL sig lo (lo + f.N) = cutL S (k * f.N) ((k + 1) * f.N)) := Lib.hid (by rw [← HSX.out, cut_cut _ _ _ _ _ (by rw [Nat.succ_mul, HKN.out]; exact hke), Nat.succ_mul, HKN.out, ← Nat.add_assoc, HLO.out])
          clear hdk hdk2 hcl hkd
          go_wp2_with fail
          have k0 : wr1.drew.cell? ⟨w.heap.size, 0, none⟩ = some (.int .i64 (f.N : Int)) := y0
          have k1 : wr1.drew.cell? ⟨w.heap.size, 1, none⟩ = some (.int .i64 (f.L : Int)) := y1
          have k2 : wr1.drew.cell? ⟨w.heap.size, 2, none⟩ = some (.int .i64 (f.H : Int)) := y2
          have k3 : wr1.drew.cell? ⟨w.heap.size, 3, none⟩ = some (.int .i64 (f.K : Int)) := y3
          have k4 : wr1.drew.cell? ⟨w.heap.size, 4, none⟩ = some (.int .i64 (f.A : Int)) := y4
          have k5 : wr1.drew.cell? ⟨wo.heap.size, 0, none⟩ = some (.int .u32 (l : Int)) := y5
          have k6 : wr1.drew.cell? ⟨wo.heap.size, 1, none⟩ = some (.int .u64 (T : Int)) := y6
          have k7 : wr1.drew.cell? ⟨wo.heap.size, 2, none⟩ = some (.int .u32 0) := y7
          have k8 : wr1.drew.cell? ⟨wo.heap.size, 3, none⟩ = some (.int .u32 (Q : Int)) := y8
          have k9 : wr1.drew.cell? ⟨wo.heap.size, 4, none⟩ = some (.int .u32 0) := y9
          have k10 : wr1.drew.cell? ⟨wo.heap.size, 5, none⟩ = some (.int .u32 0) := y10
          have k11 : wr1.drew.cell? (al.add k) = some (.int .i64 (dk : Int)) := y11
          clear y0 y1 y2 y3 y4 y5 y6 y7 y8 y9 y10 y11
          refine wp_region_rg Grow 207 17 6 [[], [], [], [], [], [], [], [], [], [], [], [], [], [], [], [], []]
            [.still [] (.slice A kn c), .still [] (.agg #[.int .i64 (f.N : Int), .int .i64 (f.L : Int), .int .i64 (f.H : Int), .int .i64 (f.K : Int), .int .i64 (f.A : Int)]), .still [] (.slice Ap f.N cp), .still [] (.agg #[.int .u32 (l : Int), .int .u64 (T : Int), .int .u32 0, .int .u32 (Q : Int), .int .u32 0, .int .u32 0]), .still [] (.int .i64 (k : Int)), .still [] (.slice (some al) ch cl), .still [] (.int .i64 (k : Int)), .still [] (.pointer (some (al.add k))), .still [] (.int .i64 (dk : Int)), .still [] (.slice As ns cs), .still [] (.int .i64 (lo : Int)), .still [] (.int .i64 (lo : Int)), .still [] (.pointer (some ⟨w.heap.size, 0, none⟩)), .still [] (.int .i64 (f.N : Int)), .still [] (.int .i64 ((lo : Int) + (f.N : Int))), .still [] (.slice (Option.map (fun x => x.add lo) As) f.N (cs - lo)), .grow [] (RdV eB (upL f.N seed l T Q k dk (cutL sig lo (lo + f.N)) (15 - dk)))] (by kernel_rfl) (by kernel_rfl) rfl rfl rfl Grow.trans (Grow.refl _) ?_
          iterate 16
            refine Obl.still (fun W hg _ => ?_) ?_
            · have c0 := cell_old hg k0; have c1 := cell_old hg k1; have c2 := cell_old hg k2; have c3 := cell_old hg k3; have c4 := cell_old hg k4; have c5 := cell_old hg k5; have c6 := cell_old hg k6; have c7 := cell_old hg k7; have c8 := cell_old hg k8; have c9 := cell_old hg k9; have c10 := cell_old hg k10; have c11 := cell_old hg k11; clear hg k0 k1 k2 k3 k4 k5 k6 k7 k8 k9 k10 k11
              go_wp2
              exact ⟨rfl, rfl, rfl, Grow.refl _⟩
            simp only [Act.put, List.setIfInBounds_toArray, List.set_cons_zero, List.set_cons_succ]
          refine Obl.grow (RdV.keep _ _) (fun W hg _ => ?_) (fun v16 => ?_)
          · have hbW := HGW.out.trans (Below.mono hg HGW.out.size)
            have hpr := (HS.out.below hbW).sub lo (lo + f.N) (by omega) (by omega)
            rw [show lo + f.N - lo = f.N by omega] at hpr
            have HC := Lib.hid (rup_any f HF.out Ap (Option.map (fun x => x.add lo) As) f.N cp f.N (cs - lo) seed (cutL sig lo (lo + f.N)) ⟨l, T, 0, Q, 0, 0⟩ k dk 15 W (HSD.out.below hbW) HSDL.out HAD.out (by omega) (by omega) (by omega) hpr HPL.out)
            unfold vFew vAd at HC
            dsimp only at HC
            clear hbW hpr
            clear hg k0 k1 k2 k3 k4 k5 k6 k7 k8 k9 k10 k11
            go_wp2_with fail
            refine HC.out.mono ?_
            rintro e w' ⟨A1, n1, c1, rfl, h1, h2⟩
            have H1 := Lib.hid h1
            have H2 := Lib.hid h2
            clear h1 h2 HC
            go_wp2
            exact ⟨rfl, rfl, ⟨_, _, _, rfl, H1.out⟩, H2.out⟩
          simp only [Act.put, List.setIfInBounds_toArray, List.set_cons_zero, List.set_cons_succ]
          refine Obl.done (fun W hg hall => ?_)
          obtain ⟨hx, _⟩ := hall
          obtain ⟨Au, nu, cu, rfl, hx⟩ := hx
          obtain rfl : f.N = nu := by rw [← hx.len]; exact (upL_length _ _ _ _ _ _ _ _ HPL.out (by omega) _).symm
          have HGB2 : Hid (Grow wd W) := Lib.hid (Below.trans (Below.drew HGB.out) (Below.mono hg HGB.out.size))
          have HO2 := Lib.hid (HO.out.drew.below hg)
          have HX := Lib.hid hx
          have hs2 : wd.heap.size ≤ W.heap.size := HGB2.out.size
          have z0 := cell_old hg k0
          have z1 := cell_old hg k1
          have z2 := cell_old hg k2
          have z3 := cell_old hg k3
          have z4 := cell_old hg k4
          clear hg k0 k1 k2 k3 k4 k5 k6 k7 k8 k9 k10 k11 hx
          go_wp2_with (at_builtin; refine wpList_append_sl rfl _ _ 24 5 (.int .u8 0) 1 rfl Tryz.underlying24 infoB rfl (fun _ => rfl) rfl rfl HO2.out HX.out (by omega) (by omega) hs2 ?_; intro A4 c4 w4 h1 h2 h3; have H4 := Lib.hid h1; have H5 : Hid (Grow wd w4) := Lib.hid (Below.trans HGB2.out h3); have z0 := (h3.cell (show w.heap.size < wd.heap.size by omega)).trans z0; have z1 := (h3.cell (show w.heap.size < wd.heap.size by omega)).trans z1; have z2 := (h3.cell (show w.heap.size < wd.heap.size by omega)).trans z2; have z3 := (h3.cell (show w.heap.size < wd.heap.size by omega)).trans z3; have z4 := (h3.cell (show w.heap.size < wd.heap.size by omega)).trans z4; clear h1 h2 h3)
          go_roundw
          case rel => exact ⟨k + 1, A4, c4, by omega, by go_num, by rw [Nat.succ_mul, HKN.out, ← Nat.add_assoc, HLO.out]; go_num, by rw [Nat.succ_mul, HKN.out], by rw [Nat.succ_mul, HKN.out, range_flat, HDK.out, ← HPT2.out]; exact H4.out, H5.out⟩
          case measure => simp [intOf]; omega

        · obtain rfl : k = ch := by omega
          have HGX : Hid (Grow w9 wr1) := Lib.hid (HGD.out.trans _ _ _ HGB.out)
          have hso9 : w9.heap.size ≤ wo.heap.size := HWO.out
          have hb2 : Below w9.heap.size w9 (wr1.setCell ⟨wo.heap.size, 2, none⟩ (.int .u32 1)) := Below.setCell HGX.out (p := ⟨wo.heap.size, 2, none⟩) hso9 (.int .u32 1)
          have hc0 : 0 < c := by
            have h1 := HO.out.nc
            have h2 := HKN.out
            have h3 : 1 * 1 ≤ k * f.N := Nat.mul_le_mul (by omega) (by omega)
            omega
          have ho2 := HO.out.set_other ⟨wo.heap.size, 2, none⟩ (.int .u32 1) (by
            intro e
            have h9 := (HO.out.lt _ e hc0).1
            dsimp only at h9
            omega)
          have hyf : wr1.frozen? ⟨wo.heap.size, 2, none⟩ = false := (World.frozen?_of_block (w := wd) (a := ⟨wo.heap.size, 2, none⟩) (HGB.out.block _ hsd)).trans HSF.out
          have HBW : Hid (Below w.heap.size w (wr1.setCell ⟨wo.heap.size, 2, none⟩ (.int .u32 1))) := Lib.hid (HG9.out.trans (hb2.mono HG9.out.size))
          have HLN : Hid (((List.range k).flatMap fun i => upL f.N seed l T Q i (dg.getD i 0) (cutL S (i * f.N) ((i + 1) * f.N)) (15 - dg.getD i 0)).length = kn) := Lib.hid HO.out.len
          have HC := Lib.hid (rtweak_any f.N Ap A f.N cp kn c seed _ ⟨l, T, 1, Q, 0, 0⟩ (wr1.setCell ⟨wo.heap.size, 2, none⟩ (.int .u32 1)) HF.out.N (HSD.out.below HBW.out) HSDL.out ho2.rd (by rw [HLN.out]; omega) ⟨HAD.out.layer, HAD.out.tree, by show (1 : Nat) < _; omega, HAD.out.a, by show (0 : Nat) < _; omega, by show (0 : Nat) < _; omega⟩)
          rw [← HENX.out] at HC
          unfold vAd at HC
          have HB2 := Lib.hid hb2
          clear hb2 ho2
          go_wp2_with fail
          refine HC.out.mono ?_
          rintro e w6 ⟨A5, n5, c5, rfl, h5, g5⟩
          obtain ⟨leaf, hleaf⟩ : ∃ x, sEnds f.N seed l T Q (climbTo f seed tr qq of0 sig l) S = x := ⟨_, rfl⟩
          rw [hleaf] at h5
          have HLEAF : Hid (leaf.length = f.N) := Lib.hid (by rw [← hleaf]; exact sEnds_length _ _ _ _ _ _ _ (by omega))
          obtain rfl : f.N = n5 := by rw [← h5.len]; exact HLEAF.out.symm
          have H5 := Lib.hid h5.rd
          have HGE : Hid (Grow w9 w6) := Lib.hid (Below.trans HB2.out (Below.mono g5 HB2.out.size))
          obtain ⟨way, hway⟩ : ∃ x, S.drop kn = x := ⟨_, rfl⟩
          have HCL9 : Hid (climbTo f seed tr qq of0 sig (l + 1) = sClimb f.N seed l T Q leaf way f.H) := Lib.hid (by rw [HCLX.out, hleaf, HKN.out, hway])
          have HWAY := Lib.hid hway
          have t0 := cell_old HGE.out q0
          have t1 := cell_old HGE.out q1
          have t2 := cell_old HGE.out q2
          have t3 := cell_old HGE.out q3
          have t4 := cell_old HGE.out q4
          have HEA2 : Hid (kn + f.H * f.N = ea) := Lib.hid (by rw [← HKN.out]; exact HEA.out)
          clear h5 g5 HC hleaf hway HB2 HBW HLN HO HENX HDG HDLT HGX HGD HGB HCLX hyf hc0 hs3 hs4 hso9 y0 y1 y2 y3 y4 y5 y6 y7 y8 y9 y10 s0 s1 s2 s3 s4 s5 s6 s7 s8 s9 s10
          generalize w6 = we at *
          go_wp2_with fail
          go_loopw [14, 15, 21, 22] (fun a v x t wr => ∃ (g : Nat) (Ax : Option Addr) (cx : Nat), g ≤ f.H ∧ t = .int .i64 ((g : Int) + 1) ∧ a = .int .i64 ((lo + g * f.N : Nat) : Int) ∧ x = .int .u32 ((Q / 2 ^ g : Nat) : Int) ∧ v = .slice Ax f.N cx ∧ Rd eB wr Ax f.N (sClimb f.N seed l T Q leaf way g) ∧ Grow we wr) (fun _ _ _ t _ => f.H + 1 - (intOf t).toNat)
          case atStart => exact ⟨0, A5, c5, Nat.zero_le _, by simp, by simp, by simp, rfl, H5.out, Grow.refl _⟩
          case round =>
            obtain ⟨g, Ax, cx, hg, rfl, rfl, rfl, rfl, hx, hgr⟩ := hrel
            obtain ⟨gn, hgn⟩ : ∃ x, g * f.N = x := ⟨_, rfl⟩
            have hgN : gn ≤ 9 * 32 := by rw [← hgn]; exact Nat.mul_le_mul (by omega) hN2
            obtain ⟨y, hy⟩ : ∃ x, Q / 2 ^ g = x := ⟨_, rfl⟩
            have hyl : y < 512 := by rw [← hy]; exact Nat.lt_of_le_of_lt (Nat.div_le_self _ _) (by omega)
            rw [hgn, hy]
            obtain ⟨lo2, hlo2⟩ : ∃ x, lo + gn = x := ⟨_, rfl⟩
            rw [hlo2]
            have hlol2 : lo2 ≤ 120000 := by omega
            have HGN := Lib.hid hgn
            have HLO2 := Lib.hid hlo2
            have hy2 : y / 2 = Q / 2 ^ (g + 1) := by rw [← hy, two_div]
            have HY2 := Lib.hid hy2
            have HGR := Lib.hid hgr
            have HGW : Hid (Below w.heap.size w wr) := Lib.hid (HG9.out.trans ((HGE.out.trans _ _ _ hgr).mono HG9.out.size))
            have hsw : w.heap.size < wr.heap.size := Nat.lt_of_lt_of_le (Nat.lt_of_lt_of_le hs9 HGE.out.size) hgr.size
            have HX' := Lib.hid hx
            have eG : ((g : Int) + 1) % 4294967296 = (g : Int) + 1 := by omega
            have r0 := cell_old hgr t0
            have r1 := cell_old hgr t1
            have r2 := cell_old hgr t2
            have r3 := cell_old hgr t3
            have r4 := cell_old hgr t4
            by_cases hlt2 : g < f.H
            · have hgn2 : kn + (gn + f.N) ≤ ea := by
                have h1 := HEA2.out
                have h3 := Nat.mul_le_mul_right f.N (show g + 1 ≤ f.H by omega)
                rw [Nat.succ_mul, hgn] at h3
                omega
              have hlo4 : lo2 + f.N ≤ ns := by have := HLO.out; omega
              have hcurl : (sClimb f.N seed l T Q leaf way g).length = f.N := sClimb_length _ _ _ _ _ _ _ (by omega) HLEAF.out g
              have hpl : (cutL sig lo2 (lo2 + f.N)).length = f.N := by rw [cutL_length _ _ _ (by omega) (by rw [HSGL.out]; omega)]; omega
              have hpr : Rd eB wr (Option.map (fun x => x.add lo2) As) f.N (cutL sig lo2 (lo2 + f.N)) := by
                have := (HS.out.below HGW.out).sub lo2 (lo2 + f.N) (by omega) (by omega)
                rw [show lo2 + f.N - lo2 = f.N by omega] at this
                exact this
              have hif : ∀ t, (if y % 2 = 1 then cutL sig lo2 (lo2 + f.N) ++ sClimb f.N seed l T Q leaf way g else sClimb f.N seed l T Q leaf way g ++ cutL sig lo2 (lo2 + f.N)) = t → sClimb f.N seed l T Q leaf way (g + 1) = tweakL f.N seed ⟨l, T, 2, 0, g + 1, y / 2⟩ t := by
                intro t ht
                rw [← ht, hy2]
                have hp1 : cutL way (g * f.N) ((g + 1) * f.N) = cutL sig lo2 (lo2 + f.N) := by
                  rw [Nat.succ_mul, hgn, ← HWAY.out, cut_drop, ← HSX.out, cut_cut _ _ _ _ _ hgn2, ← Nat.add_assoc, HLO.out, hlo2, ← Nat.add_assoc kn, ← Nat.add_assoc n0, ← Nat.add_assoc n0, HLO.out, hlo2]
                conv => lhs; unfold sClimb
                rw [hp1, hy]
              have HIF := Lib.hid hif
              have HY := Lib.hid hpr
              have HX := Lib.hid hx
              have HL0 := Lib.hid hcurl
              have HL1 := Lib.hid hpl
              obtain ⟨cur, hcur⟩ : ∃ x, sClimb f.N seed l T Q leaf way g = x := ⟨_, rfl⟩
              obtain ⟨part, hpart⟩ : ∃ x, cutL sig lo2 (lo2 + f.N) = x := ⟨_, rfl⟩
              rw [hcur] at HX HIF HL0
              rw [hpart] at HY HIF HL1
              clear hif hpr hcurl hpl hcur hpart hgr hx hgn hy hlo2 hy2 HX'
              go_wp2_with fail
              have k0 : wr.drew.cell? ⟨w.heap.size, 0, none⟩ = some (.int .i64 (f.N : Int)) := r0
              have k1 : wr.drew.cell? ⟨w.heap.size, 1, none⟩ = some (.int .i64 (f.L : Int)) := r1
              have k2 : wr.drew.cell? ⟨w.heap.size, 2, none⟩ = some (.int .i64 (f.H : Int)) := r2
              have k3 : wr.drew.cell? ⟨w.heap.size, 3, none⟩ = some (.int .i64 (f.K : Int)) := r3
              have k4 : wr.drew.cell? ⟨w.heap.size, 4, none⟩ = some (.int .i64 (f.A : Int)) := r4
              refine wp_region_rg (GK wr.heap.size cur part) 207 11 6 [[], [], [0], [], [], [], [], [], [], [], [2]]
                [.grow [] (EmptyV wr.heap.size), .still [] (.slice Ax f.N cx), .grow [0] (OwnV eB wr.heap.size cur), .still [] (.slice As ns cs), .still [] (.int .i64 (lo2 : Int)), .still [] (.int .i64 (lo2 : Int)), .still [] (.pointer (some ⟨w.heap.size, 0, none⟩)), .still [] (.int .i64 (f.N : Int)), .still [] (.int .i64 ((lo2 : Int) + (f.N : Int))), .still [] (.slice (Option.map (fun x => x.add lo2) As) f.N (cs - lo2)), .grow [2] (OwnV eB wr.heap.size (cur ++ part))] (by kernel_rfl) (by kernel_rfl) rfl rfl rfl (GK.trans wr.heap.size cur part) (GK.refl wr.heap.size cur part _) ?_
              refine Obl.grow (EmptyV.keep _ _ _) (fun W hg _ => ?_) (fun v0 => ?_)
              · have hsW : wr.heap.size ≤ W.heap.size := hg.1.size
                clear hg k0 k1 k2 k3 k4
                go_wp2
                exact ⟨rfl, rfl, ⟨_, rfl, hsW, by simp⟩, GK.of ((Below.refl _ _).alloc (Nat.le_refl _) _) hsW⟩
              simp only [Act.put, List.setIfInBounds_toArray, List.set_cons_zero, List.set_cons_succ]
              refine Obl.still (fun W hg _ => ?_) ?_
              · have c0 := GK.cell hg k0 (by show w.heap.size < wr.heap.size; omega); have c1 := GK.cell hg k1 (by show w.heap.size < wr.heap.size; omega); have c2 := GK.cell hg k2 (by show w.heap.size < wr.heap.size; omega); have c3 := GK.cell hg k3 (by show w.heap.size < wr.heap.size; omega); have c4 := GK.cell hg k4 (by show w.heap.size < wr.heap.size; omega); clear hg k0 k1 k2 k3 k4
                go_wp2
                exact ⟨rfl, rfl, rfl, GK.refl _ _ _ _⟩
              simp only [Act.put, List.setIfInBounds_toArray, List.set_cons_zero, List.set_cons_succ]
              refine Obl.grow (fun _ _ _ ⟨A, n, c, e, o⟩ h => ⟨A, n, c, e, h.2.1 _ _ _ o⟩) (fun W hg ⟨h0, _⟩ => ?_) (fun v2 => ?_)
              · obtain ⟨g6, rfl, hg6, hs6⟩ := h0
                have hsW : wr.heap.size ≤ W.heap.size := hg.1.size
                have HO := Lib.hid (EmptyV.own hg6 hs6)
                have HR := Lib.hid (HX.out.below (w := wr) ((Below.refl _ _).drew.trans hg.1))
                clear hg k0 k1 k2 k3 k4 hg6 hs6
                refine wpList_append_sl3 rfl _ _ 24 5 (.int .u8 0) 1 rfl Tryz.underlying24 infoB rfl (fun _ => rfl) rfl rfl HO.out HR.out (by omega) (by omega) hsW ?_
                intro A4 c4 w4 h1 h2 h3 h4 h5
                have hq1 := Lib.hid h1
                have hq2 := Lib.hid h2
                have hq3 := Lib.hid h3
                have hq4 := Lib.hid h4
                have hq5 := Lib.hid h5
                clear h1 h2 h3 h4 h5
                go_wp2
                refine ⟨rfl, rfl, ⟨_, _, _, rfl, by simpa using hq1.out⟩, GK.of (hq5.out (by omega)) hsW⟩
              simp only [Act.put, List.setIfInBounds_toArray, List.set_cons_zero, List.set_cons_succ]
              iterate 7
                refine Obl.still (fun W hg _ => ?_) ?_
                · have c0 := GK.cell hg k0 (by show w.heap.size < wr.heap.size; omega); have c1 := GK.cell hg k1 (by show w.heap.size < wr.heap.size; omega); have c2 := GK.cell hg k2 (by show w.heap.size < wr.heap.size; omega); have c3 := GK.cell hg k3 (by show w.heap.size < wr.heap.size; omega); have c4 := GK.cell hg k4 (by show w.heap.size < wr.heap.size; omega); clear hg k0 k1 k2 k3 k4
                  go_wp2
                  exact ⟨rfl, rfl, rfl, GK.refl _ _ _ _⟩
                simp only [Act.put, List.setIfInBounds_toArray, List.set_cons_zero, List.set_cons_succ]
              refine Obl.grow (fun _ _ _ ⟨A, n, c, e, o⟩ h => ⟨A, n, c, e, h.2.2 _ _ _ o⟩) (fun W hg ⟨h2, _⟩ => ?_) (fun v10 => ?_)
              · obtain ⟨Ah2, nh2, ch2, rfl, h2⟩ := h2
                have hsW : wr.heap.size ≤ W.heap.size := hg.1.size
                obtain rfl : f.N = nh2 := by rw [← h2.len]; exact HL0.out.symm
                have HO := Lib.hid h2
                have HR := Lib.hid (HY.out.below (w := wr) ((Below.refl _ _).drew.trans hg.1))
                clear hg k0 k1 k2 k3 k4 h2
                refine wpList_append_sl3 rfl _ _ 24 5 (.int .u8 0) 1 rfl Tryz.underlying24 infoB rfl (fun _ => rfl) rfl rfl HO.out HR.out (by omega) (by omega) hsW ?_
                intro A4 c4 w4 h1 h2 h3 h4 h5
                have hq1 := Lib.hid h1
                have hq2 := Lib.hid h2
                have hq3 := Lib.hid h3
                have hq4 := Lib.hid h4
                have hq5 := Lib.hid h5
                clear h1 h2 h3 h4 h5
                go_wp2
                exact ⟨rfl, rfl, ⟨_, _, _, rfl, hq1.out⟩, ⟨hq2.out, hq3.out, hq4.out⟩⟩
              simp only [Act.put, List.setIfInBounds_toArray, List.set_cons_zero, List.set_cons_succ]
              refine Obl.done (fun w22 hg hall => ?_)
              obtain ⟨hx, _⟩ := hall
              obtain ⟨A22, n22, c22, rfl, hx⟩ := hx
              obtain rfl : f.N + f.N = n22 := by rw [← hx.len, List.length_append, HL0.out, HL1.out]
              have X2 := Lib.hid hx
              have G2 : Hid (Grow wr w22) := Lib.hid ((Below.refl _ _).drew.trans hg.1)
              have hsw2 : w.heap.size < w22.heap.size := Nat.lt_of_lt_of_le hsw G2.out.size
              have hs5 : (w22.heap.size == w.heap.size) = false := by simp; omega
              have Y2 := Lib.hid (HY.out.below G2.out)
              have Z2 := Lib.hid (HX.out.below G2.out)
              have HGW2 : Hid (Below w.heap.size w w22) := Lib.hid (HGW.out.trans (G2.out.mono HGW.out.size))
              have z0 := cell_old G2.out r0
              have z1 := cell_old G2.out r1
              have z2 := cell_old G2.out r2
              have z3 := cell_old G2.out r3
              have z4 := cell_old G2.out r4
              clear hg k0 k1 k2 k3 k4 hx r0 r1 r2 r3 r4

              by_cases hod : y % 2 = 1
              · have hif := HIF.out (part ++ cur)
                rw [if_pos hod] at hif
                have HIFX := Lib.hid (hif rfl)
                clear hif
                go_wp2_with (at_builtin; first | (simp only [Nat.add_sub_cancel_left]; refine wpList_append_sl rfl _ _ 24 5 (.int .u8 0) 1 rfl Tryz.underlying24 infoB rfl (fun _ => rfl) rfl rfl (EmptyV.own (Nat.le_refl _) (lt_alloc _ _)) (Y2.out.alloc _) (by omega) (by omega) (Nat.le_of_lt (lt_alloc _ _)) ?_; intro A23 c23 w23 h1 h2 h3; have X3 : Hid (Own eB w22.heap.size w23 A23 f.N c23 part) := Lib.hid (by simpa using h1); have G3 : Hid (Grow w22 w23) := Lib.hid (((Below.refl _ _).alloc (Nat.le_refl _) _).trans h3); have Z3 := Lib.hid (Z2.out.below G3.out); have hs23 := G3.out.size; clear h1 h2 h3) | (refine wpList_append_sl rfl _ _ 24 5 (.int .u8 0) 1 rfl Tryz.underlying24 infoB rfl (fun _ => rfl) rfl rfl X3.out Z3.out (by omega) (by omega) hs23 ?_; intro A24 c24 w24 h1 h2 h3; have X4 : Hid (Own eB w22.heap.size w24 A24 (f.N + f.N) c24 (part ++ cur)) := Lib.hid h1; have G4 : Hid (Grow w22 w24) := Lib.hid (Below.trans G3.out h3); have G5 : Hid (Grow wr w24) := Lib.hid (G2.out.trans _ _ _ G4.out); have HGW4 : Hid (Below w.heap.size w w24) := Lib.hid (HGW2.out.trans (G4.out.mono HGW2.out.size)); have y0 := cell_old G4.out z0; have y1 := cell_old G4.out z1; have y2 := cell_old G4.out z2; have y3 := cell_old G4.out z3; have y4 := cell_old G4.out z4; clear h1 h2 h3))
                have HC := Lib.hid (rtweak_any f.N Ap A24 f.N cp (f.N + f.N) c24 seed (part ++ cur) ⟨l, T, 2, 0, g + 1, y / 2⟩ w24 HF.out.N (HSD.out.below HGW4.out) HSDL.out X4.out.rd (by rw [X4.out.len]; omega) ⟨HAD.out.layer, HAD.out.tree, by show (2 : Nat) < _; omega, by show (0 : Nat) < _; omega, by show g + 1 < _; omega, by show y / 2 < _; omega⟩)
                unfold vAd at HC
                dsimp only at HC
                rw [show ((g + 1 : Nat) : Int) = (g : Int) + 1 by omega, show ((y / 2 : Nat) : Int) = (y : Int) / 2 by omega, ← HIFX.out] at HC
                refine HC.out.mono ?_
                rintro e w9' ⟨A9, n9, c9, rfl, h5, g5⟩
                obtain rfl : f.N = n9 := by rw [← h5.len]; exact (sClimb_length _ _ _ _ _ _ _ (by omega) HLEAF.out _).symm
                have HX9 := Lib.hid h5.rd
                have HGX9 : Hid (Grow we w9') := Lib.hid ((HGR.out.trans _ _ _ G5.out).trans _ _ _ g5)
                clear h5 g5 HC
                go_wp2
                go_roundw
                case rel => exact ⟨g + 1, A9, c9, by omega, by go_num, by rw [Nat.succ_mul, HGN.out, ← Nat.add_assoc, HLO2.out]; go_num, by rw [← HY2.out]; go_num, rfl, HX9.out, HGX9.out⟩
                case measure => simp [intOf]; omega
              · have hif := HIF.out (cur ++ part)
                rw [if_neg hod] at hif
                have HIFX := Lib.hid (hif rfl)
                clear hif
                go_wp2_with (fail)
                have HC := Lib.hid (rtweak_any f.N Ap A22 f.N cp (f.N + f.N) c22 seed (cur ++ part) ⟨l, T, 2, 0, g + 1, y / 2⟩ w22 HF.out.N (HSD.out.below HGW2.out) HSDL.out X2.out.rd (by rw [X2.out.len]; omega) ⟨HAD.out.layer, HAD.out.tree, by show (2 : Nat) < _; omega, by show (0 : Nat) < _; omega, by show g + 1 < _; omega, by show y / 2 < _; omega⟩)
                unfold vAd at HC
                dsimp only at HC
                rw [show ((g + 1 : Nat) : Int) = (g : Int) + 1 by omega, show ((y / 2 : Nat) : Int) = (y : Int) / 2 by omega, ← HIFX.out] at HC
                refine HC.out.mono ?_
                rintro e w9' ⟨A9, n9, c9, rfl, h5, g5⟩
                obtain rfl : f.N = n9 := by rw [← h5.len]; exact (sClimb_length _ _ _ _ _ _ _ (by omega) HLEAF.out _).symm
                have HX9 := Lib.hid h5.rd
                have HGX9 : Hid (Grow we w9') := Lib.hid ((HGR.out.trans _ _ _ G2.out).trans _ _ _ g5)
                clear h5 g5 HC
                go_wp2
                go_roundw
                case rel => exact ⟨g + 1, A9, c9, by omega, by go_num, by rw [Nat.succ_mul, HGN.out, ← Nat.add_assoc, HLO2.out]; go_num, by rw [← HY2.out]; go_num, rfl, HX9.out, HGX9.out⟩
                case measure => simp [intOf]; omega
            · obtain rfl : g = f.H := by omega
              obtain ⟨T2, hT2⟩ : ∃ x, T / pH = x := ⟨_, rfl⟩
              obtain ⟨Q2, hQ2⟩ : ∃ x, T % pH = x := ⟨_, rfl⟩
              have hQ2l : Q2 < 512 := by rw [← hQ2]; exact Nat.lt_of_lt_of_le (Nat.mod_lt _ hpw1) hpw2
              have hz1 : (T : Int) % (pH : Int) = (Q2 : Int) := by rw [← hQ2, Int.natCast_emod]
              have hz2 : (T : Int) / (pH : Int) = (T2 : Int) := by rw [← hT2, Int.natCast_ediv]
              have HT2 := Lib.hid (And.intro hT2 hQ2)
              have HWR : Hid (IntKind.u64.wrap (T2 : Int) = (T2 : Int)) := Lib.hid (wraps_u64 _ (by omega) (by
                have h1 : T2 ≤ T := by rw [← hT2]; exact Nat.div_le_self _ _
                have h2 := HTW.out
                unfold W64 at h2
                omega))
              have hlen : lo2 = hd + (l + 1) * ea := by
                have h1 := HN0.out
                have h2 := HLO.out
                have h5 := HEA2.out
                rw [Nat.succ_mul]
                omega
              have HLEN := Lib.hid hlen
              clear hT2 hQ2 hlen hgr hx hgn hy hlo2 hy2 hg
              go_wp2_with fail
              refine (HPOW.out wr).mono ?_
              rintro e w7 ⟨rfl, rfl⟩
              go_wp2_with fail
              refine (HPOW.out wr).mono ?_
              rintro e w7 ⟨rfl, rfl⟩
              go_wp2_with fail
              go_roundw
              case rel => exact ⟨l + 1, Ax, cx, by omega, by go_num, by rw [(HTS.out l).1, HTQ.out.1, HT2.out.1, HWR.out], by rw [(HTS.out l).2, HTQ.out.1, HT2.out.2], by rw [HLEN.out], rfl, by rw [HCL9.out]; exact HX'.out, HGE.out.trans _ _ _ HGR.out⟩
              case measure => simp [intOf]; omega
    · obtain rfl : l = f.L := by omega
      have HBW : Hid (Below w.heap.size w wo) := Lib.hid (HG9.out.trans (HGR'.out.mono HG9.out.size))
      have hR := (HP.out.below HBW.out).sub f.N np hnp2 (Nat.le_refl _)
      have e9 : pub.take np = pub := List.take_of_length_le (by rw [HP.out.len]; exact Nat.le_refl _)
      rw [e9] at hR
      have HR9 := Lib.hid hR
      clear hR e9
      go_wp2_with fail
      refine (same_any Ao _ f.N (np - f.N) co (cp - f.N) _ _ wo HOF.out HR9.out).mono ?_
      rintro e w7 ⟨rfl, g7⟩
      have HB7 : Hid (Below w.heap.size w w7) := Lib.hid (HBW.out.trans (Below.mono g7 HBW.out.size))
      clear g7
      go_wp2
      go_ret
      exact ⟨by rw [HRES.out]; rfl, HB7.out⟩
end Go.Proofs.Sl
