/- The document's FORS: the whole for which what is told stands. The document's SLH: where a digest leads. The document's SLH: the digest. -/
import Derived.Test.YtipedpkkabfdjaaGreatDoorFits27
import Derived.Test.YtipedpkkabfdjaaGreatDoorFits20
/- The document's FORS: the whole for which what is told stands. -/
namespace Go.Proofs.Sl
open Go.RowKit Go.Proofs

theorem lt_alloc (w : World) (o : Obj) : w.heap.size < (w.alloc o).heap.size := by simp

theorem cut_cut (l : List UInt8) (lo ea i j : Nat) (h : j ≤ ea) : cutL (cutL l lo (lo + ea)) i j = cutL l (lo + i) (lo + j) := by
  unfold cutL
  rw [List.take_drop, List.take_take, List.drop_drop, Nat.min_eq_left (by omega)]

set_option maxRecDepth 8000 in
set_option maxHeartbeats 8000000 in
theorem rstands_any (f : Few) (As Ab At : Option Addr) (ns cs nb cb nt ct tree q : Nat) (seed b told : List UInt8) (w : World) (hf : FewOk f) (hs : Rd eB w As ns seed) (hsl : seed.length = f.N) (ht : W64 tree) (hq : q < 4294967296)
    (hb : Rd eB w Ab nb b) (hnb : nb ≤ 1048576) (hbl : f.K * f.A ≤ b.length * 8) (htd : Rd eB w At nt told) (htl : told.length = f.K * fEach f) (hct : nt ≤ ct) :
    Calls Tryz.prog 56 #[vFew f, .slice As ns cs, .int .u64 (tree : Int), .int .u32 (q : Int), .slice Ab nb cb, .slice At nt ct] w (RetOwn eB w (fStands f seed tree q b told)) := by
  have hK : f.K ≤ 40 := hf.K2
  have hK1 : 1 ≤ f.K := hf.K1
  have hA : f.A ≤ 14 := hf.A2
  have hN1 := hf.N.pos'
  have hN2 := hf.N.le'
  have hns : ns = f.N := by rw [← hs.len]; exact hsl
  subst hns
  have HAT := Lib.hid (fun (Ax : Option Addr) nx cx text kind i b W (hk : kind ≤ 1000) (hi : i ≤ 1000) (hb : b < 4294967296) (hW : Below w.heap.size w W) (hx : Rd eB W Ax nx text) (hxl : text.length ≤ 65536) => rat_any f hf As Ax f.N nx cs cx seed text ⟨0, tree, 0, q, 0, 0⟩ kind i b W (hs.below hW) hsl ⟨by show (0 : Nat) < _; omega, ht, by show (0 : Nat) < _; omega, hq, by show (0 : Nat) < _; omega, by show (0 : Nat) < _; omega⟩ hk hi hb hx hxl)
  unfold vAd at HAT
  have HDG := Lib.hid (fun W (hW : Below w.heap.size w W) => rdigits_any f hf Ab nb cb b W (hb.below hW) hnb hbl)
  have hp2 : 2 ^ f.A ≤ 16384 := Nat.le_trans (Nat.pow_le_pow_right (by omega) hA) (by decide)
  have HIXL := Lib.hid (fun k (h : k < f.K) => Nat.lt_of_lt_of_le (index_lt f b k h) (Nat.mul_le_mul hK hp2))
  obtain ⟨pA, hpA⟩ : ∃ x, 2 ^ f.A = x := ⟨_, rfl⟩
  have HPOW := Lib.hid (fun W => rpow32_any f.A W (by omega))
  rw [hpA] at hp2 HPOW
  have HPA := Lib.hid hpA
  obtain ⟨ea, hea⟩ : ∃ ea, (f.A + 1) * f.N = ea := ⟨_, rfl⟩
  have hea2 : ea ≤ 15 * 32 := by rw [← hea]; exact Nat.mul_le_mul (by omega) hN2
  have htl2 : told.length = f.K * ea := by rw [htl, ← hea]; rfl
  obtain ⟨ka1, hka⟩ : ∃ x, f.K * (f.A + 1) = x := ⟨_, rfl⟩
  have hka1 : (f.K : Int) * ((f.A : Int) + 1) = (ka1 : Int) := by rw [← hka]; simp
  have hnt : ka1 * f.N = nt := by rw [← htd.len, htl2, ← hka, ← hea, Nat.mul_assoc]
  have hnt1 : (ka1 : Int) * (f.N : Int) = (nt : Int) := by rw [← hnt]; simp
  have hntk : f.K * ea = nt := by rw [← htd.len, htl2]
  have hka9 : ka1 ≤ 40 * 15 := by rw [← hka]; exact Nat.mul_le_mul hK (by omega)
  have hnt9 : nt ≤ 40 * (15 * 32) := by rw [← hntk]; exact Nat.mul_le_mul hK hea2
  have hnn : ((nt : Int) != (nt : Int)) = false := by simp
  have hNN : ((f.N : Int) != (f.N : Int)) = false := by simp
  have hKK : ((f.K : Int) == 0) = false := by simp; omega
  have HNTK := Lib.hid hntk
  have HEA := Lib.hid hea
  have HT := Lib.hid htd
  have hcutl : ∀ g, cutL (cutL told (g * ea) ((g + 1) * ea)) 0 0 = [] := fun g => by simp [cutL]
  have HFL := Lib.hid (fun k => flat_len (List.range k) (fun k => fClimb f.N seed tree q (cutL told (k * fEach f) ((k + 1) * fEach f)) (fIndex f b k) f.A) f.N (fun k => fClimb_length f.N seed tree q _ _ _ (by omega)))
  have HFE : Hid (fEach f = ea) := Lib.hid hea
  clear hs hsl ht hq hb hbl htd htl hf hpA hea htl2 hka hnt hntk hcutl
  unfold vFew at *
  go_enter Tryz.func56, Tryz.ntmps56
  go_wp2_with fail
  refine (HDG.out (w.alloc (.cells #[.int .i64 (f.N : Int), .int .i64 (f.L : Int), .int .i64 (f.H : Int), .int .i64 (f.K : Int), .int .i64 (f.A : Int)] 23)) ((Below.refl _ w).alloc (Nat.le_refl _) _)).mono ?_
  rintro e w1 ⟨Ad, nd, cd, rfl, hd, hB⟩
  obtain rfl : f.K = nd := by rw [← hd.len, fDigits_length]
  have HD1 := Lib.hid hd.rd
  have g1 : Grow w w1 := ((Below.refl _ w).alloc (Nat.le_refl _) _).trans (hB.mono (by simp))
  have k0 : w1.cell? ⟨w.heap.size, 0, none⟩ = some (.int .i64 (f.N : Int)) := (hB.cell (by simp)).trans (by go_simp)
  have k1 : w1.cell? ⟨w.heap.size, 1, none⟩ = some (.int .i64 (f.L : Int)) := (hB.cell (by simp)).trans (by go_simp)
  have k2 : w1.cell? ⟨w.heap.size, 2, none⟩ = some (.int .i64 (f.H : Int)) := (hB.cell (by simp)).trans (by go_simp)
  have k3 : w1.cell? ⟨w.heap.size, 3, none⟩ = some (.int .i64 (f.K : Int)) := (hB.cell (by simp)).trans (by go_simp)
  have k4 : w1.cell? ⟨w.heap.size, 4, none⟩ = some (.int .i64 (f.A : Int)) := (hB.cell (by simp)).trans (by go_simp)
  have hs0 : w.heap.size < w1.heap.size := by have := hB.size; simp at this; omega
  have hs3 : (w1.heap.size == w.heap.size) = false := by simp; omega
  clear hB hd HDG
  go_wp2_with fail
  generalize hW2 : World.alloc w1 _ = w2
  have g2 : Grow w1 w2 := by rw [← hW2]; exact (Below.refl _ _).alloc (Nat.le_refl _) _
  have p0 : w2.cell? ⟨w.heap.size, 0, none⟩ = some (.int .i64 (f.N : Int)) := cell_old g2 k0
  have p1 : w2.cell? ⟨w.heap.size, 1, none⟩ = some (.int .i64 (f.L : Int)) := cell_old g2 k1
  have p2 : w2.cell? ⟨w.heap.size, 2, none⟩ = some (.int .i64 (f.H : Int)) := cell_old g2 k2
  have p3 : w2.cell? ⟨w.heap.size, 3, none⟩ = some (.int .i64 (f.K : Int)) := cell_old g2 k3
  have p4 : w2.cell? ⟨w.heap.size, 4, none⟩ = some (.int .i64 (f.A : Int)) := cell_old g2 k4
  have p5 : w2.cell? ⟨w1.heap.size, 0, none⟩ = some (.int .u32 0) := by subst hW2; go_simp
  have p6 : w2.cell? ⟨w1.heap.size, 1, none⟩ = some (.int .u64 (tree : Int)) := by subst hW2; go_simp
  have p7 : w2.cell? ⟨w1.heap.size, 2, none⟩ = some (.int .u32 0) := by subst hW2; go_simp
  have p8 : w2.cell? ⟨w1.heap.size, 3, none⟩ = some (.int .u32 (q : Int)) := by subst hW2; go_simp
  have p9 : w2.cell? ⟨w1.heap.size, 4, none⟩ = some (.int .u32 0) := by subst hW2; go_simp
  have p10 : w2.cell? ⟨w1.heap.size, 5, none⟩ = some (.int .u32 0) := by subst hW2; go_simp
  have HG2 := Lib.hid (g1.trans _ _ _ g2)
  have HD := Lib.hid (HD1.out.below g2)
  clear hW2 g1 g2 k0 k1 k2 k3 k4 hs3 HD1
  go_loopw [13, 16, 17] (fun v a t wr => ∃ (k : Nat) (A : Option Addr) (c : Nat), k ≤ f.K ∧ t = .int .i64 (k : Int) ∧ a = .int .i64 ((k * ea : Nat) : Int) ∧ v = .slice A (k * f.N) c ∧ Own eB w2.heap.size wr A (k * f.N) c ((List.range k).flatMap fun k => fClimb f.N seed tree q (cutL told (k * fEach f) ((k + 1) * fEach f)) (fIndex f b k) f.A) ∧ Grow w2 wr) (fun _ _ t _ => f.K - (intOf t).toNat)
  case atStart => exact ⟨0, none, 0, Nat.zero_le _, rfl, by simp, by simp, by simpa using Own.nil _ _, Grow.refl _⟩
  case round =>
    obtain ⟨k, A, c, hk, rfl, rfl, rfl, ho, hgr⟩ := hrel
    have hkN : k * f.N ≤ 40 * 32 := Nat.mul_le_mul (by omega) hN2
    obtain ⟨kn, hkn⟩ : ∃ x, k * f.N = x := ⟨_, rfl⟩
    rw [hkn] at ho hkN ⊢
    have HKN := Lib.hid hkn
    have HO' := Lib.hid ho
    clear ho hkn
    by_cases hlt : k < f.K
    · obtain ⟨lo, hlo⟩ : ∃ x, k * ea = x := ⟨_, rfl⟩
      rw [hlo]
      have hlo3 : lo + ea ≤ nt := by rw [← HNTK.out, ← hlo, ← Nat.succ_mul]; exact Nat.mul_le_mul_right _ hlt
      have hea4 : f.A * f.N + f.N = ea := by rw [← HEA.out, Nat.succ_mul]
      have hNea : f.N ≤ ea := by omega
      have HEA4 := Lib.hid hea4
      have HLO := Lib.hid hlo
      obtain ⟨ad, rfl, k11⟩ := (HD.out.below hgr).at k hlt
      rw [fDigits_at] at k11
      have hdl := digitTo_lt f.A b k f.A
      have hix := HIXL.out k hlt
      have hxx : fIndex f b k = k * 2 ^ f.A + digitTo f.A b k f.A := rfl
      rw [HPA.out] at hdl hxx
      obtain ⟨kp, hkp⟩ : ∃ x, k * pA = x := ⟨_, rfl⟩
      have hkp1 : (k : Int) * (pA : Int) = (kp : Int) := by rw [← hkp, Int.natCast_mul]
      have hk32 : (k : Int) % 4294967296 = (k : Int) := by omega
      rw [hkp] at hxx
      generalize digitTo f.A b k f.A = d at *
      obtain ⟨i, hi⟩ : ∃ x, fIndex f b k = x := ⟨_, rfl⟩
      rw [hi] at hxx hix
      have hadd : (kp : Int) + (d : Int) = (i : Int) := by omega
      have hix2 : i < 655360 := by omega
      have HI := Lib.hid hi
      have HXX := Lib.hid hxx
      clear hi hxx hix hkp hlo hea4
      have k0 := cell_old hgr p0
      have k1 := cell_old hgr p1
      have k2 := cell_old hgr p2
      have k3 := cell_old hgr p3
      have k4 := cell_old hgr p4
      have k5 := cell_old hgr p5
      have k6 := cell_old hgr p6
      have k7 := cell_old hgr p7
      have k8 := cell_old hgr p8
      have k9 := cell_old hgr p9
      have k10 := cell_old hgr p10
      go_wp2_with fail
      refine wp_region_rg Grow 133 11 11 [[], [], [], [], [], [], [], [], [], [], []]
        [.still [] (.int .i64 (k : Int)), .still [] (.int .u32 (k : Int)), .still [] (.pointer (some ⟨w.heap.size, 4, none⟩)), .still [] (.int .i64 (f.A : Int)), .still [] (.int .u32 (pA : Int)), .still [] (.int .u32 (kp : Int)), .still [] (.slice (some ad) f.K cd), .still [] (.int .i64 (k : Int)), .still [] (.pointer (some (ad.add k))), .still [] (.int .u32 (d : Int)), .still [] (.int .u32 (i : Int))] (by kernel_rfl) (by kernel_rfl) rfl rfl rfl Grow.trans (Grow.refl _) ?_
      iterate 4
        refine Obl.still (fun W hg _ => ?_) ?_
        · have c0 := cell_old hg k0; have c1 := cell_old hg k1; have c2 := cell_old hg k2; have c3 := cell_old hg k3; have c4 := cell_old hg k4; have c5 := cell_old hg k5; have c6 := cell_old hg k6; have c7 := cell_old hg k7; have c8 := cell_old hg k8; have c9 := cell_old hg k9; have c10 := cell_old hg k10; have c11 := cell_old hg k11; clear hg k0 k1 k2 k3 k4 k5 k6 k7 k8 k9 k10 k11
          go_wp2
          exact ⟨rfl, rfl, rfl, Grow.refl _⟩
        simp only [Act.put, List.setIfInBounds_toArray, List.set_cons_zero, List.set_cons_succ]
      refine Obl.still (fun W hg _ => ?_) ?_
      · have c0 := hg
        clear c0
        clear hg k0 k1 k2 k3 k4 k5 k6 k7 k8 k9 k10 k11
        go_wp2_with fail
        refine (HPOW.out W).mono ?_
        rintro e w' ⟨rfl, rfl⟩
        go_wp2
        exact ⟨rfl, rfl, rfl, Grow.refl _⟩
      simp only [Act.put, List.setIfInBounds_toArray, List.set_cons_zero, List.set_cons_succ]
      iterate 6
        refine Obl.still (fun W hg _ => ?_) ?_
        · have c0 := cell_old hg k0; have c1 := cell_old hg k1; have c2 := cell_old hg k2; have c3 := cell_old hg k3; have c4 := cell_old hg k4; have c5 := cell_old hg k5; have c6 := cell_old hg k6; have c7 := cell_old hg k7; have c8 := cell_old hg k8; have c9 := cell_old hg k9; have c10 := cell_old hg k10; have c11 := cell_old hg k11; clear hg k0 k1 k2 k3 k4 k5 k6 k7 k8 k9 k10 k11
          go_wp2
          exact ⟨rfl, rfl, rfl, Grow.refl _⟩
        simp only [Act.put, List.setIfInBounds_toArray, List.set_cons_zero, List.set_cons_succ]
      refine Obl.done (fun W hg hall => ?_)
      have HGR1 := Lib.hid (hgr.trans _ _ _ ((Below.refl _ _).drew.trans hg))
      have r0 : W.drew.cell? ⟨w.heap.size, 0, none⟩ = some (.int .i64 (f.N : Int)) := cell_old HGR1.out p0
      have r1 : W.drew.cell? ⟨w.heap.size, 1, none⟩ = some (.int .i64 (f.L : Int)) := cell_old HGR1.out p1
      have r2 : W.drew.cell? ⟨w.heap.size, 2, none⟩ = some (.int .i64 (f.H : Int)) := cell_old HGR1.out p2
      have r3 : W.drew.cell? ⟨w.heap.size, 3, none⟩ = some (.int .i64 (f.K : Int)) := cell_old HGR1.out p3
      have r4 : W.drew.cell? ⟨w.heap.size, 4, none⟩ = some (.int .i64 (f.A : Int)) := cell_old HGR1.out p4
      have r5 : W.drew.cell? ⟨w1.heap.size, 0, none⟩ = some (.int .u32 0) := cell_old HGR1.out p5
      have r6 : W.drew.cell? ⟨w1.heap.size, 1, none⟩ = some (.int .u64 (tree : Int)) := cell_old HGR1.out p6
      have r7 : W.drew.cell? ⟨w1.heap.size, 2, none⟩ = some (.int .u32 0) := cell_old HGR1.out p7
      have r8 : W.drew.cell? ⟨w1.heap.size, 3, none⟩ = some (.int .u32 (q : Int)) := cell_old HGR1.out p8
      have r9 : W.drew.cell? ⟨w1.heap.size, 4, none⟩ = some (.int .u32 0) := cell_old HGR1.out p9
      have r10 : W.drew.cell? ⟨w1.heap.size, 5, none⟩ = some (.int .u32 0) := cell_old HGR1.out p10
      have HO1 := Lib.hid (HO'.out.below ((Below.refl _ _).drew.trans hg))
      clear hg k0 k1 k2 k3 k4 k5 k6 k7 k8 k9 k10 k11 hgr
      go_wp2_with fail

      refine wp_region_rg Grow 133 11 11 [[], [], [], [], [], [], [], [], [], [], []]
        [.still [] (.agg #[.int .i64 (f.N : Int), .int .i64 (f.L : Int), .int .i64 (f.H : Int), .int .i64 (f.K : Int), .int .i64 (f.A : Int)]), .still [] (.slice As f.N cs), .still [] (.agg #[.int .u32 0, .int .u64 (tree : Int), .int .u32 0, .int .u32 (q : Int), .int .u32 0, .int .u32 0]), .still [] (.int .u32 (i : Int)), .still [] (.slice At nt ct), .still [] (.int .i64 (lo : Int)), .still [] (.int .i64 (lo : Int)), .still [] (.pointer (some ⟨w.heap.size, 0, none⟩)), .still [] (.int .i64 (f.N : Int)), .still [] (.int .i64 ((lo : Int) + (f.N : Int))), .still [] (.slice (Option.map (fun x => x.add lo) At) f.N (ct - lo))] (by kernel_rfl) (by kernel_rfl) rfl rfl rfl Grow.trans (Grow.refl _) ?_
      iterate 11
        refine Obl.still (fun W' hg _ => ?_) ?_
        · have c0 := cell_old hg r0; have c1 := cell_old hg r1; have c2 := cell_old hg r2; have c3 := cell_old hg r3; have c4 := cell_old hg r4; have c5 := cell_old hg r5; have c6 := cell_old hg r6; have c7 := cell_old hg r7; have c8 := cell_old hg r8; have c9 := cell_old hg r9; have c10 := cell_old hg r10; clear hg r0 r1 r2 r3 r4 r5 r6 r7 r8 r9 r10
          go_wp2
          exact ⟨rfl, rfl, rfl, Grow.refl _⟩
        simp only [Act.put, List.setIfInBounds_toArray, List.set_cons_zero, List.set_cons_succ]
      refine Obl.done (fun W' hg hall => ?_)
      have HGR2 := Lib.hid (HGR1.out.trans _ _ _ ((Below.refl _ _).drew.trans hg))
      have HGW : Hid (Grow w W') := Lib.hid (HG2.out.trans _ _ _ HGR2.out)
      have HO := Lib.hid (HO1.out.below ((Below.refl _ _).drew.trans hg))
      clear hg r0 r1 r2 r3 r4 r5 r6 r7 r8 r9 r10 HGR1 HO1
      have s0 := cell_old HGR2.out p0
      have s1 := cell_old HGR2.out p1
      have s2 := cell_old HGR2.out p2
      have s3 := cell_old HGR2.out p3
      have s4 := cell_old HGR2.out p4
      have s5 := cell_old HGR2.out p5
      have s6 := cell_old HGR2.out p6
      have s7 := cell_old HGR2.out p7
      have s8 := cell_old HGR2.out p8
      have s9 := cell_old HGR2.out p9
      have s10 := cell_old HGR2.out p10
      go_wp2_with fail

      have hpl : (cutL told lo (lo + f.N)).length = f.N := by rw [cutL_length _ _ _ (by omega) (by rw [HT.out.len]; omega)]; omega
      have HP0 : Hid (Rd eB W' (Option.map (fun x => x.add lo) At) f.N (cutL told lo (lo + f.N))) := Lib.hid (by
        have := (HT.out.below HGW.out).sub lo (lo + f.N) (by omega) (by omega)
        rw [show lo + f.N - lo = f.N by omega] at this
        exact this)
      refine (HAT.out _ f.N (ct - lo) _ 3 0 i W' (by omega) (by omega) (by omega) HGW.out HP0.out (by rw [hpl]; omega)).mono ?_
      rintro e w5 ⟨A5, n5, c5, rfl, h5, g5⟩
      have hcl : fClimb f.N seed tree q (cutL told lo (lo + ea)) i 0 = tweakL f.N seed ⟨0, tree, 3, q, 0, i⟩ (cutL told lo (lo + f.N)) := by
        unfold fClimb
        rw [cut_cut _ _ _ _ _ hNea]
        rfl
      rw [← hcl] at h5
      obtain rfl : f.N = n5 := by rw [← h5.len]; exact (fClimb_length _ _ _ _ _ _ _ (by omega)).symm
      have H5 := Lib.hid h5.rd
      have HO5 := Lib.hid (HO.out.below g5)
      have HG5 : Hid (Grow w2 w5) := Lib.hid (HGR2.out.trans _ _ _ g5)
      clear h5 g5 hcl hpl HP0
      have t0 := cell_old HG5.out p0
      have t1 := cell_old HG5.out p1
      have t2 := cell_old HG5.out p2
      have t3 := cell_old HG5.out p3
      have t4 := cell_old HG5.out p4
      have t5 := cell_old HG5.out p5
      have t6 := cell_old HG5.out p6
      have t7 := cell_old HG5.out p7
      have t8 := cell_old HG5.out p8
      have t9 := cell_old HG5.out p9
      have t10 := cell_old HG5.out p10
      clear s0 s1 s2 s3 s4 s5 s6 s7 s8 s9 s10
      go_wp2
      clear HGR2 HGW HO
      go_loopw [16, 18, 19, 20] (fun a x v t wr => ∃ (g : Nat) (Ax : Option Addr) (cx : Nat), g ≤ f.A ∧ t = .int .i64 ((g : Int) + 1) ∧ a = .int .i64 ((lo + (g + 1) * f.N : Nat) : Int) ∧ x = .int .u32 ((i / 2 ^ g : Nat) : Int) ∧ v = .slice Ax f.N cx ∧ Rd eB wr Ax f.N (fClimb f.N seed tree q (cutL told lo (lo + ea)) i g) ∧ Grow w5 wr) (fun _ _ _ t _ => f.A + 1 - (intOf t).toNat)
      case atStart => exact ⟨0, A5, c5, Nat.zero_le _, by simp, by simp, by simp, rfl, H5.out, Grow.refl _⟩
      case round =>
        obtain ⟨g, Ax, cx, hg, rfl, rfl, rfl, rfl, hx, hgr⟩ := hrel
        obtain ⟨gn, hgn⟩ : ∃ x, (g + 1) * f.N = x := ⟨_, rfl⟩
        have hgN : gn ≤ ea := by rw [← hgn, ← HEA.out]; exact Nat.mul_le_mul_right _ (by omega)
        obtain ⟨y, hy⟩ : ∃ x, i / 2 ^ g = x := ⟨_, rfl⟩
        have hyl : y < 655360 := by rw [← hy]; exact Nat.lt_of_le_of_lt (Nat.div_le_self _ _) hix2
        rw [hgn, hy]
        obtain ⟨lo2, hlo2⟩ : ∃ x, lo + gn = x := ⟨_, rfl⟩
        rw [hlo2]
        have hlol : lo2 ≤ 20000 := by omega
        have HGN := Lib.hid hgn
        have HLO2 := Lib.hid hlo2
        have hy2 : y / 2 = i / 2 ^ (g + 1) := by rw [← hy, two_div]
        have HY2 := Lib.hid hy2
        have HGR := Lib.hid hgr
        have HGW : Hid (Grow w wr) := Lib.hid ((HG2.out.trans _ _ _ HG5.out).trans _ _ _ hgr)
        have HX' := Lib.hid hx
        have r0 := cell_old hgr t0
        have r1 := cell_old hgr t1
        have r2 := cell_old hgr t2
        have r3 := cell_old hgr t3
        have r4 := cell_old hgr t4
        have r5 := cell_old hgr t5
        have r6 := cell_old hgr t6
        have r7 := cell_old hgr t7
        have r8 := cell_old hgr t8
        have r9 := cell_old hgr t9
        have r10 := cell_old hgr t10
        by_cases hlt2 : g < f.A
        · have hgn2 : gn + f.N ≤ ea := by rw [← hgn, ← HEA.out, ← Nat.succ_mul]; exact Nat.mul_le_mul_right _ (by omega)
          have hlo4 : lo2 + f.N ≤ nt := by omega
          have hcurl : (fClimb f.N seed tree q (cutL told lo (lo + ea)) i g).length = f.N := fClimb_length _ _ _ _ _ _ _ (by omega)
          have hpl : (cutL told lo2 (lo2 + f.N)).length = f.N := by rw [cutL_length _ _ _ (by omega) (by rw [HT.out.len]; omega)]; omega
          have hpr : Rd eB wr (Option.map (fun x => x.add lo2) At) f.N (cutL told lo2 (lo2 + f.N)) := by
            have := (HT.out.below HGW.out).sub lo2 (lo2 + f.N) (by omega) (by omega)
            rw [show lo2 + f.N - lo2 = f.N by omega] at this
            exact this
          have hif : ∀ t, (if y % 2 = 1 then cutL told lo2 (lo2 + f.N) ++ fClimb f.N seed tree q (cutL told lo (lo + ea)) i g else fClimb f.N seed tree q (cutL told lo (lo + ea)) i g ++ cutL told lo2 (lo2 + f.N)) = t → fClimb f.N seed tree q (cutL told lo (lo + ea)) i (g + 1) = tweakL f.N seed ⟨0, tree, 3, q, g + 1, y / 2⟩ t := by
            intro t ht
            rw [← ht, hy2]
            have hp1 : cutL (cutL told lo (lo + ea)) ((g + 1) * f.N) ((g + 2) * f.N) = cutL told lo2 (lo2 + f.N) := by
              rw [show (g + 2) * f.N = gn + f.N by rw [← hgn, ← Nat.succ_mul], hgn, cut_cut _ _ _ _ _ hgn2, ← Nat.add_assoc, hlo2]
            conv => lhs; unfold fClimb
            rw [hp1, hy]
            rfl
          have HIF := Lib.hid hif
          have HY := Lib.hid hpr
          have HX := Lib.hid hx
          obtain ⟨cur, hcur⟩ : ∃ x, fClimb f.N seed tree q (cutL told lo (lo + ea)) i g = x := ⟨_, rfl⟩
          obtain ⟨part, hpart⟩ : ∃ x, cutL told lo2 (lo2 + f.N) = x := ⟨_, rfl⟩
          rw [hcur] at HX HIF
          rw [hpart] at HY HIF
          clear hif hpr hcurl hpl hcur hpart hgr hx hgn hy hlo2 hy2 HX'
          by_cases hod : y % 2 = 1
          · have hif := HIF.out (part ++ cur)
            rw [if_pos hod] at hif
            have HIFX := Lib.hid (hif rfl)
            clear hif
            go_wp2_with (at_builtin; first | (refine wpList_append_sl rfl _ _ 24 5 (.int .u8 0) 1 rfl Tryz.underlying24 infoB rfl (fun _ => rfl) rfl rfl (EmptyV.own (Nat.le_refl _) (lt_alloc _ _)) (HX.out.alloc _) (by omega) (by omega) (Nat.le_of_lt (lt_alloc _ _)) ?_; intro A21 c21 w21 h1 h2 h3; have X1 : Hid (Own eB wr.heap.size w21 A21 f.N c21 cur) := Lib.hid (by simpa using h1); have G1 : Hid (Grow wr w21) := Lib.hid (((Below.refl _ _).alloc (Nat.le_refl _) _).trans h3); have Y1 := Lib.hid (HY.out.below G1.out); have hs21 := G1.out.size; clear h1 h2 h3) | (refine wpList_append_sl rfl _ _ 24 5 (.int .u8 0) 1 rfl Tryz.underlying24 infoB rfl (fun _ => rfl) rfl rfl X1.out Y1.out (by omega) (by omega) hs21 ?_; intro A22 c22 w22 h1 h2 h3; have X2 : Hid (Own eB wr.heap.size w22 A22 (f.N + f.N) c22 (cur ++ part)) := Lib.hid h1; have G2 : Hid (Grow wr w22) := Lib.hid (Below.trans G1.out h3); have Y2 := Lib.hid (HY.out.below G2.out); have Z2 := Lib.hid (HX.out.below G2.out); have HGW2 : Hid (Grow w w22) := Lib.hid (HGW.out.trans _ _ _ G2.out); have hsz2 := G2.out.size; have z0 := cell_old G2.out r0; have z1 := cell_old G2.out r1; have z2 := cell_old G2.out r2; have z3 := cell_old G2.out r3; have z4 := cell_old G2.out r4; have z5 := cell_old G2.out r5; have z6 := cell_old G2.out r6; have z7 := cell_old G2.out r7; have z8 := cell_old G2.out r8; have z9 := cell_old G2.out r9; have z10 := cell_old G2.out r10; clear h1 h2 h3) | (refine wpList_append_sl rfl _ _ 24 5 (.int .u8 0) 1 rfl Tryz.underlying24 infoB rfl (fun _ => rfl) rfl rfl (EmptyV.own (Nat.le_refl _) (lt_alloc _ _)) (Y2.out.alloc _) (by omega) (by omega) (Nat.le_of_lt (lt_alloc _ _)) ?_; intro A23 c23 w23 h1 h2 h3; have X3 : Hid (Own eB w22.heap.size w23 A23 f.N c23 part) := Lib.hid (by simpa using h1); have G3 : Hid (Grow w22 w23) := Lib.hid (((Below.refl _ _).alloc (Nat.le_refl _) _).trans h3); have Z3 := Lib.hid (Z2.out.below G3.out); have hs23 := G3.out.size; clear h1 h2 h3) | (refine wpList_append_sl rfl _ _ 24 5 (.int .u8 0) 1 rfl Tryz.underlying24 infoB rfl (fun _ => rfl) rfl rfl X3.out Z3.out (by omega) (by omega) hs23 ?_; intro A24 c24 w24 h1 h2 h3; have X4 : Hid (Own eB w22.heap.size w24 A24 (f.N + f.N) c24 (part ++ cur)) := Lib.hid h1; have G4 : Hid (Grow w22 w24) := Lib.hid (Below.trans G3.out h3); have G5 : Hid (Grow wr w24) := Lib.hid (G2.out.trans _ _ _ G4.out); have HGW4 : Hid (Grow w w24) := Lib.hid (HGW.out.trans _ _ _ G5.out); have y0 := cell_old G5.out r0; have y1 := cell_old G5.out r1; have y2 := cell_old G5.out r2; have y3 := cell_old G5.out r3; have y4 := cell_old G5.out r4; have y5 := cell_old G5.out r5; have y6 := cell_old G5.out r6; have y7 := cell_old G5.out r7; have y8 := cell_old G5.out r8; have y9 := cell_old G5.out r9; have y10 := cell_old G5.out r10; clear h1 h2 h3))
            have HC := Lib.hid (HAT.out A24 (f.N + f.N) c24 (part ++ cur) 3 (g + 1) (y / 2) w24 (by omega) (by omega) (by omega) HGW4.out X4.out.rd (by rw [X4.out.len]; omega))
            rw [show ((g + 1 : Nat) : Int) = (g : Int) + 1 by omega, show ((y / 2 : Nat) : Int) = (y : Int) / 2 by omega, ← HIFX.out] at HC
            refine HC.out.mono ?_
            rintro e w9 ⟨A9, n9, c9, rfl, h5, g5⟩
            obtain rfl : f.N = n9 := by rw [← h5.len]; exact (fClimb_length _ _ _ _ _ _ _ (by omega)).symm
            have H9 := Lib.hid h5.rd
            have HG9 : Hid (Grow w5 w9) := Lib.hid ((HGR.out.trans _ _ _ G5.out).trans _ _ _ g5)
            clear h5 g5 HC
            go_wp2
            go_roundw
            case rel => exact ⟨g + 1, A9, c9, by omega, by go_num, by rw [Nat.succ_mul (g + 1), HGN.out, ← Nat.add_assoc, HLO2.out]; go_num, by rw [← HY2.out]; go_num, rfl, H9.out, HG9.out⟩
            case measure => simp [intOf]; omega
          · have hif := HIF.out (cur ++ part)
            rw [if_neg hod] at hif
            have HIFX := Lib.hid (hif rfl)
            clear hif
            go_wp2_with (at_builtin; first | (refine wpList_append_sl rfl _ _ 24 5 (.int .u8 0) 1 rfl Tryz.underlying24 infoB rfl (fun _ => rfl) rfl rfl (EmptyV.own (Nat.le_refl _) (lt_alloc _ _)) (HX.out.alloc _) (by omega) (by omega) (Nat.le_of_lt (lt_alloc _ _)) ?_; intro A21 c21 w21 h1 h2 h3; have X1 : Hid (Own eB wr.heap.size w21 A21 f.N c21 cur) := Lib.hid (by simpa using h1); have G1 : Hid (Grow wr w21) := Lib.hid (((Below.refl _ _).alloc (Nat.le_refl _) _).trans h3); have Y1 := Lib.hid (HY.out.below G1.out); have hs21 := G1.out.size; clear h1 h2 h3) | (refine wpList_append_sl rfl _ _ 24 5 (.int .u8 0) 1 rfl Tryz.underlying24 infoB rfl (fun _ => rfl) rfl rfl X1.out Y1.out (by omega) (by omega) hs21 ?_; intro A22 c22 w22 h1 h2 h3; have X2 : Hid (Own eB wr.heap.size w22 A22 (f.N + f.N) c22 (cur ++ part)) := Lib.hid h1; have G2 : Hid (Grow wr w22) := Lib.hid (Below.trans G1.out h3); have Y2 := Lib.hid (HY.out.below G2.out); have Z2 := Lib.hid (HX.out.below G2.out); have HGW2 : Hid (Grow w w22) := Lib.hid (HGW.out.trans _ _ _ G2.out); have hsz2 := G2.out.size; have z0 := cell_old G2.out r0; have z1 := cell_old G2.out r1; have z2 := cell_old G2.out r2; have z3 := cell_old G2.out r3; have z4 := cell_old G2.out r4; have z5 := cell_old G2.out r5; have z6 := cell_old G2.out r6; have z7 := cell_old G2.out r7; have z8 := cell_old G2.out r8; have z9 := cell_old G2.out r9; have z10 := cell_old G2.out r10; clear h1 h2 h3))
            have HC := Lib.hid (HAT.out A22 (f.N + f.N) c22 (cur ++ part) 3 (g + 1) (y / 2) w22 (by omega) (by omega) (by omega) HGW2.out X2.out.rd (by rw [X2.out.len]; omega))
            rw [show ((g + 1 : Nat) : Int) = (g : Int) + 1 by omega, show ((y / 2 : Nat) : Int) = (y : Int) / 2 by omega, ← HIFX.out] at HC
            refine HC.out.mono ?_
            rintro e w9 ⟨A9, n9, c9, rfl, h5, g5⟩
            obtain rfl : f.N = n9 := by rw [← h5.len]; exact (fClimb_length _ _ _ _ _ _ _ (by omega)).symm
            have H9 := Lib.hid h5.rd
            have HG9 : Hid (Grow w5 w9) := Lib.hid ((HGR.out.trans _ _ _ G2.out).trans _ _ _ g5)
            clear h5 g5 HC
            go_wp2
            go_roundw
            case rel => exact ⟨g + 1, A9, c9, by omega, by go_num, by rw [Nat.succ_mul (g + 1), HGN.out, ← Nat.add_assoc, HLO2.out]; go_num, by rw [← HY2.out]; go_num, rfl, H9.out, HG9.out⟩
            case measure => simp [intOf]; omega
        · have hgA : g = f.A := by omega
          have hlen : lo + gn = (k + 1) * ea := by rw [Nat.succ_mul, HLO.out, ← HEA.out, ← hgn, hgA]
          have hend : lo2 = (k + 1) * ea := by rw [← hlen, hlo2]
          have htx : ((List.range k).flatMap fun k => fClimb f.N seed tree q (cutL told (k * fEach f) ((k + 1) * fEach f)) (fIndex f b k) f.A) ++ fClimb f.N seed tree q (cutL told lo (lo + ea)) i g = (List.range (k + 1)).flatMap fun k => fClimb f.N seed tree q (cutL told (k * fEach f) ((k + 1) * fEach f)) (fIndex f b k) f.A := by
            rw [range_flat, HI.out, HFE.out, HLO.out, Nat.succ_mul, HLO.out, hgA]
          have HEND := Lib.hid hend
          have HTX := Lib.hid htx
          have HO2 := Lib.hid (HO5.out.below hgr)
          have HG9 : Hid (Grow w2 wr) := Lib.hid (HG5.out.trans _ _ _ hgr)
          have hs2 := HG9.out.size
          clear hlen hend htx hgr hx hgn hy hlo2 hy2 hgA
          go_wp2_with (at_builtin; refine wpList_append_sl rfl _ _ 24 5 (.int .u8 0) 1 rfl Tryz.underlying24 infoB rfl (fun _ => rfl) rfl rfl HO2.out HX'.out (by omega) (by omega) hs2 ?_; intro A4 c4 w4 h1 h2 h3; have H4 := Lib.hid h1; have H6 : Hid (Grow w2 w4) := Lib.hid (Below.trans HG9.out h3); clear h1 h2 h3)
          go_roundw
          case rel => exact ⟨k + 1, A4, c4, by omega, by go_num, by rw [HEND.out], by rw [Nat.succ_mul, HKN.out], by rw [Nat.succ_mul, HKN.out, ← HTX.out]; exact H4.out, H6.out⟩
          case measure => simp [intOf]; omega
    · obtain rfl : k = f.K := by omega
      have HGW : Hid (Grow w wr) := Lib.hid (HG2.out.trans _ _ _ hgr)
      have hln : kn ≤ 65536 := by omega
      have HC := Lib.hid (HAT.out A kn c _ 4 0 0 wr (by omega) (by omega) (by omega) HGW.out HO'.out.rd (by rw [HO'.out.len]; omega))
      have r0 := cell_old hgr p0
      have r1 := cell_old hgr p1
      have r2 := cell_old hgr p2
      have r3 := cell_old hgr p3
      have r4 := cell_old hgr p4
      have r5 := cell_old hgr p5
      have r6 := cell_old hgr p6
      have r7 := cell_old hgr p7
      have r8 := cell_old hgr p8
      have r9 := cell_old hgr p9
      have r10 := cell_old hgr p10
      have HRES : Hid (fStands f seed tree q b told = tweakL f.N seed ⟨0, tree, 4, q, 0, 0⟩ ((List.range f.K).flatMap fun k => fClimb f.N seed tree q (cutL told (k * fEach f) ((k + 1) * fEach f)) (fIndex f b k) f.A)) := Lib.hid rfl
      clear hgr
      go_wp2_with fail
      refine HC.out.mono ?_
      rintro e w5 ⟨A5, n5, c5, rfl, h5, h6⟩
      have H5 := Lib.hid (h5.mono HGW.out.size)
      have H6 := Lib.hid (Below.trans HGW.out (h6.mono HGW.out.size))
      clear h5 h6 HC
      go_wp2
      go_ret
      exact ⟨_, _, _, rfl, by rw [HRES.out]; exact H5.out, H6.out⟩
end Go.Proofs.Sl

/- The document's SLH: where a digest leads. -/
namespace Go.Proofs.Sl
open Go.RowKit Go.Proofs

set_option maxHeartbeats 2000000 in
theorem rwhere_any (f : Few) (hf : FewOk f) (A : Option Addr) (n c : Nat) (l : List UInt8) (w : World) (hr : Rd eB w A n l) (hc : n ≤ c) :
    Calls Tryz.prog 20 #[vFew f, .slice A n c] w (RetV w (whereV f n l)) := by
  have HM := Lib.hid (fun w => mayI_ok' hf ▸ rmay_any f.N f.L f.H f.K f.A w)
  have HP := Lib.hid (fun w => rparts_any f hf w)
  have HR := Lib.hid hr
  have hlen := hr.len
  have hH := hf.H2
  have hA := pA_le hf
  have hB8 := pB_le hf
  have hC2 := pC_le hf
  have hC1 := pC_pos hf
  have hL1 := hf.L1
  have hL2 := hf.L2
  obtain ⟨ab, hab⟩ : ∃ x, (f.L - 1) * f.H = x := ⟨_, rfl⟩
  have hab1 : ((f.L : Int) - 1) * (f.H : Int) = (ab : Int) := by rw [← hab, Int.natCast_mul]; congr 1; omega
  have hab2 : ab ≤ 63 := by rw [← hab]; exact hf.LH
  have HP1 := Lib.hid (fun W => rpow_any ab W hab2)
  have HP2 := Lib.hid (fun W => rpow_any f.H W (by omega))
  have hq1 : 1 ≤ 2 ^ ab := Nat.one_le_two_pow
  have hq2 : 1 ≤ 2 ^ f.H := Nat.one_le_two_pow
  have hq3 : 2 ^ f.H ≤ 512 := pow512_le hH
  have HV0 : Hid (n = pA f + pB f + pC f → whereV f n l = .tuple #[.int .u64 ((getBE (cutL l (pA f) (pA f + pB f)) % 2 ^ ab : Nat) : Int), .int .u32 ((getBE (cutL l (pA f + pB f) (pA f + pB f + pC f)) % 2 ^ f.H : Nat) : Int), .bool true]) := Lib.hid (fun h => by rw [← hab]; exact if_pos h)
  have HV1 : Hid (n ≠ pA f + pB f + pC f → whereV f n l = .tuple #[.int .u64 0, .int .u32 0, .bool false]) := Lib.hid (fun h => if_neg h)
  generalize 2 ^ ab = p1 at *
  generalize 2 ^ f.H = p2 at *
  generalize pA f = a at *
  generalize pB f = b at *
  generalize pC f = d at *
  clear hr hf hab
  unfold vFewI at HM
  unfold vFew at HP ⊢
  go_enter Tryz.func20, Tryz.ntmps20
  go_wp2_with fail
  refine (HM.out _).mono ?_
  rintro e W0 ⟨rfl, hB⟩
  have hB' := cell_box f (by simpa using hB)
  clear hB HM
  obtain ⟨k0, k1, k2, k3, k4, g0⟩ := hB'
  go_wp2_with fail
  refine (HP.out W0).mono ?_
  rintro e w1 ⟨rfl, hB⟩
  replace k0 := cell_old hB k0; replace k1 := cell_old hB k1; replace k2 := cell_old hB k2; replace k3 := cell_old hB k3; replace k4 := cell_old hB k4
  have g1 : Below w.heap.size w w1 := g0.trans (hB.mono g0.size)
  have hs0 : w.heap.size < w1.heap.size := World.block_lt_of_cell? w1 _ k0
  have hs3 : (w1.heap.size == w.heap.size) = false := by simp; omega
  clear hB g0 HP
  by_cases hn : n = a + b + d
  · have HV := Lib.hid (HV0.out hn)
    have g2 : Below w.heap.size w (w1.alloc (.cells #[.int .i64 (a : Int), .int .i64 (b : Int), .int .i64 (d : Int)] 61)) := g1.alloc g1.size _
    have hR1 := (HR.out.below g2).sub a (a + b) (by omega) (by omega)
    have hR2 := (HR.out.below g2).sub (a + b) (a + b + d) (by omega) (by omega)
    rw [show a + b - a = b by omega] at hR1
    rw [show a + b + d - (a + b) = d by omega] at hR2
    have HR1 := Lib.hid hR1
    have HR2 := Lib.hid hR2
    have HG0 := Lib.hid g2
    have HV9 : Hid (n = a + b + d) := Lib.hid hn
    clear hR1 hR2 g2
    subst hn
    have hn1 : (((a + b + d : Nat) : Int) != (a : Int) + (b : Int) + (d : Int)) = false := by simp
    have hca : ¬ c = a := by omega
    go_wp2_with fail
    refine (rget_any _ b _ _ _ HR1.out (by omega)).mono ?_
    rintro e w2 ⟨rfl, rfl⟩
    obtain ⟨x1, hx1⟩ : ∃ x, getBE ((l.take (a + b)).drop a) = x := ⟨_, rfl⟩
    rw [hx1]
    have HX1 := Lib.hid hx1
    clear hx1
    go_wp2_with fail
    refine (rget_any _ d _ _ _ HR2.out (by omega)).mono ?_
    rintro e w2 ⟨rfl, rfl⟩
    obtain ⟨x2, hx2⟩ : ∃ x, getBE ((l.take (a + b + d)).drop (a + b)) = x := ⟨_, rfl⟩
    rw [hx2]
    have HX2 := Lib.hid hx2
    clear hx2
    go_wp2_with fail
    obtain ⟨y1, hy1⟩ : ∃ x, x1 % p1 = x := ⟨_, rfl⟩
    obtain ⟨y2, hy2⟩ : ∃ x, x2 % p2 = x := ⟨_, rfl⟩
    have hy2l : y2 < 512 := by rw [← hy2]; exact Nat.lt_of_lt_of_le (Nat.mod_lt _ hq2) hq3
    have hz1 : (x1 : Int) % (p1 : Int) = (y1 : Int) := by rw [← hy1, Int.natCast_emod]
    have hz2 : (x2 : Int) % (p2 : Int) = (y2 : Int) := by rw [← hy2, Int.natCast_emod]
    have HY := Lib.hid (And.intro hy1 hy2)
    clear hy1 hy2
    have hga : Grow w1 (w1.alloc (.cells #[.int .i64 (a : Int), .int .i64 (b : Int), .int .i64 (d : Int)] 61)) := (Below.refl _ _).alloc (Nat.le_refl _) _
    replace k0 := cell_old hga k1
    replace k1 := cell_old hga k2
    clear k2 k3 k4 hga HR1 HR2
    generalize hWA : World.alloc w1 _ = wa at *
    have HG := Lib.hid HG0.out
    clear hWA HG0
    refine wp_region_rg Grow 67 18 18 [[], [], [], [], [], [], [], [], [], [], [], [], [], [], [], [], [], []]
      [.still [] (.int .u64 (x1 : Int)), .still [] (.pointer (some ⟨w.heap.size, 1, none⟩)), .still [] (.int .i64 (f.L : Int)), .still [] (.int .i64 ((f.L : Int) - 1)), .still [] (.pointer (some ⟨w.heap.size, 2, none⟩)), .still [] (.int .i64 (f.H : Int)), .still [] (.int .i64 (ab : Int)), .still [] (.int .u64 (p1 : Int)), .still [] (.int .u64 (y1 : Int)), .still [] (.int .u64 (x2 : Int)), .still [] (.pointer (some ⟨w.heap.size, 2, none⟩)), .still [] (.int .i64 (f.H : Int)), .still [] (.int .u64 (p2 : Int)), .still [] (.int .u64 (y2 : Int)), .still [] (.int .u32 (y2 : Int)), .still [] (.int .u64 (y1 : Int)), .still [] (.int .u32 (y2 : Int)), .still [] (.bool true)] (by kernel_rfl) (by kernel_rfl) rfl rfl rfl Grow.trans (Grow.refl _) ?_
    iterate 7
      refine Obl.still (fun W hg _ => ?_) ?_
      · have c0 := cell_old hg k0; have c1 := cell_old hg k1; clear hg k0 k1
        go_wp2
        exact ⟨rfl, rfl, rfl, Grow.refl _⟩
      simp only [Act.put, List.setIfInBounds_toArray, List.set_cons_zero, List.set_cons_succ]
    refine Obl.still (fun W hg _ => ?_) ?_
    · have c0 := hg
      clear c0
      clear hg k0 k1
      go_wp2_with fail
      refine (HP1.out W).mono ?_
      rintro e w' ⟨rfl, rfl⟩
      go_wp2
      exact ⟨rfl, rfl, rfl, Grow.refl _⟩
    simp only [Act.put, List.setIfInBounds_toArray, List.set_cons_zero, List.set_cons_succ]
    iterate 4
      refine Obl.still (fun W hg _ => ?_) ?_
      · have c0 := cell_old hg k0; have c1 := cell_old hg k1; clear hg k0 k1
        go_wp2
        exact ⟨rfl, rfl, rfl, Grow.refl _⟩
      simp only [Act.put, List.setIfInBounds_toArray, List.set_cons_zero, List.set_cons_succ]
    refine Obl.still (fun W hg _ => ?_) ?_
    · have c0 := hg
      clear c0
      clear hg k0 k1
      go_wp2_with fail
      refine (HP2.out W).mono ?_
      rintro e w' ⟨rfl, rfl⟩
      go_wp2
      exact ⟨rfl, rfl, rfl, Grow.refl _⟩
    simp only [Act.put, List.setIfInBounds_toArray, List.set_cons_zero, List.set_cons_succ]
    iterate 5
      refine Obl.still (fun W hg _ => ?_) ?_
      · have c0 := cell_old hg k0; have c1 := cell_old hg k1; clear hg k0 k1
        go_wp2
        exact ⟨rfl, rfl, rfl, Grow.refl _⟩
      simp only [Act.put, List.setIfInBounds_toArray, List.set_cons_zero, List.set_cons_succ]
    refine Obl.done (fun W hg hall => ?_)
    have HB := Lib.hid (HG.out.trans (((Below.refl _ _).drew.trans hg).mono HG.out.size))
    clear hg k0 k1
    go_wp2
    refine bodyPost_ret (v := .tuple #[_, _, _]) (by simp [results, Tryz.f20, go_sem]; exact ⟨rfl, rfl, rfl⟩) rfl ⟨?_, HB.out⟩
    rw [HV.out]
    have h1 : getBE (cutL l a (a + b)) % p1 = y1 := by rw [← HY.out.1, ← HX1.out]; rfl
    have h2 : getBE (cutL l (a + b) (a + b + d)) % p2 = y2 := by rw [← HY.out.2, ← HX2.out]; rfl
    rw [h1, h2]

  · have HV := Lib.hid (HV1.out hn)
    have HG := Lib.hid (g1.alloc g1.size (.cells #[.int .i64 (a : Int), .int .i64 (b : Int), .int .i64 (d : Int)] 61))
    have hn1 : ((n : Int) != (a : Int) + (b : Int) + (d : Int)) = true := by simp; omega
    go_wp2_with fail
    refine bodyPost_ret (v := .tuple #[_, _, _]) (by simp [results, Tryz.f20, go_sem]; exact ⟨rfl, rfl, rfl⟩) rfl ⟨?_, HG.out⟩
    rw [HV.out]
end Go.Proofs.Sl

/- The document's SLH: the digest. -/
namespace Go.Proofs.Sl
open Go.RowKit Go.Proofs

set_option maxHeartbeats 2000000 in
theorem rdigest_any (f : Few) (hf : FewOk f) (A1 A2 A3 : Option Addr) (n1 n2 n3 c1 c2 c3 : Nat) (salt pub text : List UInt8) (w : World) (h1 : Rd eB w A1 n1 salt) (h2 : Rd eB w A2 n2 pub) (h3 : Rd eB w A3 n3 text) (hl : (salt ++ pub ++ text).length ≤ 70000) :
    Calls Tryz.prog 35 #[vFew f, .slice A1 n1 c1, .slice A2 n2 c2, .slice A3 n3 c3] w (RetOwn eB w (digestL f salt pub text)) := by
  have HP := Lib.hid (fun w => rparts_any f hf w)
  have HH := Lib.hid (And.intro h1 (And.intro h2 h3))
  have HZ := Lib.hid hl
  have HFL : Hid ([salt, pub, text].flatten = salt ++ pub ++ text) := Lib.hid (by simp)
  have hA := pA_le hf
  have hB8 := pB_le hf
  have hC2 := pC_le hf
  have hC1 := pC_pos hf
  have HRES : Hid (digestL f salt pub text = shakeL (salt ++ pub ++ text) (pA f + pB f + pC f)) := Lib.hid rfl
  generalize pA f = a at *
  generalize pB f = b at *
  generalize pC f = d at *
  clear h1 h2 h3 hl hf
  unfold vFew at HP ⊢
  go_enter Tryz.func35, Tryz.ntmps35
  go_wp2_with fail
  refine (HP.out _).mono ?_
  rintro e w1 ⟨rfl, hB⟩
  have g1 : Below w.heap.size w w1 := ((Below.refl _ w).alloc (Nat.le_refl _) _).trans (hB.mono (by simp))
  clear hB HP
  go_wp2_with fail
  have HG := Lib.hid (g1.alloc g1.size (.cells #[.int .i64 (a : Int), .int .i64 (b : Int), .int .i64 (d : Int)] 61))
  have q0 : (w1.alloc (.cells #[.int .i64 (a : Int), .int .i64 (b : Int), .int .i64 (d : Int)] 61)).cell? ⟨w1.heap.size, 0, none⟩ = some (.int .i64 (a : Int)) := cell_new ..
  have q1 : (w1.alloc (.cells #[.int .i64 (a : Int), .int .i64 (b : Int), .int .i64 (d : Int)] 61)).cell? ⟨w1.heap.size, 1, none⟩ = some (.int .i64 (b : Int)) := cell_new ..
  have q2 : (w1.alloc (.cells #[.int .i64 (a : Int), .int .i64 (b : Int), .int .i64 (d : Int)] 61)).cell? ⟨w1.heap.size, 2, none⟩ = some (.int .i64 (d : Int)) := cell_new ..
  generalize hWA : World.alloc w1 _ = wa at *
  have k0 : wa.drew.cell? ⟨w1.heap.size, 0, none⟩ = some (.int .i64 (a : Int)) := q0
  have k1 : wa.drew.cell? ⟨w1.heap.size, 1, none⟩ = some (.int .i64 (b : Int)) := q1
  have k2 : wa.drew.cell? ⟨w1.heap.size, 2, none⟩ = some (.int .i64 (d : Int)) := q2
  clear hWA g1 q0 q1 q2
  refine wp_region_rg Grow 26 14 14 [[], [], [], [], [3], [], [], [], [], [], [], [], [], [4]]
    [.still [] (.slice A1 n1 c1), .still [] (.slice A2 n2 c2), .still [] (.slice A3 n3 c3), .grow [] (PartsV [salt, pub, text]), .grow [3] (OwnV eB 0 (salt ++ pub ++ text)), .still [] (.pointer (some ⟨w1.heap.size, 0, none⟩)), .still [] (.int .i64 (a : Int)), .still [] (.pointer (some ⟨w1.heap.size, 1, none⟩)), .still [] (.int .i64 (b : Int)), .still [] (.int .i64 ((a : Int) + (b : Int))), .still [] (.pointer (some ⟨w1.heap.size, 2, none⟩)), .still [] (.int .i64 (d : Int)), .still [] (.int .i64 ((a : Int) + (b : Int) + (d : Int))), .grow [4] (OwnV eB w.heap.size (shakeL (salt ++ pub ++ text) (a + b + d)))] (by kernel_rfl) (by kernel_rfl) rfl rfl rfl Grow.trans (Grow.refl _) ?_
  iterate 3
    refine Obl.still (fun W hg _ => ?_) ?_
    · have c0 := cell_old hg k0; have c1 := cell_old hg k1; have c2 := cell_old hg k2; clear hg k0 k1 k2
      go_wp2
      exact ⟨rfl, rfl, rfl, Grow.refl _⟩
    simp only [Act.put, List.setIfInBounds_toArray, List.set_cons_zero, List.set_cons_succ]
  refine Obl.grow (PartsV.keep _) (fun W hg _ => ?_) (fun v3 => ?_)
  · have hbW : Below w.heap.size w W := HG.out.trans (((Below.refl _ _).drew.trans hg).mono HG.out.size)
    have h1 := HH.out.1.below hbW
    have h2 := HH.out.2.1.below hbW
    have h3 := HH.out.2.2.below hbW
    clear hbW
    clear hg k0 k1 k2
    go_wp2
    exact ⟨rfl, rfl, ⟨_, _, rfl, parts3 (cell_new ..) (cell_new ..) (cell_new ..) (h1.alloc _) (h2.alloc _) (h3.alloc _)⟩, (Below.refl _ _).alloc (Nat.le_refl _) _⟩
  simp only [Act.put, List.setIfInBounds_toArray, List.set_cons_zero, List.set_cons_succ]
  refine Obl.grow (OwnV.keep _ _ _) (fun W hg ⟨h3, _⟩ => ?_) (fun v4 => ?_)
  · obtain ⟨bh3, nh3, rfl, h3⟩ := h3
    have HC := Lib.hid (rcat_any (some ⟨bh3, 0, none⟩) nh3 nh3 _ W h3 (by rw [HFL.out]; have := HZ.out; omega))
    rw [HFL.out] at HC
    clear h3
    clear hg k0 k1 k2
    go_wp2_with fail
    refine (HC.out).mono ?_
    rintro e w' ⟨A1, n1, c1, rfl, h1, h2⟩
    go_wp2
    exact ⟨rfl, rfl, ⟨_, _, _, rfl, h1.mono (Nat.zero_le _)⟩, h2⟩
  simp only [Act.put, List.setIfInBounds_toArray, List.set_cons_zero, List.set_cons_succ]
  iterate 8
    refine Obl.still (fun W hg _ => ?_) ?_
    · have c0 := cell_old hg k0; have c1 := cell_old hg k1; have c2 := cell_old hg k2; clear hg k0 k1 k2
      go_wp2
      exact ⟨rfl, rfl, rfl, Grow.refl _⟩
    simp only [Act.put, List.setIfInBounds_toArray, List.set_cons_zero, List.set_cons_succ]
  refine Obl.grow (OwnV.keep _ _ _) (fun W hg ⟨h4, _⟩ => ?_) (fun v13 => ?_)
  · obtain ⟨Ah4, nh4, ch4, rfl, h4⟩ := h4
    have hbW : Below w.heap.size w W := HG.out.trans (((Below.refl _ _).drew.trans hg).mono HG.out.size)
    have HS := Lib.hid hbW.size
    have HC := Lib.hid (rshake_any Ah4 nh4 ch4 _ (a + b + d) W h4.rd (by have := HZ.out; omega) (by omega) (by omega))
    rw [show ((a + b + d : Nat) : Int) = (a : Int) + (b : Int) + (d : Int) by omega] at HC
    clear hbW h4
    clear hg k0 k1 k2
    go_wp2_with fail
    refine (HC.out).mono ?_
    rintro e w' ⟨A1, n1, c1, rfl, h1, h2⟩
    go_wp2
    exact ⟨rfl, rfl, ⟨_, _, _, rfl, h1.mono HS.out⟩, h2⟩
  simp only [Act.put, List.setIfInBounds_toArray, List.set_cons_zero, List.set_cons_succ]
  refine Obl.done (fun W hg hall => ?_)
  obtain ⟨hx, _⟩ := hall
  obtain ⟨Au, nu, cu, rfl, hx⟩ := hx
  have HX := Lib.hid hx
  have hbW : Below w.heap.size w W := HG.out.trans (((Below.refl _ _).drew.trans hg).mono HG.out.size)
  have HBW := Lib.hid hbW
  clear hbW
  clear hg k0 k1 k2 hx
  go_wp2
  go_ret
  exact ⟨_, _, _, rfl, by rw [HRES.out]; exact HX.out, HBW.out⟩

end Go.Proofs.Sl
