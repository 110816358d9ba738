/- The document's FORS: the whole of its trees. The document's FORS: what is told of bytes. -/
import Derived.Test.YtipedpkkabfdjaaGreatDoorFits26
import Derived.Test.YtipedpkkabfdjaaGreatDoorFits20
/- The document's FORS: the whole of its trees. -/
namespace Go.Proofs.Sl
open Go.RowKit Go.Proofs

theorem Ground.fg {f : Few} {m : Sec} {A1 A2 A3 : Option Addr} {n1 n2 n3 : Nat} {w : World} (h : Ground f m A1 A2 A3 n1 n2 n3 w) {tree q : Nat} (ht : W64 tree) (hq : q < 4294967296) : FG f m A1 A3 n1 n3 tree q w := ⟨h.ok.ok, h.ok.secret, h.ok.seed, ht, hq, h.r1, h.r3⟩

set_option maxHeartbeats 4000000 in
theorem rwhole_any (f : Few) (m : Sec) (A1 A2 A3 : Option Addr) (n1 n2 n3 c1 c2 c3 tree q : Nat) (w : World) (hM : Ground f m A1 A2 A3 n1 n2 n3 w) (ht : W64 tree) (hq : q < 4294967296) :
    Calls Tryz.prog 38 #[vFew f, vSec A1 A2 A3 n1 n2 n3 c1 c2 c3, .int .u64 (tree : Int), .int .u32 (q : Int)] w (RetOwn eB w (fWhole f m.seed m.secret tree q)) := by
  have HM := Lib.hid hM
  have HQ := Lib.hid (And.intro ht hq)
  have hK : f.K ≤ 40 := hM.ok.ok.K2
  have hA : f.A ≤ 6 := hM.ok.A
  have hN1 := hM.ok.ok.N.pos'
  have hN2 := hM.ok.ok.N.le'
  have hpw : ∀ i g, g ≤ 6 → i ≤ 5000 → (i + 1) * 2 ^ g ≤ 1048576 := fun i g hg hi => by
    have h1 : 2 ^ g ≤ 64 := Nat.le_trans (Nat.pow_le_pow_right (by omega) hg) (by decide)
    exact Nat.le_trans (Nat.mul_le_mul (show i + 1 ≤ 5001 by omega) h1) (by omega)
  have HSUM := Lib.hid (fun g i W (hg : g ≤ 6) (hi : i ≤ 5000) (hW : Below w.heap.size w W) => rfsum_any f m A1 A2 A3 n1 n2 n3 c1 c2 c3 tree q g i W ((HM.out.below hW).fg ht hq) (hpw i g hg hi) (by omega))
  have HAT := Lib.hid (fun (Ax : Option Addr) nx cx text kind i b W (hk : kind ≤ 1000) (hi : i ≤ 1000) (hb : b < 4294967296) (hW : Below w.heap.size w W) (hx : Rd eB W Ax nx text) (hxl : text.length ≤ 65536) => rat_any f HM.out.ok.ok A3 Ax n3 nx c3 cx m.seed text ⟨0, tree, 0, q, 0, 0⟩ kind i b W (HM.out.r3.below hW) HM.out.ok.seed (HM.out.fg ht hq).adok hk hi hb hx hxl)
  unfold vAd at HAT
  clear hpw
  have HRES : Hid (fWhole f m.seed m.secret tree q = tweakL f.N m.seed ⟨0, tree, 4, q, 0, 0⟩ ((List.range f.K).flatMap fun k => fNode f.N m.seed m.secret tree q f.A k)) := Lib.hid rfl
  have HFL := Lib.hid (fun k => flat_len (List.range k) (fun k => fNode f.N m.seed m.secret tree q f.A k) f.N (fun k => fNode_length f.N m.seed m.secret tree q f.A k (by omega)))
  clear hM ht hq
  have HMD := Lib.hid (rmade_any f.N f.L f.H f.K f.A A1 A2 A3 n1 n2 n3 c1 c2 c3 ((w.alloc (.cells #[.int .i64 (f.N : Int), .int .i64 (f.L : Int), .int .i64 (f.H : Int), .int .i64 (f.K : Int), .int .i64 (f.A : Int)] 23)).alloc (.cells #[.slice A1 n1 c1, .slice A2 n2 c2, .slice A3 n3 c3] 26)))
  rw [HM.out.made] at HMD
  unfold vFewI vSec at HMD
  unfold vFew vSec at *
  go_enter Tryz.func38, Tryz.ntmps38
  go_wp2_with fail
  refine HMD.out.mono ?_
  rintro e w1 ⟨rfl, hB⟩
  clear HMD
  have g1 : Grow w w1 := (((Below.refl _ w).alloc (Nat.le_refl _) _).alloc (by simp) _).trans (hB.mono (by simp; omega))
  have k0 : w1.cell? ⟨w.heap.size, 0, none⟩ = some (.int .i64 (f.N : Int)) := (hB.cell (by simp; omega)).trans (by go_simp)
  have k1 : w1.cell? ⟨w.heap.size, 1, none⟩ = some (.int .i64 (f.L : Int)) := (hB.cell (by simp; omega)).trans (by go_simp)
  have k2 : w1.cell? ⟨w.heap.size, 2, none⟩ = some (.int .i64 (f.H : Int)) := (hB.cell (by simp; omega)).trans (by go_simp)
  have k3 : w1.cell? ⟨w.heap.size, 3, none⟩ = some (.int .i64 (f.K : Int)) := (hB.cell (by simp; omega)).trans (by go_simp)
  have k4 : w1.cell? ⟨w.heap.size, 4, none⟩ = some (.int .i64 (f.A : Int)) := (hB.cell (by simp; omega)).trans (by go_simp)
  have k5 : w1.cell? ⟨w.heap.size + 1, 0, none⟩ = some (.slice A1 n1 c1) := (hB.cell (by simp)).trans (by go_simp)
  have k6 : w1.cell? ⟨w.heap.size + 1, 1, none⟩ = some (.slice A2 n2 c2) := (hB.cell (by simp)).trans (by go_simp)
  have k7 : w1.cell? ⟨w.heap.size + 1, 2, none⟩ = some (.slice A3 n3 c3) := (hB.cell (by simp)).trans (by go_simp)
  have hs1 : w.heap.size + 1 < w1.heap.size := by have := hB.size; simp at this; omega
  have hs0 : w.heap.size < w1.heap.size := by omega
  have hs2 : (w1.heap.size == w.heap.size + 1) = false := by simp; omega
  have hs3 : (w1.heap.size == w.heap.size) = false := by simp; omega
  clear hB
  go_wp2_with fail
  generalize hW2 : World.alloc w1 _ = w2
  have g2 : Grow w1 w2 := by rw [← hW2]; exact (Below.refl _ _).alloc (Nat.le_refl _) _
  have p0 : w2.cell? ⟨w.heap.size, 0, none⟩ = some (.int .i64 (f.N : Int)) := cell_old g2 k0
  have p1 : w2.cell? ⟨w.heap.size, 1, none⟩ = some (.int .i64 (f.L : Int)) := cell_old g2 k1
  have p2 : w2.cell? ⟨w.heap.size, 2, none⟩ = some (.int .i64 (f.H : Int)) := cell_old g2 k2
  have p3 : w2.cell? ⟨w.heap.size, 3, none⟩ = some (.int .i64 (f.K : Int)) := cell_old g2 k3
  have p4 : w2.cell? ⟨w.heap.size, 4, none⟩ = some (.int .i64 (f.A : Int)) := cell_old g2 k4
  have p5 : w2.cell? ⟨w.heap.size + 1, 0, none⟩ = some (.slice A1 n1 c1) := cell_old g2 k5
  have p6 : w2.cell? ⟨w.heap.size + 1, 1, none⟩ = some (.slice A2 n2 c2) := cell_old g2 k6
  have p7 : w2.cell? ⟨w.heap.size + 1, 2, none⟩ = some (.slice A3 n3 c3) := cell_old g2 k7
  have p8 : w2.cell? ⟨w1.heap.size, 0, none⟩ = some (.int .u32 0) := by subst hW2; go_simp
  have p9 : w2.cell? ⟨w1.heap.size, 1, none⟩ = some (.int .u64 (tree : Int)) := by subst hW2; go_simp
  have p10 : w2.cell? ⟨w1.heap.size, 2, none⟩ = some (.int .u32 0) := by subst hW2; go_simp
  have p11 : w2.cell? ⟨w1.heap.size, 3, none⟩ = some (.int .u32 (q : Int)) := by subst hW2; go_simp
  have p12 : w2.cell? ⟨w1.heap.size, 4, none⟩ = some (.int .u32 0) := by subst hW2; go_simp
  have p13 : w2.cell? ⟨w1.heap.size, 5, none⟩ = some (.int .u32 0) := by subst hW2; go_simp
  have HG2 := Lib.hid (g1.trans _ _ _ g2)
  clear hW2 g1 g2 k0 k1 k2 k3 k4 k5 k6 k7 hs2 hs3
  go_loopw [9, 11] (fun v t wr => ∃ (k : Nat) (A : Option Addr) (c : Nat), k ≤ f.K ∧ t = .int .i64 (k : Int) ∧ v = .slice A (k * f.N) c ∧ Own eB w2.heap.size wr A (k * f.N) c ((List.range k).flatMap fun k => fNode f.N m.seed m.secret tree q f.A k) ∧ Grow w2 wr) (fun _ t _ => f.K - (intOf t).toNat)
  case atStart => exact ⟨0, none, 0, Nat.zero_le _, rfl, by simp, by simpa using Own.nil _ _, Grow.refl _⟩
  case round =>
    obtain ⟨k, A, c, hk, rfl, rfl, ho, hg⟩ := hrel
    have r0 := cell_old hg p0
    have r1 := cell_old hg p1
    have r2 := cell_old hg p2
    have r3 := cell_old hg p3
    have r4 := cell_old hg p4
    have r5 := cell_old hg p5
    have r6 := cell_old hg p6
    have r7 := cell_old hg p7
    have r8 := cell_old hg p8
    have r9 := cell_old hg p9
    have r10 := cell_old hg p10
    have r11 := cell_old hg p11
    have r12 := cell_old hg p12
    have r13 := cell_old hg p13
    have HGW := Lib.hid (HG2.out.trans _ _ _ hg)
    have HO := Lib.hid ho
    have HGR := Lib.hid hg
    clear ho hg
    have hkN : k * f.N ≤ 40 * 32 := Nat.mul_le_mul (by omega) hN2
    obtain ⟨kn, hkn⟩ : ∃ x, k * f.N = x := ⟨_, rfl⟩
    rw [hkn] at HO hkN ⊢
    have HKN := Lib.hid hkn
    clear hkn
    by_cases hlt : k < f.K
    · go_wp2_with fail
      refine (HSUM.out f.A k wr hA (by omega) HGW.out).mono ?_
      rintro e w5 ⟨A5, n5, c5, rfl, h5, g5⟩
      obtain rfl : f.N = n5 := by rw [← h5.len]; exact (fNode_length f.N m.seed m.secret tree q f.A k (by omega)).symm
      have H5 := Lib.hid h5.rd
      have HO2 := Lib.hid (HO.out.below g5)
      have HG5 : Hid (Grow w2 w5) := Lib.hid (HGR.out.trans _ _ _ g5)
      have hs2 := HG5.out.size
      clear h5 g5
      go_wp2_with (at_builtin; refine wpList_append_sl rfl _ _ 24 5 (.int .u8 0) 1 rfl Tryz.underlying24 infoB rfl (fun _ => rfl) rfl rfl HO2.out H5.out (by omega) (by omega) hs2 ?_; intro A4 c4 w4 h1 h2 h3; have H4 := Lib.hid h1; have H6 : Hid (Grow w2 w4) := Lib.hid (Below.trans HG5.out h3); clear h1 h2 h3)
      go_roundw
      case rel => exact ⟨k + 1, A4, c4, by omega, by go_num, by rw [Nat.succ_mul, HKN.out], by rw [Nat.succ_mul, HKN.out, range_flat]; exact H4.out, H6.out⟩
      case measure => simp [intOf]; omega
    · obtain rfl : k = f.K := by omega
      have HC := Lib.hid (HAT.out A kn c _ 4 0 0 wr (by omega) (by omega) (by omega) HGW.out HO.out.rd (by rw [HO.out.len]; omega))
      go_wp2_with fail
      refine HC.out.mono ?_
      rintro e w5 ⟨A5, n5, c5, rfl, h5, h6⟩
      have H5 := Lib.hid (h5.mono HGW.out.size)
      have H6 := Lib.hid (Below.trans HGW.out (h6.mono HGW.out.size))
      clear h5 h6 HC
      go_wp2
      go_ret
      exact ⟨_, _, _, rfl, by rw [HRES.out]; exact H5.out, H6.out⟩
end Go.Proofs.Sl

/- The document's FORS: what is told of bytes. -/
namespace Go.Proofs.Sl
open Go.RowKit Go.Proofs

theorem two_div (i g : Nat) : i / 2 ^ g / 2 = i / 2 ^ (g + 1) := by rw [Nat.div_div_eq_div_mul, ← Nat.pow_succ]

set_option maxHeartbeats 4000000 in
theorem rtell_any (f : Few) (m : Sec) (A1 A2 A3 Ab : Option Addr) (n1 n2 n3 c1 c2 c3 nb cb tree q : Nat) (b : List UInt8) (w : World) (hM : Ground f m A1 A2 A3 n1 n2 n3 w) (ht : W64 tree) (hq : q < 4294967296) (hb : Rd eB w Ab nb b) (hnb : nb ≤ 1048576) (hbl : f.K * f.A ≤ b.length * 8) :
    Calls Tryz.prog 37 #[vFew f, vSec A1 A2 A3 n1 n2 n3 c1 c2 c3, .int .u64 (tree : Int), .int .u32 (q : Int), .slice Ab nb cb] w (RetOwn eB w (fTell f m.seed m.secret tree q b)) := by
  have HM := Lib.hid hM
  have HQ := Lib.hid (And.intro ht hq)
  have hK : f.K ≤ 40 := hM.ok.ok.K2
  have hA : f.A ≤ 6 := hM.ok.A
  have hN1 := hM.ok.ok.N.pos'
  have hN2 := hM.ok.ok.N.le'
  have hpw : ∀ i g, g ≤ 6 → i ≤ 5000 → (i + 1) * 2 ^ g ≤ 1048576 := fun i g hg hi => by
    have h1 : 2 ^ g ≤ 64 := Nat.le_trans (Nat.pow_le_pow_right (by omega) hg) (by decide)
    exact Nat.le_trans (Nat.mul_le_mul (show i + 1 ≤ 5001 by omega) h1) (by omega)
  have HSUM := Lib.hid (fun g i W (hg : g ≤ 6) (hi : i ≤ 5000) (hW : Below w.heap.size w W) => rfsum_any f m A1 A2 A3 n1 n2 n3 c1 c2 c3 tree q g i W ((HM.out.below hW).fg ht hq) (hpw i g hg hi) (by omega))
  have HAT := Lib.hid (fun (Ax : Option Addr) nx cx text kind i b W (hk : kind ≤ 1000) (hi : i ≤ 1000) (hb : b < 4294967296) (hW : Below w.heap.size w W) (hx : Rd eB W Ax nx text) (hxl : text.length ≤ 65536) => rat_any f HM.out.ok.ok A3 Ax n3 nx c3 cx m.seed text ⟨0, tree, 0, q, 0, 0⟩ kind i b W (HM.out.r3.below hW) HM.out.ok.seed (HM.out.fg ht hq).adok hk hi hb hx hxl)
  unfold vAd at HAT
  clear hpw
  have HDG := Lib.hid (fun W (hW : Below w.heap.size w W) => rdigits_any f HM.out.ok.ok Ab nb cb b W (hb.below hW) hnb hbl)
  have hp2 : 2 ^ f.A ≤ 64 := Nat.le_trans (Nat.pow_le_pow_right (by omega) hA) (by decide)
  have HIXL := Lib.hid (fun k (h : k < f.K) => Nat.lt_of_lt_of_le (index_lt f b k h) (Nat.mul_le_mul hK hp2))
  obtain ⟨pA, hpA⟩ : ∃ x, 2 ^ f.A = x := ⟨_, rfl⟩
  have HPOW := Lib.hid (fun W => rpow32_any f.A W (by omega))
  rw [hpA] at hp2 HPOW
  have HPA := Lib.hid hpA
  obtain ⟨ea, hea⟩ : ∃ ea, (f.A + 1) * f.N = ea := ⟨_, rfl⟩
  have hea2 : ea ≤ 7 * 32 := by rw [← hea]; exact Nat.mul_le_mul (by omega) hN2
  have HEA := Lib.hid hea
  have HFL := Lib.hid (fun k => fTell_part f m.seed m.secret tree q b (by omega) k)
  rw [hea] at HFL
  clear hM ht hq hpA hea hb hbl
  have HMD := Lib.hid (rmade_any f.N f.L f.H f.K f.A A1 A2 A3 n1 n2 n3 c1 c2 c3 ((w.alloc (.cells #[.int .i64 (f.N : Int), .int .i64 (f.L : Int), .int .i64 (f.H : Int), .int .i64 (f.K : Int), .int .i64 (f.A : Int)] 23)).alloc (.cells #[.slice A1 n1 c1, .slice A2 n2 c2, .slice A3 n3 c3] 26)))
  rw [HM.out.made] at HMD
  unfold vFewI vSec at HMD
  unfold vFew vSec at *
  go_enter Tryz.func37, Tryz.ntmps37
  go_wp2_with fail
  refine HMD.out.mono ?_
  rintro e w1 ⟨rfl, hB⟩
  clear HMD
  have g1 : Grow w w1 := (((Below.refl _ w).alloc (Nat.le_refl _) _).alloc (by simp) _).trans (hB.mono (by simp; omega))
  have k0 : w1.cell? ⟨w.heap.size, 0, none⟩ = some (.int .i64 (f.N : Int)) := (hB.cell (by simp; omega)).trans (by go_simp)
  have k1 : w1.cell? ⟨w.heap.size, 1, none⟩ = some (.int .i64 (f.L : Int)) := (hB.cell (by simp; omega)).trans (by go_simp)
  have k2 : w1.cell? ⟨w.heap.size, 2, none⟩ = some (.int .i64 (f.H : Int)) := (hB.cell (by simp; omega)).trans (by go_simp)
  have k3 : w1.cell? ⟨w.heap.size, 3, none⟩ = some (.int .i64 (f.K : Int)) := (hB.cell (by simp; omega)).trans (by go_simp)
  have k4 : w1.cell? ⟨w.heap.size, 4, none⟩ = some (.int .i64 (f.A : Int)) := (hB.cell (by simp; omega)).trans (by go_simp)
  have k5 : w1.cell? ⟨w.heap.size + 1, 0, none⟩ = some (.slice A1 n1 c1) := (hB.cell (by simp)).trans (by go_simp)
  have k6 : w1.cell? ⟨w.heap.size + 1, 1, none⟩ = some (.slice A2 n2 c2) := (hB.cell (by simp)).trans (by go_simp)
  have k7 : w1.cell? ⟨w.heap.size + 1, 2, none⟩ = some (.slice A3 n3 c3) := (hB.cell (by simp)).trans (by go_simp)
  have hs1 : w.heap.size + 1 < w1.heap.size := by have := hB.size; simp at this; omega
  have hs0 : w.heap.size < w1.heap.size := by omega
  have hs2 : (w1.heap.size == w.heap.size + 1) = false := by simp; omega
  have hs3 : (w1.heap.size == w.heap.size) = false := by simp; omega
  clear hB
  go_wp2_with fail
  generalize hW2 : World.alloc w1 _ = w2
  have g2 : Grow w1 w2 := by rw [← hW2]; exact (Below.refl _ _).alloc (Nat.le_refl _) _
  have p0 : w2.cell? ⟨w.heap.size, 0, none⟩ = some (.int .i64 (f.N : Int)) := cell_old g2 k0
  have p1 : w2.cell? ⟨w.heap.size, 1, none⟩ = some (.int .i64 (f.L : Int)) := cell_old g2 k1
  have p2 : w2.cell? ⟨w.heap.size, 2, none⟩ = some (.int .i64 (f.H : Int)) := cell_old g2 k2
  have p3 : w2.cell? ⟨w.heap.size, 3, none⟩ = some (.int .i64 (f.K : Int)) := cell_old g2 k3
  have p4 : w2.cell? ⟨w.heap.size, 4, none⟩ = some (.int .i64 (f.A : Int)) := cell_old g2 k4
  have p5 : w2.cell? ⟨w.heap.size + 1, 0, none⟩ = some (.slice A1 n1 c1) := cell_old g2 k5
  have p6 : w2.cell? ⟨w.heap.size + 1, 1, none⟩ = some (.slice A2 n2 c2) := cell_old g2 k6
  have p7 : w2.cell? ⟨w.heap.size + 1, 2, none⟩ = some (.slice A3 n3 c3) := cell_old g2 k7
  have p8 : w2.cell? ⟨w1.heap.size, 0, none⟩ = some (.int .u32 0) := by subst hW2; go_simp
  have p9 : w2.cell? ⟨w1.heap.size, 1, none⟩ = some (.int .u64 (tree : Int)) := by subst hW2; go_simp
  have p10 : w2.cell? ⟨w1.heap.size, 2, none⟩ = some (.int .u32 0) := by subst hW2; go_simp
  have p11 : w2.cell? ⟨w1.heap.size, 3, none⟩ = some (.int .u32 (q : Int)) := by subst hW2; go_simp
  have p12 : w2.cell? ⟨w1.heap.size, 4, none⟩ = some (.int .u32 0) := by subst hW2; go_simp
  have p13 : w2.cell? ⟨w1.heap.size, 5, none⟩ = some (.int .u32 0) := by subst hW2; go_simp
  have HG2 := Lib.hid (g1.trans _ _ _ g2)
  clear hW2 g1 g2 k0 k1 k2 k3 k4 k5 k6 k7 hs2 hs3
  refine (HDG.out w2 HG2.out).mono ?_
  rintro e w3 ⟨Ad, nd, cd, rfl, hd, g3⟩
  obtain rfl : f.K = nd := by rw [← hd.len, fDigits_length]
  have HD := Lib.hid hd.rd
  have HG3 : Hid (Grow w w3) := Lib.hid (HG2.out.trans _ _ _ g3)
  have s0 := cell_old g3 p0
  have s1 := cell_old g3 p1
  have s2 := cell_old g3 p2
  have s3 := cell_old g3 p3
  have s4 := cell_old g3 p4
  have s5 := cell_old g3 p5
  have s6 := cell_old g3 p6
  have s7 := cell_old g3 p7
  have s8 := cell_old g3 p8
  have s9 := cell_old g3 p9
  have s10 := cell_old g3 p10
  have s11 := cell_old g3 p11
  have s12 := cell_old g3 p12
  have s13 := cell_old g3 p13
  clear hd g3 HDG HG2 p0 p1 p2 p3 p4 p5 p6 p7 p8 p9 p10 p11 p12 p13
  have p0 := s0
  have p1 := s1
  have p2 := s2
  have p3 := s3
  have p4 := s4
  have p5 := s5
  have p6 := s6
  have p7 := s7
  have p8 := s8
  have p9 := s9
  have p10 := s10
  have p11 := s11
  have p12 := s12
  have p13 := s13
  have HG2 := HG3
  clear HG3 s0 s1 s2 s3 s4 s5 s6 s7 s8 s9 s10 s11 s12 s13
  go_wp2_with fail
  go_loopw [11, 14] (fun v t wr => ∃ (k : Nat) (A : Option Addr) (c : Nat), k ≤ f.K ∧ t = .int .i64 (k : Int) ∧ v = .slice A (k * ea) c ∧ Own eB w3.heap.size wr A (k * ea) c ((List.range k).flatMap fun k => fSecret f.N m.seed m.secret tree q (fIndex f b k) ++ fWay f m.seed m.secret tree q (fIndex f b k)) ∧ Grow w3 wr) (fun _ t _ => f.K - (intOf t).toNat)
  case atStart => exact ⟨0, none, 0, Nat.zero_le _, rfl, by simp, by simpa using Own.nil _ _, Grow.refl _⟩
  case round =>
    obtain ⟨k, A, c, hk, rfl, rfl, ho, hgr⟩ := hrel
    have hkN : k * ea ≤ 40 * (7 * 32) := Nat.mul_le_mul (by omega) hea2
    obtain ⟨kn, hkn⟩ : ∃ x, k * ea = x := ⟨_, rfl⟩
    rw [hkn] at ho hkN ⊢
    have HKN := Lib.hid hkn
    have HO' := Lib.hid ho
    clear ho hkn
    by_cases hlt : k < f.K
    · obtain ⟨ad, rfl, k14⟩ := (HD.out.below hgr).at k hlt
      rw [fDigits_at] at k14
      have hdl := digitTo_lt f.A b k f.A
      have hix := HIXL.out k hlt
      have hxx : fIndex f b k = k * 2 ^ f.A + digitTo f.A b k f.A := rfl
      rw [HPA.out] at hdl hxx
      obtain ⟨kp, hkp⟩ : ∃ x, k * pA = x := ⟨_, rfl⟩
      have hkp1 : (k : Int) * (pA : Int) = (kp : Int) := by rw [← hkp, Int.natCast_mul]
      have hk32 : (k : Int) % 4294967296 = (k : Int) := by omega
      rw [hkp] at hxx
      generalize digitTo f.A b k f.A = d at *
      obtain ⟨i, hi⟩ : ∃ x, fIndex f b k = x := ⟨_, rfl⟩
      rw [hi] at hxx hix
      have hadd : (kp : Int) + (d : Int) = (i : Int) := by omega
      have hix2 : i < 2560 := by omega
      have HI := Lib.hid hi
      have HXX := Lib.hid hxx
      clear hi hxx hix hkp
      have k0 := cell_old hgr p0
      have k1 := cell_old hgr p1
      have k2 := cell_old hgr p2
      have k3 := cell_old hgr p3
      have k4 := cell_old hgr p4
      have k5 := cell_old hgr p5
      have k6 := cell_old hgr p6
      have k7 := cell_old hgr p7
      have k8 := cell_old hgr p8
      have k9 := cell_old hgr p9
      have k10 := cell_old hgr p10
      have k11 := cell_old hgr p11
      have k12 := cell_old hgr p12
      have k13 := cell_old hgr p13
      go_wp2_with fail
      refine wp_region_rg Grow 79 11 11 [[], [], [], [], [], [], [], [], [], [], []]
        [.still [] (.int .i64 (k : Int)), .still [] (.int .u32 (k : Int)), .still [] (.pointer (some ⟨w.heap.size, 4, none⟩)), .still [] (.int .i64 (f.A : Int)), .still [] (.int .u32 (pA : Int)), .still [] (.int .u32 (kp : Int)), .still [] (.slice (some ad) f.K cd), .still [] (.int .i64 (k : Int)), .still [] (.pointer (some (ad.add k))), .still [] (.int .u32 (d : Int)), .still [] (.int .u32 (i : Int))] (by kernel_rfl) (by kernel_rfl) rfl rfl rfl Grow.trans (Grow.refl _) ?_
      iterate 4
        refine Obl.still (fun W hg _ => ?_) ?_
        · have c0 := cell_old hg k0; have c1 := cell_old hg k1; have c2 := cell_old hg k2; have c3 := cell_old hg k3; have c4 := cell_old hg k4; have c5 := cell_old hg k5; have c6 := cell_old hg k6; have c7 := cell_old hg k7; have c8 := cell_old hg k8; have c9 := cell_old hg k9; have c10 := cell_old hg k10; have c11 := cell_old hg k11; have c12 := cell_old hg k12; have c13 := cell_old hg k13; have c14 := cell_old hg k14; clear hg k0 k1 k2 k3 k4 k5 k6 k7 k8 k9 k10 k11 k12 k13 k14
          go_wp2
          exact ⟨rfl, rfl, rfl, Grow.refl _⟩
        simp only [Act.put, List.setIfInBounds_toArray, List.set_cons_zero, List.set_cons_succ]
      refine Obl.still (fun W hg _ => ?_) ?_
      · have c0 := hg
        clear c0
        clear hg k0 k1 k2 k3 k4 k5 k6 k7 k8 k9 k10 k11 k12 k13 k14
        go_wp2_with fail
        refine (HPOW.out W).mono ?_
        rintro e w' ⟨rfl, rfl⟩
        go_wp2
        exact ⟨rfl, rfl, rfl, Grow.refl _⟩
      simp only [Act.put, List.setIfInBounds_toArray, List.set_cons_zero, List.set_cons_succ]
      iterate 6
        refine Obl.still (fun W hg _ => ?_) ?_
        · have c0 := cell_old hg k0; have c1 := cell_old hg k1; have c2 := cell_old hg k2; have c3 := cell_old hg k3; have c4 := cell_old hg k4; have c5 := cell_old hg k5; have c6 := cell_old hg k6; have c7 := cell_old hg k7; have c8 := cell_old hg k8; have c9 := cell_old hg k9; have c10 := cell_old hg k10; have c11 := cell_old hg k11; have c12 := cell_old hg k12; have c13 := cell_old hg k13; have c14 := cell_old hg k14; clear hg k0 k1 k2 k3 k4 k5 k6 k7 k8 k9 k10 k11 k12 k13 k14
          go_wp2
          exact ⟨rfl, rfl, rfl, Grow.refl _⟩
        simp only [Act.put, List.setIfInBounds_toArray, List.set_cons_zero, List.set_cons_succ]
      refine Obl.done (fun W hg hall => ?_)
      have HGR := Lib.hid (hgr.trans _ _ _ ((Below.refl _ _).drew.trans hg))
      have HGW : Hid (Grow w W) := Lib.hid (HG2.out.trans _ _ _ HGR.out)
      have r0 := cell_old HGR.out p0
      have r1 := cell_old HGR.out p1
      have r2 := cell_old HGR.out p2
      have r3 := cell_old HGR.out p3
      have r4 := cell_old HGR.out p4
      have r5 := cell_old HGR.out p5
      have r6 := cell_old HGR.out p6
      have r7 := cell_old HGR.out p7
      have r8 := cell_old HGR.out p8
      have r9 := cell_old HGR.out p9
      have r10 := cell_old HGR.out p10
      have r11 := cell_old HGR.out p11
      have r12 := cell_old HGR.out p12
      have r13 := cell_old HGR.out p13
      have HO := Lib.hid (HO'.out.below ((Below.refl _ _).drew.trans hg))
      clear hg k0 k1 k2 k3 k4 k5 k6 k7 k8 k9 k10 k11 k12 k13 k14 hgr
      go_wp2_with fail

      refine (HAT.out A1 n1 c1 m.secret 6 0 i W (by omega) (by omega) (by omega) HGW.out (HM.out.r1.below HGW.out) (by rw [HM.out.ok.secret]; omega)).mono ?_
      rintro e w5 ⟨A5, n5, c5, rfl, h5, g5⟩
      obtain rfl : f.N = n5 := by rw [← h5.len]; exact (fSecret_length f.N m.seed m.secret tree q i (by omega)).symm
      have H5 : Hid (Rd eB w5 A5 f.N (fSecret f.N m.seed m.secret tree q i)) := Lib.hid h5.rd
      have HO2 := Lib.hid (HO.out.below g5)
      have HG5 : Hid (Grow w3 w5) := Lib.hid (HGR.out.trans _ _ _ g5)
      have hs2 := HG5.out.size
      clear h5 g5 r0 r1 r2 r3 r4 r5 r6 r7 r8 r9 r10 r11 r12 r13
      go_wp2_with (at_builtin; refine wpList_append_sl rfl _ _ 24 5 (.int .u8 0) 1 rfl Tryz.underlying24 infoB rfl (fun _ => rfl) rfl rfl HO2.out H5.out (by omega) (by omega) hs2 ?_; intro A4 c4 w4 h1 h2 h3; have H4 := Lib.hid h1; have H6 : Hid (Grow w3 w4) := Lib.hid (Below.trans HG5.out h3); clear h1 h2 h3)
      obtain ⟨Lk, hLk⟩ : ∃ L, ((List.range k).flatMap fun k => fSecret f.N m.seed m.secret tree q (fIndex f b k) ++ fWay f m.seed m.secret tree q (fIndex f b k)) = L := ⟨_, rfl⟩
      rw [hLk] at H4
      have HLK := Lib.hid hLk
      have hea3 : f.A * f.N + f.N = ea := by rw [← HEA.out, Nat.succ_mul]
      have HEA3 := Lib.hid hea3
      clear hLk hea3 HO HO2 H5
      go_loopw [11, 15, 16] (fun v x t wr => ∃ (g : Nat) (A : Option Addr) (c : Nat), g ≤ f.A ∧ t = .int .i64 (g : Int) ∧ x = .int .u32 ((i / 2 ^ g : Nat) : Int) ∧ v = .slice A (kn + f.N + g * f.N) c ∧ Own eB w3.heap.size wr A (kn + f.N + g * f.N) c (Lk ++ fSecret f.N m.seed m.secret tree q i ++ (List.range g).flatMap fun g => fNode f.N m.seed m.secret tree q g (other (i / 2 ^ g))) ∧ Grow w3 wr) (fun _ _ t _ => f.A - (intOf t).toNat)
      case atStart => exact ⟨0, A4, c4, Nat.zero_le _, rfl, by simp, by simp, by simpa using H4.out, H6.out⟩
      case round =>
        obtain ⟨g, A, c, hg, rfl, rfl, rfl, ho, hgr⟩ := hrel
        have hgN : g * f.N ≤ 6 * 32 := Nat.mul_le_mul (by omega) hN2
        obtain ⟨gn, hgn⟩ : ∃ x, g * f.N = x := ⟨_, rfl⟩
        obtain ⟨y, hy⟩ : ∃ x, i / 2 ^ g = x := ⟨_, rfl⟩
        have hyl : y < 2560 := by rw [← hy]; exact Nat.lt_of_le_of_lt (Nat.div_le_self _ _) hix2
        rw [hgn] at ho hgN ⊢
        have HGN := Lib.hid hgn
        have hlg : ((List.range g).flatMap fun g => fNode f.N m.seed m.secret tree q g (other (i / 2 ^ g))) ++ fNode f.N m.seed m.secret tree q g (other y) = (List.range (g + 1)).flatMap fun g => fNode f.N m.seed m.secret tree q g (other (i / 2 ^ g)) := by rw [range_flat, hy]
        have hy2 : y / 2 = i / 2 ^ (g + 1) := by rw [← hy, two_div]
        rw [hy]
        have HY2 := Lib.hid hy2
        have HLG := Lib.hid hlg
        have HO := Lib.hid ho
        have HGR := Lib.hid hgr
        have HGW : Hid (Grow w wr) := Lib.hid (HG2.out.trans _ _ _ hgr)
        have r0 := cell_old hgr p0
        have r1 := cell_old hgr p1
        have r2 := cell_old hgr p2
        have r3 := cell_old hgr p3
        have r4 := cell_old hgr p4
        have r5 := cell_old hgr p5
        have r6 := cell_old hgr p6
        have r7 := cell_old hgr p7
        have r8 := cell_old hgr p8
        have r9 := cell_old hgr p9
        have r10 := cell_old hgr p10
        have r11 := cell_old hgr p11
        have r12 := cell_old hgr p12
        have r13 := cell_old hgr p13
        clear ho hgr hgn hy hlg hy2
        by_cases hlt2 : g < f.A
        · by_cases hod : y % 2 = 1
          · have hot : other y = y - 1 := by unfold other; rw [if_pos hod]
            have HC := Lib.hid (HSUM.out g (y - 1) wr (by omega) (by omega) HGW.out)
            rw [← hot] at HC
            rw [show ((other y : Nat) : Int) = (y : Int) - 1 by rw [hot]; omega] at HC
            clear hot
            go_wp2_with fail
            refine HC.out.mono ?_
            rintro e w5 ⟨A5, n5, c5, rfl, h5, g5⟩
            obtain rfl : f.N = n5 := by rw [← h5.len]; exact (fNode_length f.N m.seed m.secret tree q g (other y) (by omega)).symm
            have H5 := Lib.hid h5.rd
            have HO2 := Lib.hid (HO.out.below g5)
            have HG5 : Hid (Grow w3 w5) := Lib.hid (HGR.out.trans _ _ _ g5)
            have hs2 := HG5.out.size
            clear h5 g5 HC r0 r1 r2 r3 r4 r5 r6 r7 r8 r9 r10 r11 r12 r13
            go_wp2_with (at_builtin; refine wpList_append_sl rfl _ _ 24 5 (.int .u8 0) 1 rfl Tryz.underlying24 infoB rfl (fun _ => rfl) rfl rfl HO2.out H5.out (by omega) (by omega) hs2 ?_; intro A4 c4 w4 h1 h2 h3; have H4 := Lib.hid h1; have H6 : Hid (Grow w3 w4) := Lib.hid (Below.trans HG5.out h3); clear h1 h2 h3)
            go_roundw
            case rel => exact ⟨g + 1, A4, c4, by omega, by go_num, by rw [← HY2.out]; go_num, by rw [Nat.succ_mul, HGN.out, ← Nat.add_assoc], by rw [Nat.succ_mul, HGN.out, ← HLG.out, ← Nat.add_assoc, ← List.append_assoc]; exact H4.out, H6.out⟩
            case measure => simp [intOf]; omega
          · have hot : other y = y + 1 := by unfold other; rw [if_neg hod]
            have HC := Lib.hid (HSUM.out g (y + 1) wr (by omega) (by omega) HGW.out)
            rw [← hot] at HC
            rw [show ((other y : Nat) : Int) = (y : Int) + 1 by rw [hot]; omega] at HC
            clear hot
            go_wp2_with fail
            refine HC.out.mono ?_
            rintro e w5 ⟨A5, n5, c5, rfl, h5, g5⟩
            obtain rfl : f.N = n5 := by rw [← h5.len]; exact (fNode_length f.N m.seed m.secret tree q g (other y) (by omega)).symm
            have H5 := Lib.hid h5.rd
            have HO2 := Lib.hid (HO.out.below g5)
            have HG5 : Hid (Grow w3 w5) := Lib.hid (HGR.out.trans _ _ _ g5)
            have hs2 := HG5.out.size
            clear h5 g5 HC r0 r1 r2 r3 r4 r5 r6 r7 r8 r9 r10 r11 r12 r13
            go_wp2_with (at_builtin; refine wpList_append_sl rfl _ _ 24 5 (.int .u8 0) 1 rfl Tryz.underlying24 infoB rfl (fun _ => rfl) rfl rfl HO2.out H5.out (by omega) (by omega) hs2 ?_; intro A4 c4 w4 h1 h2 h3; have H4 := Lib.hid h1; have H6 : Hid (Grow w3 w4) := Lib.hid (Below.trans HG5.out h3); clear h1 h2 h3)
            go_roundw
            case rel => exact ⟨g + 1, A4, c4, by omega, by go_num, by rw [← HY2.out]; go_num, by rw [Nat.succ_mul, HGN.out, ← Nat.add_assoc], by rw [Nat.succ_mul, HGN.out, ← HLG.out, ← Nat.add_assoc, ← List.append_assoc]; exact H4.out, H6.out⟩
            case measure => simp [intOf]; omega
        · obtain rfl : g = f.A := by omega
          have hlen : kn + f.N + gn = (k + 1) * ea := by
            have h1 := HEA3.out
            have h2 := HGN.out
            rw [Nat.succ_mul, HKN.out]
            omega
          have htx : Lk ++ fSecret f.N m.seed m.secret tree q i ++ ((List.range f.A).flatMap fun g => fNode f.N m.seed m.secret tree q g (other (i / 2 ^ g))) = (List.range (k + 1)).flatMap fun k => fSecret f.N m.seed m.secret tree q (fIndex f b k) ++ fWay f m.seed m.secret tree q (fIndex f b k) := by
            rw [range_flat, HLK.out, HI.out, List.append_assoc]
            rfl
          have HLEN := Lib.hid hlen
          have HTX := Lib.hid htx
          clear hlen htx
          go_wp2
          go_roundw
          case rel => exact ⟨k + 1, A, c, by omega, by go_num, by rw [HLEN.out], by rw [← HTX.out, ← HLEN.out]; exact HO.out, HGR.out⟩
          case measure => simp [intOf]; omega
    · obtain rfl : k = f.K := by omega
      go_wp2
      go_ret
      exact ⟨_, _, _, rfl, HO'.out.mono HG2.out.size, HG2.out.trans _ _ _ hgr⟩
end Go.Proofs.Sl
