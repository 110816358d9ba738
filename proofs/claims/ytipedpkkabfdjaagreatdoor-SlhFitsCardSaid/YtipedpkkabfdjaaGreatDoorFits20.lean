/- The document's SLH: the sums of a tree. The document's SLH: the sums of a tree, of any height; a tree's root; the public key. The document's SLH: a tree's root where there is none; the public key. slh: what is told of a text, its tree and its leaf. -/
import Derived.Test.YtipedpkkabfdjaaGreatDoorFits19
import Derived.Test.YtipedpkkabfdjaaGreatDoorFits14
import Derived.Test.YtipedpkkabfdjaaGreatDoorFits16
import Derived.Test.YtipedpkkabfdjaaGreatDoorFits15
/- The document's SLH: the sums of a tree. -/
namespace Go.Proofs.Sl
open Go.RowKit Go.Proofs

/-- What the document's trees stand on. -/
structure RGr (f : Few) (m : Sec) (A1 A3 : Option Addr) (n1 n3 layer tree : Nat) (w : World) : Prop where
  ok : FewOk f
  secret : m.secret.length = f.N
  seed : m.seed.length = f.N
  layer : layer < 4294967296
  tree : W64 tree
  r1 : Rd eB w A1 n1 m.secret
  r3 : Rd eB w A3 n3 m.seed
theorem RGr.below {f : Few} {m : Sec} {A1 A3 : Option Addr} {n1 n3 layer tree : Nat} {w w' : World} (h : RGr f m A1 A3 n1 n3 layer tree w) (hb : Below w.heap.size w w') : RGr f m A1 A3 n1 n3 layer tree w' := ⟨h.ok, h.secret, h.seed, h.layer, h.tree, h.r1.below hb, h.r3.below hb⟩

set_option maxHeartbeats 4000000 in
theorem rsum_zero (f : Few) (m : Sec) (A1 A2 A3 : Option Addr) (n1 n2 n3 c1 c2 c3 layer tree i : Nat) (w : World) (hM : RGr f m A1 A3 n1 n3 layer tree w) (hi : i < 4294967296) :
    Calls Tryz.prog 42 #[vFew f, vSec A1 A2 A3 n1 n2 n3 c1 c2 c3, .int .u32 (layer : Int), .int .u64 (tree : Int), .int .i64 0, .int .u32 (i : Int)] w (RetOwn eB w (sNode f.N m.seed m.secret layer tree 0 i)) := by
  have HM := Lib.hid hM
  have HI := Lib.hid hi
  have hN2 := hM.ok.N.le'
  have hN1 := hM.ok.N.pos'
  have HCH := Lib.hid (fun w => rchains_any f hM.ok w)
  have hch : chainsL f.N ≤ 67 := by unfold chainsL; omega
  have HRES : Hid (sNode f.N m.seed m.secret layer tree 0 i = tweakL f.N m.seed ⟨layer, tree, 1, i, 0, 0⟩ ((List.range (chainsL f.N)).flatMap fun k => upL f.N m.seed layer tree i k 0 (sSecret f.N m.seed m.secret layer tree i k) 15)) := Lib.hid rfl
  have HLN : Hid (((List.range (chainsL f.N)).flatMap fun k => upL f.N m.seed layer tree i k 0 (sSecret f.N m.seed m.secret layer tree i k) 15).length = chainsL f.N * f.N) := Lib.hid (leafText_length f.N m.seed m.secret layer tree i (by omega))
  have hch0 : 3 ≤ chainsL f.N := by unfold chainsL; omega
  generalize chainsL f.N = ch at *
  have hcn : ch * f.N ≤ 67 * 32 := Nat.mul_le_mul hch hN2
  clear hM hi
  unfold vFew vSec at *
  go_enter Tryz.func42, Tryz.ntmps42
  go_wp2_with fail
  generalize hW0 : World.alloc (World.alloc (World.alloc w _) _) _ = w0
  have hb0 : Below w.heap.size w w0 := by
    rw [← hW0]
    exact (((Below.refl _ w).alloc (Nat.le_refl _) _).alloc (by simp) _).alloc (by simp; omega) _
  have hz0 : w.heap.size + 3 ≤ w0.heap.size := by rw [← hW0]; simp
  have q0 : w0.cell? ⟨w.heap.size, 0, none⟩ = some (.int .i64 (f.N : Int)) := by subst hW0; go_simp
  have q1 : w0.cell? ⟨w.heap.size, 1, none⟩ = some (.int .i64 (f.L : Int)) := by subst hW0; go_simp
  have q2 : w0.cell? ⟨w.heap.size, 2, none⟩ = some (.int .i64 (f.H : Int)) := by subst hW0; go_simp
  have q3 : w0.cell? ⟨w.heap.size, 3, none⟩ = some (.int .i64 (f.K : Int)) := by subst hW0; go_simp
  have q4 : w0.cell? ⟨w.heap.size, 4, none⟩ = some (.int .i64 (f.A : Int)) := by subst hW0; go_simp
  have q5 : w0.cell? ⟨w.heap.size + 1, 0, none⟩ = some (.slice A1 n1 c1) := by subst hW0; go_simp
  have q6 : w0.cell? ⟨w.heap.size + 1, 1, none⟩ = some (.slice A2 n2 c2) := by subst hW0; go_simp
  have q7 : w0.cell? ⟨w.heap.size + 1, 2, none⟩ = some (.slice A3 n3 c3) := by subst hW0; go_simp
  have q8 : w0.cell? ⟨w.heap.size + 1 + 1, 0, none⟩ = some (.int .u32 (layer : Int)) := by subst hW0; go_simp
  have q9 : w0.cell? ⟨w.heap.size + 1 + 1, 1, none⟩ = some (.int .u64 (tree : Int)) := by subst hW0; go_simp
  have q10 : w0.cell? ⟨w.heap.size + 1 + 1, 2, none⟩ = some (.int .u32 0) := by subst hW0; go_simp
  have q11 : w0.cell? ⟨w.heap.size + 1 + 1, 3, none⟩ = some (.int .u32 (i : Int)) := by subst hW0; go_simp
  have q12 : w0.cell? ⟨w.heap.size + 1 + 1, 4, none⟩ = some (.int .u32 0) := by subst hW0; go_simp
  have q13 : w0.cell? ⟨w.heap.size + 1 + 1, 5, none⟩ = some (.int .u32 0) := by subst hW0; go_simp
  have qf : w0.frozen? ⟨w.heap.size + 1 + 1, 2, none⟩ = false := by subst hW0; go_simp
  have HG0 := Lib.hid hb0
  clear hW0 hb0
  go_loopw [14, 15] (fun v t wr => ∃ (k : Nat) (A' : Option Addr) (c' : Nat), k ≤ ch ∧ t = .int .i64 (k : Int) ∧ v = .slice A' (k * f.N) c' ∧ Own eB w0.heap.size wr A' (k * f.N) c' ((List.range k).flatMap fun k => upL f.N m.seed layer tree i k 0 (sSecret f.N m.seed m.secret layer tree i k) 15) ∧ Grow w0 wr) (fun _ t _ => ch - (intOf t).toNat)
  case atStart => exact ⟨0, none, 0, Nat.zero_le _, rfl, by simp, by simpa using Own.nil _ _, Grow.refl _⟩
  case round =>
    obtain ⟨k, A', c', hk, rfl, rfl, ho, hg⟩ := hrel
    have p0 := cell_old hg q0
    have p1 := cell_old hg q1
    have p2 := cell_old hg q2
    have p3 := cell_old hg q3
    have p4 := cell_old hg q4
    have p5 := cell_old hg q5
    have p6 := cell_old hg q6
    have p7 := cell_old hg q7
    have p8 := cell_old hg q8
    have p9 := cell_old hg q9
    have p10 := cell_old hg q10
    have p11 := cell_old hg q11
    have p12 := cell_old hg q12
    have p13 := cell_old hg q13
    have pf : wr.frozen? ⟨w.heap.size + 1 + 1, 2, none⟩ = false := (World.frozen?_of_block (w := w0) (a := ⟨w.heap.size + 1 + 1, 2, none⟩) (hg.block _ (by show w.heap.size + 1 + 1 < w0.heap.size; omega))).trans qf
    have HGR' := Lib.hid hg
    have HO' := Lib.hid ho
    clear ho hg
    go_wp2_with fail
    refine (HCH.out wr).mono ?_
    rintro e wr1 ⟨rfl, g1⟩
    have HGR : Hid (Grow w0 wr1) := Lib.hid (Below.trans HGR'.out (Below.mono g1 HGR'.out.size))
    have HO := Lib.hid (HO'.out.below g1)
    have r0 := cell_old g1 p0
    have r1 := cell_old g1 p1
    have r2 := cell_old g1 p2
    have r3 := cell_old g1 p3
    have r4 := cell_old g1 p4
    have r5 := cell_old g1 p5
    have r6 := cell_old g1 p6
    have r7 := cell_old g1 p7
    have r8 := cell_old g1 p8
    have r9 := cell_old g1 p9
    have r10 := cell_old g1 p10
    have r11 := cell_old g1 p11
    have r12 := cell_old g1 p12
    have r13 := cell_old g1 p13
    have rf : wr1.frozen? ⟨w.heap.size + 1 + 1, 2, none⟩ = false := (World.frozen?_of_block (w := wr) (a := ⟨w.heap.size + 1 + 1, 2, none⟩) (g1.block _ (World.block_lt_of_cell? wr _ p10))).trans pf
    clear HGR' HO' g1 pf p0 p1 p2 p3 p4 p5 p6 p7 p8 p9 p10 p11 p12 p13
    have HGW : Hid (Below w.heap.size w wr1.drew) := Lib.hid ((HG0.out.trans (HGR.out.mono HG0.out.size)).drew)
    have hkN : k * f.N ≤ 67 * 32 := Nat.mul_le_mul (by omega) hN2
    by_cases hlt : k < ch
    · obtain ⟨kn, hkn⟩ : ∃ x, k * f.N = x := ⟨_, rfl⟩
      rw [hkn] at HO hkN ⊢
      have HKN := Lib.hid hkn
      clear hkn rf
      go_wp2_with fail
      have k0 : wr1.drew.cell? ⟨w.heap.size, 0, none⟩ = some (.int .i64 (f.N : Int)) := r0
      have k1 : wr1.drew.cell? ⟨w.heap.size, 1, none⟩ = some (.int .i64 (f.L : Int)) := r1
      have k2 : wr1.drew.cell? ⟨w.heap.size, 2, none⟩ = some (.int .i64 (f.H : Int)) := r2
      have k3 : wr1.drew.cell? ⟨w.heap.size, 3, none⟩ = some (.int .i64 (f.K : Int)) := r3
      have k4 : wr1.drew.cell? ⟨w.heap.size, 4, none⟩ = some (.int .i64 (f.A : Int)) := r4
      have k5 : wr1.drew.cell? ⟨w.heap.size + 1, 0, none⟩ = some (.slice A1 n1 c1) := r5
      have k6 : wr1.drew.cell? ⟨w.heap.size + 1, 1, none⟩ = some (.slice A2 n2 c2) := r6
      have k7 : wr1.drew.cell? ⟨w.heap.size + 1, 2, none⟩ = some (.slice A3 n3 c3) := r7
      have k8 : wr1.drew.cell? ⟨w.heap.size + 1 + 1, 0, none⟩ = some (.int .u32 (layer : Int)) := r8
      have k9 : wr1.drew.cell? ⟨w.heap.size + 1 + 1, 1, none⟩ = some (.int .u64 (tree : Int)) := r9
      have k10 : wr1.drew.cell? ⟨w.heap.size + 1 + 1, 2, none⟩ = some (.int .u32 0) := r10
      have k11 : wr1.drew.cell? ⟨w.heap.size + 1 + 1, 3, none⟩ = some (.int .u32 (i : Int)) := r11
      have k12 : wr1.drew.cell? ⟨w.heap.size + 1 + 1, 4, none⟩ = some (.int .u32 0) := r12
      have k13 : wr1.drew.cell? ⟨w.heap.size + 1 + 1, 5, none⟩ = some (.int .u32 0) := r13
      clear r0 r1 r2 r3 r4 r5 r6 r7 r8 r9 r10 r11 r12 r13
      refine wp_region_rg Grow 82 12 12 [[], [], [], [], [], [], [], [], [], [], [], [10]]
        [.still [] (.slice A' kn c'), .still [] (.agg #[.int .i64 (f.N : Int), .int .i64 (f.L : Int), .int .i64 (f.H : Int), .int .i64 (f.K : Int), .int .i64 (f.A : Int)]), .still [] (.pointer (some ⟨w.heap.size + 1, 2, none⟩)), .still [] (.slice A3 n3 c3), .still [] (.agg #[.int .u32 (layer : Int), .int .u64 (tree : Int), .int .u32 0, .int .u32 (i : Int), .int .u32 0, .int .u32 0]), .still [] (.int .i64 (k : Int)), .still [] (.agg #[.int .i64 (f.N : Int), .int .i64 (f.L : Int), .int .i64 (f.H : Int), .int .i64 (f.K : Int), .int .i64 (f.A : Int)]), .still [] (.agg #[.slice A1 n1 c1, .slice A2 n2 c2, .slice A3 n3 c3]), .still [] (.agg #[.int .u32 (layer : Int), .int .u64 (tree : Int), .int .u32 0, .int .u32 (i : Int), .int .u32 0, .int .u32 0]), .still [] (.int .i64 (k : Int)), .grow [] (OwnV eB 0 (sSecret f.N m.seed m.secret layer tree i k)), .grow [10] (RdV eB (upL f.N m.seed layer tree i k 0 (sSecret f.N m.seed m.secret layer tree i k) 15))] (by kernel_rfl) (by kernel_rfl) rfl rfl rfl Grow.trans (Grow.refl _) ?_
      iterate 10
        refine Obl.still (fun W hg _ => ?_) ?_
        · have c0 := cell_old hg k0; have c1 := cell_old hg k1; have c2 := cell_old hg k2; have c3 := cell_old hg k3; have c4 := cell_old hg k4; have c5 := cell_old hg k5; have c6 := cell_old hg k6; have c7 := cell_old hg k7; have c8 := cell_old hg k8; have c9 := cell_old hg k9; have c10 := cell_old hg k10; have c11 := cell_old hg k11; have c12 := cell_old hg k12; have c13 := cell_old hg k13; clear hg k0 k1 k2 k3 k4 k5 k6 k7 k8 k9 k10 k11 k12 k13
          go_wp2
          exact ⟨rfl, rfl, rfl, Grow.refl _⟩
        simp only [Act.put, List.setIfInBounds_toArray, List.set_cons_zero, List.set_cons_succ]
      refine Obl.grow (OwnV.keep _ _ _) (fun W hg _ => ?_) (fun v10 => ?_)
      · have hbW := HGW.out.trans (Below.mono hg HGW.out.size)
        have HC := Lib.hid (rsecret_any f HM.out.ok A1 A2 A3 n1 n2 n3 c1 c2 c3 m.seed m.secret ⟨layer, tree, 0, i, 0, 0⟩ k W (HM.out.r3.below hbW) HM.out.seed ⟨HM.out.layer, HM.out.tree, by show (0 : Nat) < _; omega, HI.out, by show (0 : Nat) < _; omega, by show (0 : Nat) < _; omega⟩ (by omega) (HM.out.r1.below hbW) HM.out.secret)
        unfold vFew vSec vAd at HC
        clear hbW
        clear hg k0 k1 k2 k3 k4 k5 k6 k7 k8 k9 k10 k11 k12 k13
        go_wp2_with fail
        refine (HC.out).mono ?_
        rintro e w' ⟨A1, n1, c1, rfl, h1, h2⟩
        go_wp2
        exact ⟨rfl, rfl, ⟨_, _, _, rfl, h1.mono (Nat.zero_le _)⟩, h2⟩
      simp only [Act.put, List.setIfInBounds_toArray, List.set_cons_zero, List.set_cons_succ]
      refine Obl.grow (RdV.keep _ _) (fun W hg ⟨h10, _⟩ => ?_) (fun v11 => ?_)
      · obtain ⟨Ah10, nh10, ch10, rfl, h10⟩ := h10
        have hbW := HGW.out.trans (Below.mono hg HGW.out.size)
        have HC := Lib.hid (rup_any f HM.out.ok A3 Ah10 n3 c3 nh10 ch10 m.seed (sSecret f.N m.seed m.secret layer tree i k) ⟨layer, tree, 0, i, 0, 0⟩ k 0 15 W (HM.out.r3.below hbW) HM.out.seed ⟨HM.out.layer, HM.out.tree, by show (0 : Nat) < _; omega, HI.out, by show (0 : Nat) < _; omega, by show (0 : Nat) < _; omega⟩ (by omega) (by omega) (by omega) h10.rd (sSecret_length _ _ _ _ _ _ _ (by omega)))
        unfold vFew vAd at HC
        dsimp only at HC
        clear hbW h10
        clear hg k0 k1 k2 k3 k4 k5 k6 k7 k8 k9 k10 k11 k12 k13
        go_wp2_with fail
        refine HC.out.mono ?_
        rintro e w' ⟨A1, n1, c1, rfl, h1, h2⟩
        have H1 := Lib.hid h1
        have H2 := Lib.hid h2
        clear h1 h2 HC
        go_wp2
        exact ⟨rfl, rfl, ⟨_, _, _, rfl, H1.out⟩, H2.out⟩
      simp only [Act.put, List.setIfInBounds_toArray, List.set_cons_zero, List.set_cons_succ]
      refine Obl.done (fun W hg hall => ?_)
      obtain ⟨hx, _⟩ := hall
      obtain ⟨Au, nu, cu, rfl, hx⟩ := hx
      obtain rfl : f.N = nu := by rw [← hx.len]; exact (upL_length _ _ _ _ _ _ _ _ (sSecret_length _ _ _ _ _ _ _ (by omega)) (by omega) _).symm
      have HG2 : Hid (Grow w0 W) := Lib.hid (Below.trans (Below.drew HGR.out) (Below.mono hg HGR.out.size))
      have HO2 := Lib.hid (HO.out.drew.below hg)
      have HX := Lib.hid hx
      have hs2 := HG2.out.size
      clear hg k0 k1 k2 k3 k4 k5 k6 k7 k8 k9 k10 k11 k12 k13 hx
      go_wp2_with (at_builtin; refine wpList_append_sl rfl _ _ 24 5 (.int .u8 0) 1 rfl Tryz.underlying24 infoB rfl (fun _ => rfl) rfl rfl HO2.out HX.out (by omega) (by omega) hs2 ?_; intro A4 c4 w4 h1 h2 h3; have H4 := Lib.hid h1; have H5 : Hid (Grow w0 w4) := Lib.hid (Below.trans HG2.out h3); clear h1 h2 h3)
      go_roundw
      case rel => exact ⟨k + 1, A4, c4, by omega, by go_num, by rw [Nat.succ_mul, HKN.out], by rw [Nat.succ_mul, HKN.out, range_flat]; exact H4.out, H5.out⟩
      case measure => simp [intOf]; omega

    · obtain rfl : k = ch := by omega
      have hb2 := (HG0.out.trans (HGR.out.mono HG0.out.size)).setCell (p := ⟨w.heap.size + 1 + 1, 2, none⟩) (show w.heap.size ≤ w.heap.size + 1 + 1 by omega) (.int .u32 1)
      have hc0 : 0 < c' := by
        have h1 := HO.out.nc
        have h2 : 1 * 1 ≤ k * f.N := Nat.mul_le_mul (by omega) (by omega)
        omega
      have ho2 := HO.out.set_other ⟨w.heap.size + 1 + 1, 2, none⟩ (.int .u32 1) (by
        intro e
        have h9 := (HO.out.lt _ e hc0).1
        dsimp only at h9
        omega)
      have HC := Lib.hid (rtweak_any f.N A3 A' n3 c3 (k * f.N) c' m.seed _ ⟨layer, tree, 1, i, 0, 0⟩ (wr1.setCell ⟨w.heap.size + 1 + 1, 2, none⟩ (.int .u32 1)) HM.out.ok.N (HM.out.r3.below hb2) HM.out.seed ho2.rd (by rw [HLN.out]; omega) ⟨HM.out.layer, HM.out.tree, by show (1 : Nat) < _; omega, HI.out, by show (0 : Nat) < _; omega, by show (0 : Nat) < _; omega⟩)
      unfold vAd at HC
      have HB2 := Lib.hid hb2
      clear hb2 ho2
      go_wp2_with fail
      refine HC.out.mono ?_
      rintro e w5 ⟨A5, n5, c5, rfl, h5, h6⟩
      have H5 := Lib.hid (h5.mono HB2.out.size)
      have H6 := Lib.hid (Below.trans HB2.out (h6.mono HB2.out.size))
      clear h5 h6 HC r0 r1 r2 r3 r4 r5 r6 r7 r8 r9 r10 r11 r12 r13
      go_wp2
      go_ret
      exact ⟨_, _, _, rfl, by rw [HRES.out]; exact H5.out, H6.out⟩
end Go.Proofs.Sl

/- The document's SLH: the sums of a tree, of any height; a tree's root; the public key. -/
namespace Go.Proofs.Sl
open Go.RowKit Go.Proofs

set_option maxHeartbeats 4000000 in
theorem rsum_any (f : Few) (m : Sec) (A1 A2 A3 : Option Addr) (n1 n2 n3 c1 c2 c3 layer tree : Nat) : ∀ (g i : Nat) (w : World), RGr f m A1 A3 n1 n3 layer tree w → (i + 1) * 2 ^ g ≤ 1048576 → g ≤ 20 →
    Calls Tryz.prog 42 #[vFew f, vSec A1 A2 A3 n1 n2 n3 c1 c2 c3, .int .u32 (layer : Int), .int .u64 (tree : Int), .int .i64 (g : Int), .int .u32 (i : Int)] w (RetOwn eB w (sNode f.N m.seed m.secret layer tree g i)) := by
  intro g
  induction g with
  | zero => intro i w hM hi _; exact rsum_zero f m A1 A2 A3 n1 n2 n3 c1 c2 c3 layer tree i w hM (by simp at hi; omega)
  | succ g ih =>
    intro i w hM hi hg
    rw [Nat.pow_succ] at hi
    have hp : 1 ≤ 2 ^ g := Nat.one_le_two_pow
    have hi1 : (2 * i + 1 + 1) * 2 ^ g ≤ 1048576 := by
      calc (2 * i + 1 + 1) * 2 ^ g = (i + 1) * (2 ^ g * 2) := by rw [show 2 * i + 1 + 1 = (i + 1) * 2 by omega, Nat.mul_assoc, Nat.mul_comm 2]
        _ ≤ 1048576 := hi
    have hi0 : (2 * i + 1) * 2 ^ g ≤ 1048576 := Nat.le_trans (Nat.mul_le_mul_right _ (by omega)) hi1
    have hi2 : i + 1 ≤ 1048576 := by
      have h1 : (i + 1) * 1 ≤ (i + 1) * (2 ^ g * 2) := Nat.mul_le_mul_left _ (by omega)
      omega
    have IH0 := Lib.hid (fun W hW => ih (2 * i) W hW hi0 (by omega))
    have IH1 := Lib.hid (fun W hW => ih (2 * i + 1) W hW hi1 (by omega))
    rw [show ((2 * i : Nat) : Int) = 2 * (i : Int) by omega] at IH0
    rw [show ((2 * i + 1 : Nat) : Int) = 2 * (i : Int) + 1 by omega] at IH1
    rw [show ((g + 1 : Nat) : Int) = (g : Int) + 1 by omega]
    have HM := Lib.hid hM
    have hN2 := hM.ok.N.le'
    have hN1 := hM.ok.N.pos'
    have HRES : Hid (sNode f.N m.seed m.secret layer tree (g + 1) i = tweakL f.N m.seed ⟨layer, tree, 2, 0, g + 1, i⟩ (sNode f.N m.seed m.secret layer tree g (2 * i) ++ sNode f.N m.seed m.secret layer tree g (2 * i + 1))) := Lib.hid rfl
    have HL0 := Lib.hid (sNode_length f.N m.seed m.secret layer tree g (2 * i) (by omega))
    have HL1 := Lib.hid (sNode_length f.N m.seed m.secret layer tree g (2 * i + 1) (by omega))
    generalize sNode f.N m.seed m.secret layer tree g (2 * i) = lt at *
    generalize sNode f.N m.seed m.secret layer tree g (2 * i + 1) = rt at *
    have e1 : ((g : Int) + 1) % 4294967296 = (g : Int) + 1 := by omega
    clear hM hi hi0 hi1 hp ih
    unfold vFew vSec at *
    go_enter Tryz.func42, Tryz.ntmps42
    go_wp2_with fail
    generalize hW0 : World.alloc (World.alloc (World.alloc w _) _) _ = w0
    have hb0 : Below w.heap.size w w0 := by
      rw [← hW0]
      exact (((Below.refl _ w).alloc (Nat.le_refl _) _).alloc (by simp) _).alloc (by simp; omega) _
    have hz0 : w.heap.size + 3 ≤ w0.heap.size := by rw [← hW0]; simp
    have q0 : w0.cell? ⟨w.heap.size, 0, none⟩ = some (.int .i64 (f.N : Int)) := by subst hW0; go_simp
    have q1 : w0.cell? ⟨w.heap.size, 1, none⟩ = some (.int .i64 (f.L : Int)) := by subst hW0; go_simp
    have q2 : w0.cell? ⟨w.heap.size, 2, none⟩ = some (.int .i64 (f.H : Int)) := by subst hW0; go_simp
    have q3 : w0.cell? ⟨w.heap.size, 3, none⟩ = some (.int .i64 (f.K : Int)) := by subst hW0; go_simp
    have q4 : w0.cell? ⟨w.heap.size, 4, none⟩ = some (.int .i64 (f.A : Int)) := by subst hW0; go_simp
    have q5 : w0.cell? ⟨w.heap.size + 1, 0, none⟩ = some (.slice A1 n1 c1) := by subst hW0; go_simp
    have q6 : w0.cell? ⟨w.heap.size + 1, 1, none⟩ = some (.slice A2 n2 c2) := by subst hW0; go_simp
    have q7 : w0.cell? ⟨w.heap.size + 1, 2, none⟩ = some (.slice A3 n3 c3) := by subst hW0; go_simp
    have q8 : w0.cell? ⟨w.heap.size + 1 + 1, 0, none⟩ = some (.int .u32 (layer : Int)) := by subst hW0; go_simp
    have q9 : w0.cell? ⟨w.heap.size + 1 + 1, 1, none⟩ = some (.int .u64 (tree : Int)) := by subst hW0; go_simp
    have q10 : w0.cell? ⟨w.heap.size + 1 + 1, 2, none⟩ = some (.int .u32 0) := by subst hW0; go_simp
    have q11 : w0.cell? ⟨w.heap.size + 1 + 1, 3, none⟩ = some (.int .u32 0) := by subst hW0; go_simp
    have q12 : w0.cell? ⟨w.heap.size + 1 + 1, 4, none⟩ = some (.int .u32 0) := by subst hW0; go_simp
    have q13 : w0.cell? ⟨w.heap.size + 1 + 1, 5, none⟩ = some (.int .u32 0) := by subst hW0; go_simp
    have qf2 : w0.frozen? ⟨w.heap.size + 1 + 1, 2, none⟩ = false := by subst hW0; go_simp
    have qf4 : w0.frozen? ⟨w.heap.size + 1 + 1, 4, none⟩ = false := by subst hW0; go_simp
    have qf5 : w0.frozen? ⟨w.heap.size + 1 + 1, 5, none⟩ = false := by subst hW0; go_simp
    have HG0 := Lib.hid hb0
    clear hW0 hb0
    refine (IH0.out w0 (HM.out.below HG0.out)).mono ?_
    rintro e wa ⟨Aa, na, ca, rfl, ha, ga⟩
    obtain rfl : f.N = na := by rw [← ha.len]; exact HL0.out.symm
    have HGA : Hid (Grow w0 wa) := Lib.hid ga
    have HA := Lib.hid ha.rd
    have p0 := cell_old ga q0; have p1 := cell_old ga q1; have p2 := cell_old ga q2; have p3 := cell_old ga q3; have p4 := cell_old ga q4; have p5 := cell_old ga q5; have p6 := cell_old ga q6; have p7 := cell_old ga q7
    clear ha ga
    go_wp2_with fail
    refine (IH1.out wa (HM.out.below (Below.trans HG0.out (HGA.out.mono HG0.out.size)))).mono ?_
    rintro e wb ⟨Ab, nb, cb, rfl, hb, gb⟩
    obtain rfl : f.N = nb := by rw [← hb.len]; exact HL1.out.symm
    have HGB : Hid (Grow w0 wb) := Lib.hid (Below.trans HGA.out (gb.mono HGA.out.size))
    have HB := Lib.hid hb.rd
    have HA2 := Lib.hid (HA.out.below gb)
    have HO0 : Hid (Own eB w0.heap.size wb none 0 0 []) := Lib.hid (Own.nil _ _)
    have hsb := HGB.out.size
    clear hb gb HA p0 p1 p2 p3 p4 p5 p6 p7
    go_wp2_with (at_builtin; first | (refine wpList_append_sl rfl _ _ 24 5 (.int .u8 0) 1 rfl Tryz.underlying24 infoB rfl (fun _ => rfl) rfl rfl HO0.out HA2.out (by omega) (by omega) hsb ?_; intro A5 c5 w5 h1 h2 h3; have H1 : Hid (Own eB w0.heap.size w5 A5 f.N c5 lt) := Lib.hid (by simpa using h1); have HB2 := Lib.hid (HB.out.kept h2 (fun r e => by cases e)); have H3 : Hid (Grow w0 w5) := Lib.hid (Below.trans HGB.out h3); have hs5 := H3.out.size; clear h1 h2 h3 HO0 HA2) | (refine wpList_append_sl rfl _ _ 24 5 (.int .u8 0) 1 rfl Tryz.underlying24 infoB rfl (fun _ => rfl) rfl rfl H1.out HB2.out (by omega) (by omega) hs5 ?_; intro A6 c6 w6 h1 h2 h3; have H6 := Lib.hid h1; have H7 : Hid (Grow w0 w6) := Lib.hid (Below.trans H3.out h3); have x0 := cell_old H7.out q0; have x1 := cell_old H7.out q1; have x2 := cell_old H7.out q2; have x3 := cell_old H7.out q3; have x4 := cell_old H7.out q4; have x5 := cell_old H7.out q5; have x6 := cell_old H7.out q6; have x7 := cell_old H7.out q7; have x8 := cell_old H7.out q8; have x9 := cell_old H7.out q9; have x10 := cell_old H7.out q10; have x11 := cell_old H7.out q11; have x12 := cell_old H7.out q12; have x13 := cell_old H7.out q13; have xf := (fun k => World.frozen?_of_block (w := w0) (w' := w6) (a := ⟨w.heap.size + 1 + 1, k, none⟩) (H7.out.block _ (by show w.heap.size + 1 + 1 < w0.heap.size; omega))); have xf2 := (xf 2).trans qf2; have xf4 := (xf 4).trans qf4; have xf5 := (xf 5).trans qf5; clear xf h1 h2 h3 H1 HB2 H3))
    generalize hW6 : World.setCell (World.setCell (World.setCell w6 _ _) _ _) _ _ = w7
    have hb7 : Below w.heap.size w w7 := by
      rw [← hW6]
      exact (((Below.trans HG0.out (H7.out.mono HG0.out.size)).setCell (p := ⟨w.heap.size + 1 + 1, 2, none⟩) (by show w.heap.size ≤ w.heap.size + 1 + 1; omega) _).setCell (p := ⟨w.heap.size + 1 + 1, 4, none⟩) (by show w.heap.size ≤ w.heap.size + 1 + 1; omega) _).setCell (p := ⟨w.heap.size + 1 + 1, 5, none⟩) (by show w.heap.size ≤ w.heap.size + 1 + 1; omega) _
    have hne : A6 ≠ some ⟨w.heap.size + 1 + 1, 0, none⟩ := by
      intro e
      have h0 : 0 < c6 := by have h1 := H6.out.nc; omega
      have h9 := (H6.out.lt _ e h0).1
      omega
    have ho7 : Own eB w0.heap.size w7 A6 (f.N + f.N) c6 (lt ++ rt) := by
      rw [← hW6]
      exact ((H6.out.set_other ⟨w.heap.size + 1 + 1, 2, none⟩ _ hne).set_other ⟨w.heap.size + 1 + 1, 4, none⟩ _ hne).set_other ⟨w.heap.size + 1 + 1, 5, none⟩ _ hne
    have HC := Lib.hid (rtweak_any f.N A3 A6 n3 c3 (f.N + f.N) c6 m.seed (lt ++ rt) ⟨layer, tree, 2, 0, g + 1, i⟩ w7 HM.out.ok.N (HM.out.r3.below hb7) HM.out.seed ho7.rd (by rw [List.length_append, HL0.out, HL1.out]; omega) ⟨HM.out.layer, HM.out.tree, by show (2 : Nat) < _; omega, by show (0 : Nat) < _; omega, by show g + 1 < _; omega, by show i < _; omega⟩)
    unfold vAd at HC
    dsimp only at HC
    rw [show ((g + 1 : Nat) : Int) = (g : Int) + 1 by omega] at HC
    have HB7 := Lib.hid hb7
    clear hW6 hb7 ho7 hne x0 x1 x2 x3 x4 x5 x6 x7 x8 x9 x10 x11 x12 x13 xf2 xf4 xf5
    refine HC.out.mono ?_
    rintro e w8 ⟨A8, n8, c8, rfl, h5, h6⟩
    have H5 := Lib.hid (h5.mono HB7.out.size)
    have H8 := Lib.hid (Below.trans HB7.out (h6.mono HB7.out.size))
    clear h5 h6 HC
    go_wp2
    go_ret
    exact ⟨_, _, _, rfl, by rw [HRES.out]; exact H5.out, H8.out⟩

theorem Ground.rgr {f : Few} {m : Sec} {A1 A2 A3 : Option Addr} {n1 n2 n3 : Nat} {w : World} (h : Ground f m A1 A2 A3 n1 n2 n3 w) {layer tree : Nat} (hl : layer < 4294967296) (ht : W64 tree) : RGr f m A1 A3 n1 n3 layer tree w := ⟨h.ok.ok, h.ok.secret, h.ok.seed, hl, ht, h.r1, h.r3⟩

set_option maxHeartbeats 2000000 in
theorem rroot_any (f : Few) (m : Sec) (A1 A2 A3 : Option Addr) (n1 n2 n3 c1 c2 c3 layer tree : Nat) (w : World) (hM : Ground f m A1 A2 A3 n1 n2 n3 w) (hl : layer < f.L) (ht : W64 tree) :
    Calls Tryz.prog 14 #[vFew f, vSec A1 A2 A3 n1 n2 n3 c1 c2 c3, .int .u32 (layer : Int), .int .u64 (tree : Int)] w (RetOwn eB w (rootL f m layer tree)) := by
  have HM := Lib.hid hM
  have HT := Lib.hid ht
  have hH := hM.ok.H
  have hL := hM.ok.ok.L2
  have HC1 := Lib.hid (fun W => hM.made ▸ rmade_any f.N f.L f.H f.K f.A A1 A2 A3 n1 n2 n3 c1 c2 c3 W)
  have HC2 := Lib.hid (fun W (hW : Below w.heap.size w W) => rsum_any f m A1 A2 A3 n1 n2 n3 c1 c2 c3 layer tree f.H 0 W ((HM.out.below hW).rgr (by omega) ht) (by have : 2 ^ f.H ≤ 2 ^ 6 := Nat.pow_le_pow_right (by omega) hH; omega) (by omega))
  have e1 : (f.L : Int) % 18446744073709551616 = (f.L : Int) := by omega
  have hlt : (layer : Int) < (f.L : Int) := by omega
  clear hM ht
  unfold vFewI vSec at HC1
  unfold vFew vSec at *
  go_enter Tryz.func14, Tryz.ntmps14
  go_wp2_with fail
  refine (HC1.out _).mono ?_
  rintro e w1 ⟨rfl, hB⟩
  have k0 : w1.cell? ⟨w.heap.size, 0, none⟩ = some (.int .i64 (f.N : Int)) := (hB.cell (by simp; omega)).trans (by go_simp)
  have k1 : w1.cell? ⟨w.heap.size, 1, none⟩ = some (.int .i64 (f.L : Int)) := (hB.cell (by simp; omega)).trans (by go_simp)
  have k2 : w1.cell? ⟨w.heap.size, 2, none⟩ = some (.int .i64 (f.H : Int)) := (hB.cell (by simp; omega)).trans (by go_simp)
  have k3 : w1.cell? ⟨w.heap.size, 3, none⟩ = some (.int .i64 (f.K : Int)) := (hB.cell (by simp; omega)).trans (by go_simp)
  have k4 : w1.cell? ⟨w.heap.size, 4, none⟩ = some (.int .i64 (f.A : Int)) := (hB.cell (by simp; omega)).trans (by go_simp)
  have k5 : w1.cell? ⟨w.heap.size + 1, 0, none⟩ = some (.slice A1 n1 c1) := (hB.cell (by simp)).trans (by go_simp)
  have k6 : w1.cell? ⟨w.heap.size + 1, 1, none⟩ = some (.slice A2 n2 c2) := (hB.cell (by simp)).trans (by go_simp)
  have k7 : w1.cell? ⟨w.heap.size + 1, 2, none⟩ = some (.slice A3 n3 c3) := (hB.cell (by simp)).trans (by go_simp)
  have hG : Below w.heap.size w w1 := (((Below.refl _ w).alloc (Nat.le_refl _) _).alloc (by simp) _).trans (hB.mono (by simp; omega))
  have HG := Lib.hid hG
  clear hB hG
  go_wp2_with fail
  refine (HC2.out w1 HG.out).mono ?_
  rintro e w2 ⟨A8, n8, c8, rfl, h5, h6⟩
  have H5 := Lib.hid (h5.mono HG.out.size)
  have H8 := Lib.hid (Below.trans HG.out (h6.mono HG.out.size))
  clear h5 h6 k0 k1 k2 k3 k4 k5 k6 k7
  go_wp2
  go_ret
  exact ⟨_, _, _, rfl, H5.out, H8.out⟩
end Go.Proofs.Sl

/- The document's SLH: a tree's root where there is none; the public key. -/
namespace Go.Proofs.Sl
open Go.RowKit Go.Proofs

set_option maxHeartbeats 1000000 in
theorem rroot_beyond (f : Few) (m : Sec) (A1 A2 A3 : Option Addr) (n1 n2 n3 c1 c2 c3 layer tree : Nat) (w : World) (hM : Ground f m A1 A2 A3 n1 n2 n3 w) (hl : f.L ≤ layer) (hl2 : layer < 4294967296) :
    Calls Tryz.prog 14 #[vFew f, vSec A1 A2 A3 n1 n2 n3 c1 c2 c3, .int .u32 (layer : Int), .int .u64 (tree : Int)] w (RetV w (.slice none 0 0)) := by
  have HM := Lib.hid hM
  have hL := hM.ok.ok.L2
  have e1 : (f.L : Int) % 18446744073709551616 = (f.L : Int) := by omega
  have hge : (f.L : Int) ≤ (layer : Int) := by omega
  clear hM
  unfold vFew vSec
  go_enter Tryz.func14, Tryz.ntmps14
  go_wp2_with fail
  have HC := Lib.hid (rmade_any f.N f.L f.H f.K f.A A1 A2 A3 n1 n2 n3 c1 c2 c3 ((w.alloc (.cells #[.int .i64 (f.N : Int), .int .i64 (f.L : Int), .int .i64 (f.H : Int), .int .i64 (f.K : Int), .int .i64 (f.A : Int)] 23)).alloc (.cells #[.slice A1 n1 c1, .slice A2 n2 c2, .slice A3 n3 c3] 26)))
  rw [HM.out.made] at HC
  unfold vFewI vSec at HC
  refine HC.out.mono ?_
  rintro e W0 ⟨rfl, hB⟩
  have k0 : W0.cell? ⟨w.heap.size, 0, none⟩ = some (.int .i64 (f.N : Int)) := (hB.cell (by simp; try omega)).trans (by go_simp)
  have k1 : W0.cell? ⟨w.heap.size, 1, none⟩ = some (.int .i64 (f.L : Int)) := (hB.cell (by simp; try omega)).trans (by go_simp)
  have k2 : W0.cell? ⟨w.heap.size, 2, none⟩ = some (.int .i64 (f.H : Int)) := (hB.cell (by simp; try omega)).trans (by go_simp)
  have k3 : W0.cell? ⟨w.heap.size, 3, none⟩ = some (.int .i64 (f.K : Int)) := (hB.cell (by simp; try omega)).trans (by go_simp)
  have k4 : W0.cell? ⟨w.heap.size, 4, none⟩ = some (.int .i64 (f.A : Int)) := (hB.cell (by simp; try omega)).trans (by go_simp)
  have k5 : W0.cell? ⟨w.heap.size + 1, 0, none⟩ = some (.slice A1 n1 c1) := (hB.cell (by simp; try omega)).trans (by go_simp)
  have k6 : W0.cell? ⟨w.heap.size + 1, 1, none⟩ = some (.slice A2 n2 c2) := (hB.cell (by simp; try omega)).trans (by go_simp)
  have k7 : W0.cell? ⟨w.heap.size + 1, 2, none⟩ = some (.slice A3 n3 c3) := (hB.cell (by simp; try omega)).trans (by go_simp)
  have hb0 : Below w.heap.size w W0 := ((((Below.refl _ w).alloc (Nat.le_refl _) _).alloc (by simp) _).trans (hB.mono (by simp; omega)))
  clear hB HC
  go_wp2
  go_ret
  exact ⟨rfl, hb0⟩

set_option maxHeartbeats 1000000 in
theorem rroot_no (N L H K A : Int) (A1 A2 A3 : Option Addr) (n1 n2 n3 c1 c2 c3 : Nat) (layer tree : Nat) (w : World) (h : madeI N L H K A n1 n2 n3 = false) :
    Calls Tryz.prog 14 #[vFewI N L H K A, vSec A1 A2 A3 n1 n2 n3 c1 c2 c3, .int .u32 (layer : Int), .int .u64 (tree : Int)] w (RetV w (.slice none 0 0)) := by
  have HM := Lib.hid (fun w => h ▸ rmade_any N L H K A A1 A2 A3 n1 n2 n3 c1 c2 c3 w)
  unfold vFewI vSec at *
  go_enter Tryz.func14, Tryz.ntmps14
  go_wp2_with fail
  refine (HM.out _).mono ?_
  rintro e w1 ⟨rfl, hB⟩
  have g1 : Grow w w1 := (((Below.refl _ w).alloc (Nat.le_refl _) _).alloc (by simp) _).trans (hB.mono (by simp; omega))
  clear hB
  go_wp2
  go_ret
  exact ⟨rfl, g1⟩

set_option maxHeartbeats 4000000 in
theorem rpublic_any (f : Few) (m : Sec) (A1 A2 A3 : Option Addr) (n1 n2 n3 c1 c2 c3 : Nat) (w : World) (hM : Ground f m A1 A2 A3 n1 n2 n3 w) :
    Calls Tryz.prog 12 #[vFew f, vSec A1 A2 A3 n1 n2 n3 c1 c2 c3] w (RetOwn eB w (publicL f m)) := by
  have HM := Lib.hid hM
  have hL := hM.ok.ok.L2
  have hL1 := hM.ok.ok.L1
  have hN1 := hM.ok.ok.N.pos'
  have hN := hM.ok.ok.N.le'
  have e1 : ((f.L : Int) - 1) % 4294967296 = (f.L : Int) - 1 := by omega
  clear hM
  unfold vFew vSec
  go_enter Tryz.func12, Tryz.ntmps12
  go_wp2_with fail
  have HC := Lib.hid (rmade_any f.N f.L f.H f.K f.A A1 A2 A3 n1 n2 n3 c1 c2 c3 ((w.alloc (.cells #[.int .i64 (f.N : Int), .int .i64 (f.L : Int), .int .i64 (f.H : Int), .int .i64 (f.K : Int), .int .i64 (f.A : Int)] 23)).alloc (.cells #[.slice A1 n1 c1, .slice A2 n2 c2, .slice A3 n3 c3] 26)))
  rw [HM.out.made] at HC
  unfold vFewI vSec at HC
  refine HC.out.mono ?_
  rintro e W0 ⟨rfl, hB⟩
  have k0 : W0.cell? ⟨w.heap.size, 0, none⟩ = some (.int .i64 (f.N : Int)) := (hB.cell (by simp; try omega)).trans (by go_simp)
  have k1 : W0.cell? ⟨w.heap.size, 1, none⟩ = some (.int .i64 (f.L : Int)) := (hB.cell (by simp; try omega)).trans (by go_simp)
  have k2 : W0.cell? ⟨w.heap.size, 2, none⟩ = some (.int .i64 (f.H : Int)) := (hB.cell (by simp; try omega)).trans (by go_simp)
  have k3 : W0.cell? ⟨w.heap.size, 3, none⟩ = some (.int .i64 (f.K : Int)) := (hB.cell (by simp; try omega)).trans (by go_simp)
  have k4 : W0.cell? ⟨w.heap.size, 4, none⟩ = some (.int .i64 (f.A : Int)) := (hB.cell (by simp; try omega)).trans (by go_simp)
  have k5 : W0.cell? ⟨w.heap.size + 1, 0, none⟩ = some (.slice A1 n1 c1) := (hB.cell (by simp; try omega)).trans (by go_simp)
  have k6 : W0.cell? ⟨w.heap.size + 1, 1, none⟩ = some (.slice A2 n2 c2) := (hB.cell (by simp; try omega)).trans (by go_simp)
  have k7 : W0.cell? ⟨w.heap.size + 1, 2, none⟩ = some (.slice A3 n3 c3) := (hB.cell (by simp; try omega)).trans (by go_simp)
  have hb0 : Below w.heap.size w W0.drew := ((((Below.refl _ w).alloc (Nat.le_refl _) _).alloc (by simp) _).trans (hB.mono (by simp; omega))).drew
  clear hB HC
  go_wp2
  refine wp_region_rg Grow 20 11 8 [[], [], [], [], [], [], [], [], [], [8], [9]]
    [.still [] (.pointer (some ⟨w.heap.size + 1, 2, none⟩)), .still [] (.slice A3 n3 c3), .still [] (.agg #[.int .i64 (f.N : Int), .int .i64 (f.L : Int), .int .i64 (f.H : Int), .int .i64 (f.K : Int), .int .i64 (f.A : Int)]), .still [] (.agg #[.slice A1 n1 c1, .slice A2 n2 c2, .slice A3 n3 c3]), .still [] (.pointer (some ⟨w.heap.size, 1, none⟩)), .still [] (.int .i64 (f.L : Int)), .still [] (.int .i64 ((f.L : Int) - 1)), .still [] (.int .u32 ((f.L : Int) - 1)), .grow [] (OwnV eB 0 (rootL f m (f.L - 1) 0)), .grow [8] (PartsV [m.seed, rootL f m (f.L - 1) 0]), .grow [9] (OwnV eB w.heap.size (publicL f m))] (by kernel_rfl) (by kernel_rfl) rfl rfl rfl Grow.trans (Grow.refl _) ?_
  refine Obl.still (fun W hg _ => ?_) ?_
  · have c0 := cell_old hg k0; have c1 := cell_old hg k1; have c2 := cell_old hg k2; have c3 := cell_old hg k3; have c4 := cell_old hg k4; have c5 := cell_old hg k5; have c6 := cell_old hg k6; have c7 := cell_old hg k7; clear hg k0 k1 k2 k3 k4 k5 k6 k7
    go_wp2
    exact ⟨rfl, rfl, rfl, Grow.refl _⟩
  simp only [Act.put, List.setIfInBounds_toArray, List.set_cons_zero, List.set_cons_succ]
  refine Obl.still (fun W hg _ => ?_) ?_
  · have c0 := cell_old hg k0; have c1 := cell_old hg k1; have c2 := cell_old hg k2; have c3 := cell_old hg k3; have c4 := cell_old hg k4; have c5 := cell_old hg k5; have c6 := cell_old hg k6; have c7 := cell_old hg k7; clear hg k0 k1 k2 k3 k4 k5 k6 k7
    go_wp2
    exact ⟨rfl, rfl, rfl, Grow.refl _⟩
  simp only [Act.put, List.setIfInBounds_toArray, List.set_cons_zero, List.set_cons_succ]
  refine Obl.still (fun W hg _ => ?_) ?_
  · have c0 := cell_old hg k0; have c1 := cell_old hg k1; have c2 := cell_old hg k2; have c3 := cell_old hg k3; have c4 := cell_old hg k4; have c5 := cell_old hg k5; have c6 := cell_old hg k6; have c7 := cell_old hg k7; clear hg k0 k1 k2 k3 k4 k5 k6 k7
    go_wp2
    exact ⟨rfl, rfl, rfl, Grow.refl _⟩
  simp only [Act.put, List.setIfInBounds_toArray, List.set_cons_zero, List.set_cons_succ]
  refine Obl.still (fun W hg _ => ?_) ?_
  · have c0 := cell_old hg k0; have c1 := cell_old hg k1; have c2 := cell_old hg k2; have c3 := cell_old hg k3; have c4 := cell_old hg k4; have c5 := cell_old hg k5; have c6 := cell_old hg k6; have c7 := cell_old hg k7; clear hg k0 k1 k2 k3 k4 k5 k6 k7
    go_wp2
    exact ⟨rfl, rfl, rfl, Grow.refl _⟩
  simp only [Act.put, List.setIfInBounds_toArray, List.set_cons_zero, List.set_cons_succ]
  refine Obl.still (fun W hg _ => ?_) ?_
  · have c0 := cell_old hg k0; have c1 := cell_old hg k1; have c2 := cell_old hg k2; have c3 := cell_old hg k3; have c4 := cell_old hg k4; have c5 := cell_old hg k5; have c6 := cell_old hg k6; have c7 := cell_old hg k7; clear hg k0 k1 k2 k3 k4 k5 k6 k7
    go_wp2
    exact ⟨rfl, rfl, rfl, Grow.refl _⟩
  simp only [Act.put, List.setIfInBounds_toArray, List.set_cons_zero, List.set_cons_succ]
  refine Obl.still (fun W hg _ => ?_) ?_
  · have c0 := cell_old hg k0; have c1 := cell_old hg k1; have c2 := cell_old hg k2; have c3 := cell_old hg k3; have c4 := cell_old hg k4; have c5 := cell_old hg k5; have c6 := cell_old hg k6; have c7 := cell_old hg k7; clear hg k0 k1 k2 k3 k4 k5 k6 k7
    go_wp2
    exact ⟨rfl, rfl, rfl, Grow.refl _⟩
  simp only [Act.put, List.setIfInBounds_toArray, List.set_cons_zero, List.set_cons_succ]
  refine Obl.still (fun W hg _ => ?_) ?_
  · have c0 := cell_old hg k0; have c1 := cell_old hg k1; have c2 := cell_old hg k2; have c3 := cell_old hg k3; have c4 := cell_old hg k4; have c5 := cell_old hg k5; have c6 := cell_old hg k6; have c7 := cell_old hg k7; clear hg k0 k1 k2 k3 k4 k5 k6 k7
    go_wp2
    exact ⟨rfl, rfl, rfl, Grow.refl _⟩
  simp only [Act.put, List.setIfInBounds_toArray, List.set_cons_zero, List.set_cons_succ]
  refine Obl.still (fun W hg _ => ?_) ?_
  · have c0 := cell_old hg k0; have c1 := cell_old hg k1; have c2 := cell_old hg k2; have c3 := cell_old hg k3; have c4 := cell_old hg k4; have c5 := cell_old hg k5; have c6 := cell_old hg k6; have c7 := cell_old hg k7; clear hg k0 k1 k2 k3 k4 k5 k6 k7
    go_wp2
    exact ⟨rfl, rfl, rfl, Grow.refl _⟩
  simp only [Act.put, List.setIfInBounds_toArray, List.set_cons_zero, List.set_cons_succ]
  refine Obl.grow (OwnV.keep _ _ _) (fun W hg _ => ?_) (fun v8 => ?_)
  · have HC := Lib.hid (rroot_any f m A1 A2 A3 n1 n2 n3 c1 c2 c3 (f.L - 1) 0 W (HM.out.below (hb0.trans (hg.mono hb0.size))) (by omega) (by unfold W64; omega))
    rw [show ((f.L - 1 : Nat) : Int) = (f.L : Int) - 1 by omega] at HC
    unfold vFew vSec at HC
    clear hg k0 k1 k2 k3 k4 k5 k6 k7
    go_wp2_with fail
    refine (HC.out).mono ?_
    rintro e w' ⟨A1, n1, c1, rfl, h1, h2⟩
    go_wp2
    exact ⟨rfl, rfl, ⟨_, _, _, rfl, h1.mono (Nat.zero_le _)⟩, h2⟩
  simp only [Act.put, List.setIfInBounds_toArray, List.set_cons_zero, List.set_cons_succ]
  refine Obl.grow (PartsV.keep _) (fun W hg ⟨h8, _⟩ => ?_) (fun v9 => ?_)
  · obtain ⟨Ah8, nh8, ch8, rfl, h8⟩ := h8
    have h3 := (HM.out.below (hb0.trans (hg.mono hb0.size))).r3
    clear hg k0 k1 k2 k3 k4 k5 k6 k7
    go_wp2
    exact ⟨rfl, rfl, ⟨_, _, rfl, parts2 (cell_new ..) (cell_new ..) (h3.alloc _) (h8.rd.alloc _)⟩, (Below.refl _ _).alloc (Nat.le_refl _) _⟩
  simp only [Act.put, List.setIfInBounds_toArray, List.set_cons_zero, List.set_cons_succ]
  refine Obl.grow (OwnV.keep _ _ _) (fun W hg ⟨h9, _⟩ => ?_) (fun v10 => ?_)
  · obtain ⟨bh9, nh9, rfl, h9⟩ := h9
    have hnn : nh9 = 2 := by rw [← h9.len]; rfl
    subst hnn
    have hfl : [m.seed, rootL f m (f.L - 1) 0].flatten = publicL f m := by simp [publicL]
    have hln := publicL_length f m HM.out.ok
    have HC := Lib.hid (rcat_any (some ⟨bh9, 0, none⟩) 2 2 _ W h9 (by rw [hfl, hln]; omega))
    rw [hfl] at HC
    have hsz : w.heap.size ≤ W.heap.size := Nat.le_trans hb0.size hg.size
    clear hfl hln
    clear hg k0 k1 k2 k3 k4 k5 k6 k7
    go_wp2_with fail
    refine (HC.out).mono ?_
    rintro e w' ⟨A1, n1, c1, rfl, h1, h2⟩
    go_wp2
    exact ⟨rfl, rfl, ⟨_, _, _, rfl, h1.mono hsz⟩, h2⟩
  simp only [Act.put, List.setIfInBounds_toArray, List.set_cons_zero, List.set_cons_succ]
  refine Obl.done (fun W hg hall => ?_)
  obtain ⟨h10, _⟩ := hall
  obtain ⟨A', n', c', rfl, h10⟩ := h10
  have hB := hb0.trans (hg.mono hb0.size)
  clear hg k0 k1 k2 k3 k4 k5 k6 k7 hb0
  go_wp2
  go_ret
  exact ⟨_, _, _, rfl, h10, hB⟩

set_option maxHeartbeats 1000000 in
theorem rpublic_no (N L H K A : Int) (A1 A2 A3 : Option Addr) (n1 n2 n3 c1 c2 c3 : Nat) (w : World) (h : madeI N L H K A n1 n2 n3 = false) :
    Calls Tryz.prog 12 #[vFewI N L H K A, vSec A1 A2 A3 n1 n2 n3 c1 c2 c3] w (RetV w (.slice none 0 0)) := by
  have HM := Lib.hid (fun w => h ▸ rmade_any N L H K A A1 A2 A3 n1 n2 n3 c1 c2 c3 w)
  unfold vFewI vSec at *
  go_enter Tryz.func12, Tryz.ntmps12
  go_wp2_with fail
  refine (HM.out _).mono ?_
  rintro e w1 ⟨rfl, hB⟩
  have g1 : Grow w w1 := (((Below.refl _ w).alloc (Nat.le_refl _) _).alloc (by simp) _).trans (hB.mono (by simp; omega))
  clear hB
  go_wp2
  go_ret
  exact ⟨rfl, g1⟩
end Go.Proofs.Sl

/- slh: what is told of a text, its tree and its leaf. -/
namespace Go.Proofs.Sl
open Go.RowKit Go.Proofs

def DigEnd (f : Few) (d : List UInt8) (w : World) (e : Ending) (w' : World) : Prop :=
  ∃ A, e = .returned (.tuple #[.slice A (pA f) (pA f), .int .u64 (treeOf f d : Int), .int .u32 (leafOf f d : Int)]) ∧ Rd eB w' A (pA f) (d.take (pA f)) ∧ Grow w w'
theorem pA_pos {f : Few} (hf : FewOk f) : 1 ≤ pA f := by
  have : 1 * 1 ≤ f.K * f.A := Nat.mul_le_mul hf.K1 hf.A1
  unfold pA wholeB; omega
theorem pC_pos {f : Few} (hf : FewOk f) : 1 ≤ pC f := by have := hf.H1; unfold pC wholeB; omega
set_option maxHeartbeats 1000000 in
theorem digest_any (f : Few) (hf : FewOk f) (A1 A2 A3 : Option Addr) (n1 n2 n3 c1 c2 c3 : Nat) (salt pub text : List UInt8) (w : World) (hL : Laid w) (h1 : Rd eB w A1 n1 salt) (h2 : Rd eB w A2 n2 pub) (h3 : Rd eB w A3 n3 text) (h0 : 0 < salt.length) (hl : (salt ++ pub ++ text).length ≤ 1048576) :
    Calls Tryz.prog 28 #[vFew f, .slice A1 n1 c1, .slice A2 n2 c2, .slice A3 n3 c3] w (DigEnd f (digestL f salt pub text) w) := by
  have HP := Lib.hid (fun w => parts_any f hf w)
  have HW := Lib.hid (fun A n c l w hr hc hcb => where_any f hf A n c l w hr hc hcb)
  have HH := Lib.hid (And.intro hL (And.intro h1 (And.intro h2 h3)))
  have HZ := Lib.hid (And.intro h0 hl)
  have hA := pA_le hf
  have hB8 := pB_le hf
  have hC2 := pC_le hf
  have hC1 := pC_pos hf
  clear hL h1 h2 h3 h0 hl hf
  unfold vFew at HP HW ⊢
  go_enter Tryz.func28, Tryz.ntmps28
  go_wp2_with fail
  refine (HP.out _).mono ?_
  rintro e W0 ⟨rfl, hB⟩
  have hB' := cell_box f (by simpa using hB)
  clear hB HP
  obtain ⟨k0, k1, k2, k3, k4, g0⟩ := hB'
  obtain ⟨hL, h1, h2, h3⟩ := HH.out
  obtain ⟨h0, hl⟩ := HZ.out
  have ga : Below W0.heap.size W0 (W0.alloc (.cells #[.slice A1 n1 c1, .slice A2 n2 c2, .slice A3 n3 c3] 24)) := (Below.refl _ _).alloc (Nat.le_refl _) _
  have g1 := g0.trans (ga.mono g0.size)
  have HC := Lib.hid (cat_any W0.heap.size 0 3 3 [salt, pub, text] _ (parts3 (B := W0.heap.size) (c1 := c1) (c2 := c2) (c3 := c3) (w := W0.alloc (.cells #[.slice A1 n1 c1, .slice A2 n2 c2, .slice A3 n3 c3] 24)) (cell_new ..) (cell_new ..) (cell_new ..) (h1.below g1) (h2.below g1) (h3.below g1)) (by omega) (Nat.le_refl _) (by simp; omega) (by simp at hl ⊢; omega))
  replace k0 := cell_old ga k0; replace k1 := cell_old ga k1; replace k2 := cell_old ga k2; replace k3 := cell_old ga k3; replace k4 := cell_old ga k4
  have HK := Lib.hid (And.intro k0 (And.intro k1 (And.intro k2 (And.intro k3 k4))))
  have HG := Lib.hid g1
  have HLL := Lib.hid (hL.below g1)
  have hfl : [salt, pub, text].flatten = salt ++ pub ++ text := by simp
  rw [hfl] at HC
  clear k0 k1 k2 k3 k4 ga g1 g0 hL h1 h2 h3 hfl h0 hl
  go_wp2_with fail
  refine HC.out.mono ?_
  rintro e w2 ⟨Ac, nc, cc, rfl, hc, gc⟩
  have HS := shake_any Ac nc cc _ (pA f + pB f + pC f) w2 (HLL.out.below gc) hc.rd HZ.out.2 (by omega) (by omega)
  have ecast : ((pA f + pB f + pC f : Nat) : Int) = (pA f : Int) + (pB f : Int) + (pC f : Int) := by omega
  rw [ecast] at HS
  have HSH := Lib.hid HS
  have HG2 := Lib.hid (HG.out.trans (gc.mono HG.out.size))
  obtain ⟨k0, k1, k2, k3, k4⟩ := HK.out
  replace k0 := cell_old gc k0; replace k1 := cell_old gc k1; replace k2 := cell_old gc k2; replace k3 := cell_old gc k3; replace k4 := cell_old gc k4
  have HK2 := Lib.hid (And.intro k0 (And.intro k1 (And.intro k2 (And.intro k3 k4))))
  clear HC HK HG HLL hc gc HS ecast k0 k1 k2 k3 k4
  go_wp2_with fail
  refine HSH.out.mono ?_
  rintro e w3 ⟨Ad, nd, cd, rfl, hd, gd⟩
  obtain ⟨d, hdd⟩ : ∃ d, digestL f salt pub text = d := ⟨_, rfl⟩
  have hd2 : Own eB w2.heap.size w3 Ad nd cd d := by rw [← hdd]; exact hd
  have hdl : d.length = pA f + pB f + pC f := by rw [← hdd]; exact shakeL_length _ _ (by omega)
  have hnd : nd = pA f + pB f + pC f := by rw [← hd2.len, hdl]
  obtain ⟨k0, k1, k2, k3, k4⟩ := HK2.out
  replace k0 := cell_old gd k0; replace k1 := cell_old gd k1; replace k2 := cell_old gd k2; replace k3 := cell_old gd k3; replace k4 := cell_old gd k4
  have HWW := Lib.hid (HW.out Ad nd cd d w3 hd2.rd hd2.nc hd2.cm)
  have HG3 := Lib.hid (HG2.out.trans (gd.mono HG2.out.size))
  have HDD := Lib.hid hdd
  have HD := Lib.hid hd2
  have hnc := hd2.nc
  have hcm := hd2.cm
  have hwv : whereV f nd d = .tuple #[.int .u64 (treeOf f d : Int), .int .u32 (leafOf f d : Int), .bool true] := if_pos hnd
  rw [hwv] at HWW
  have HND := Lib.hid hnd
  have hle : pA f ≤ cd := by omega
  clear hd hd2 hdd hdl gd hwv HK2 HG2 HSH hnd hnc
  go_wp2_with fail
  refine HWW.out.mono ?_
  rintro e w4 ⟨rfl, g4⟩
  have HG4 := Lib.hid (HG3.out.trans (g4.mono HG3.out.size))
  have HR := Lib.hid ((HD.out.rd.below g4).take (pA f) (by rw [HND.out]; omega))
  clear g4 k0 k1 k2 k3 k4 HWW HG3
  go_wp2
  refine bodyPost_ret (v := .tuple #[_, _, _]) (by simp [results, Tryz.f28, go_sem]; exact ⟨rfl, rfl, rfl⟩) rfl ⟨Ad, ?_, ?_, HG4.out⟩
  · rw [HDD.out]
  · rw [HDD.out]; exact HR.out
end Go.Proofs.Sl
