/- The document's round of Keccak. The document's Keccak: its constants; a state turned about. The document's SHAKE256, plain part: what lies in the state and in the result between two steps of its loops. -/
import Derived.Test.YtipedpkkabfdjaaGreatDoorFits07
import Derived.BigRegion
import Derived.Test.YtipedpkkabfdjaaGreatDoorFits06
/- The document's round of Keccak. -/
namespace Go.Proofs.Sl
open Go Go.RowKit Go.Proofs

theorem ne_block {a b : Nat} (h : a ≠ b) : (some ⟨a, 0, none⟩ : Option Addr) ≠ some ⟨b, 0, none⟩ := fun e => by injection e with e; injection e with e; exact h e
/-- The arrays of the loops: the state, the result, the columns (or what is turned about). -/
structure SR (m : Nat) (w : World) (b2 b4 b5 : Nat) (zs S C : List UInt64) (wr : World) : Prop where
  n1 : b2 ≠ b4
  n2 : b2 ≠ b5
  n3 : b4 ≠ b5
  s : Own eQ w.heap.size wr (some ⟨b2, 0, none⟩) 25 25 S
  z : Own eQ w.heap.size wr (some ⟨b4, 0, none⟩) 25 25 zs
  c : Own eQ w.heap.size wr (some ⟨b5, 0, none⟩) m m C
  b : Below w.heap.size w wr
theorem SR.setS {m : Nat} {w : World} {b2 b4 b5 : Nat} {zs S C : List UInt64} {wr : World} (h : SR m w b2 b4 b5 zs S C wr) (k : Nat) (hk : k < 25) (v : UInt64) : SR m w b2 b4 b5 zs (S.set k v) C (wr.setCell ⟨b2, k, none⟩ (eQ v)) :=
  ⟨h.n1, h.n2, h.n3, h.s.set k hk v, h.z.set_other ⟨b2, k, none⟩ _ (ne_block (Ne.symm h.n1)), h.c.set_other ⟨b2, k, none⟩ _ (ne_block (Ne.symm h.n2)), h.b.setCell (p := ⟨b2, k, none⟩) h.s.base.1 _⟩
theorem SR.setC {m : Nat} {w : World} {b2 b4 b5 : Nat} {zs S C : List UInt64} {wr : World} (h : SR m w b2 b4 b5 zs S C wr) (k : Nat) (hk : k < m) (v : UInt64) : SR m w b2 b4 b5 zs S (C.set k v) (wr.setCell ⟨b5, k, none⟩ (eQ v)) :=
  ⟨h.n1, h.n2, h.n3, h.s.set_other ⟨b5, k, none⟩ _ (ne_block h.n2), h.z.set_other ⟨b5, k, none⟩ _ (ne_block h.n3), h.c.set k hk v, h.b.setCell (p := ⟨b5, k, none⟩) h.c.base.1 _⟩
theorem SR.grow {m : Nat} {w : World} {b2 b4 b5 : Nat} {zs S C : List UInt64} {wr wr' : World} (h : SR m w b2 b4 b5 zs S C wr) (g : Grow wr wr') : SR m w b2 b4 b5 zs S C wr' := ⟨h.n1, h.n2, h.n3, h.s.below g, h.z.below g, h.c.below g, h.b.trans (g.mono h.b.size)⟩
theorem SR.drewN {m : Nat} {w : World} {b2 b4 b5 : Nat} {zs S C : List UInt64} {wr : World} (h : SR m w b2 b4 b5 zs S C wr) (k : Nat) : SR m w b2 b4 b5 zs S C (wr.drewN k) := h.grow (below_drewN (Below.refl _ _) k)
theorem SR.at {m : Nat} {w : World} {b2 b4 b5 : Nat} {zs S C : List UInt64} {wr : World} (h : SR m w b2 b4 b5 zs S C wr) (k : Nat) (hk : k < 25) : wr.cell? ⟨b2, k, none⟩ = some (.int .u64 ((lane S k).toNat : Int)) := lane_cell h.s k hk

set_option maxHeartbeats 8000000 in
set_option maxRecDepth 100000 in
theorem step_any (st : List UInt64) (rc : Nat) (w : World) (hl : st.length = 25) (hrc : rc < 18446744073709551616) :
    Calls Tryz.prog 104 #[vSt st, .int .u64 (rc : Int)] w (RetV w (vSt (roundL st rc))) := by
  have hz := zero_of_info infoS
  obtain ⟨zs, hzs⟩ : ∃ zs, List.replicate 25 (0 : UInt64) = zs := ⟨_, rfl⟩
  rw [hzs] at hz
  have HZL : Hid (zs.length = 25) := Lib.hid (by rw [← hzs]; simp)
  have HZS := Lib.hid hzs
  have HLL := Lib.hid hl
  have HRC := Lib.hid hrc
  clear hzs hl hrc
  unfold vSt at hz ⊢
  go_enter Tryz.func104, Tryz.ntmps104
  go_wp2_with fail
  have hS0 : SR 5 w w.heap.size (w.heap.size + 1) (w.heap.size + 1 + 1) zs st (colsTo st 0) (((w.alloc (.cells (st.map eQ).toArray 100)).alloc (.cells (zs.map eQ).toArray 100)).alloc (.cells #[.int .u64 0, .int .u64 0, .int .u64 0, .int .u64 0, .int .u64 0] 141)) := by
    refine ⟨by omega, by omega, by omega, ?_, ?_, ?_, (((Below.refl _ _).alloc (Nat.le_refl _) _).alloc (by simp) _).alloc (by simp; omega) _⟩
    · have := Own.new (enc := eQ) (B := w.heap.size) w 100 st (Nat.le_refl _) (by rw [HLL.out]; omega)
      rw [HLL.out] at this
      exact (this.alloc _).alloc _
    · have := Own.new (enc := eQ) (B := w.heap.size) (w.alloc (.cells (st.map eQ).toArray 100)) 100 zs (by simp) (by rw [HZL.out]; omega)
      rw [HZL.out] at this
      simpa using this.alloc (.cells #[.int .u64 0, .int .u64 0, .int .u64 0, .int .u64 0, .int .u64 0] 141)
    · rw [colsTo_zero]
      have := Own.new (enc := eQ) (B := w.heap.size) ((w.alloc (.cells (st.map eQ).toArray 100)).alloc (.cells (zs.map eQ).toArray 100)) 141 (List.replicate 5 0) (by simp; omega) (by simp)
      have hsz : ((w.alloc (.cells (st.map eQ).toArray 100)).alloc (.cells (zs.map eQ).toArray 100)).heap.size = w.heap.size + 1 + 1 := by simp
      rw [hsz] at this
      exact this
  have HS0 := Lib.hid hS0
  clear hS0
  generalize World.alloc (World.alloc (World.alloc w _) _) _ = w0 at *
  obtain ⟨b2, hb2⟩ : ∃ b2, w.heap.size = b2 := ⟨_, rfl⟩
  obtain ⟨b4, hb4⟩ : ∃ b4, w.heap.size + 1 = b4 := ⟨_, rfl⟩
  obtain ⟨b5, hb5⟩ : ∃ b5, w.heap.size + 1 + 1 = b5 := ⟨_, rfl⟩
  have HS1 : Hid (SR 5 w b2 b4 b5 zs st (colsTo st 0) w0) := Lib.hid (by have := HS0.out; rw [hb5, hb4] at this; subst hb2; exact this)
  rw [hb5, hb4, hb2]
  clear HS0 hb2 hb4 hb5
  go_loopw [6] (fun i wr => ∃ x : Nat, x ≤ 5 ∧ i = .int .i64 (x : Int) ∧ SR 5 w b2 b4 b5 zs st (colsTo st x) wr) (fun i _ => 5 - (intOf i).toNat)
  case atStart => exact ⟨0, Nat.zero_le _, rfl, HS1.out⟩
  case round =>
    clear HS1
    obtain ⟨x, hx, rfl, hr⟩ := hrel
    by_cases hlt : x < 5
    · have q0 := hr.at x (by omega)
      have q1 := hr.at (x + 5) (by omega)
      have q2 := hr.at (x + 10) (by omega)
      have q3 := hr.at (x + 15) (by omega)
      have q4 := hr.at (x + 20) (by omega)
      have hcc : colC st x = lane st x ^^^ lane st (x + 5) ^^^ lane st (x + 10) ^^^ lane st (x + 15) ^^^ lane st (x + 20) := rfl
      generalize lane st x = v0 at *
      generalize lane st (x + 5) = v1 at *
      generalize lane st (x + 10) = v2 at *
      generalize lane st (x + 15) = v3 at *
      generalize lane st (x + 20) = v4 at *
      have e1 := xorQ v0 v1
      generalize v0 ^^^ v1 = w1 at *
      have e2 := xorQ w1 v2
      generalize w1 ^^^ v2 = w2 at *
      have e3 := xorQ w2 v3
      generalize w2 ^^^ v3 = w3 at *
      have e4 := xorQ w3 v4
      generalize w3 ^^^ v4 = w4 at *
      have HS := Lib.hid (colsTo_step st x)
      have HR := Lib.hid hr
      have HCX := Lib.hid hcc
      obtain ⟨c0, hc0⟩ := hr.c.some_at x hlt
      have hf0 := hr.c.free_at x hlt
      clear hcc hr
      go_wp2_with fail
      refine wp_region_rg (fun x y : World => x = y) 177 25 30 [[], [], [], [], [], [], [], [], [], [], [], [], [], [], [], [], [], [], [], [], [], [], [], [], []]
        [.still [] (.int .i64 (x : Int)), .still [] (.int .i64 (x : Int)), .still [] (.pointer (some ⟨b2, x, none⟩)), .still [] (.int .u64 ((v0).toNat : Int)), .still [] (.int .i64 (x : Int)), .still [] (.int .i64 ((x : Int) + 5)), .still [] (.pointer (some ⟨b2, (x + 5), none⟩)), .still [] (.int .u64 ((v1).toNat : Int)), .still [] (.int .u64 ((w1).toNat : Int)), .still [] (.int .i64 (x : Int)), .still [] (.int .i64 ((x : Int) + 10)), .still [] (.pointer (some ⟨b2, (x + 10), none⟩)), .still [] (.int .u64 ((v2).toNat : Int)), .still [] (.int .u64 ((w2).toNat : Int)), .still [] (.int .i64 (x : Int)), .still [] (.int .i64 ((x : Int) + 15)), .still [] (.pointer (some ⟨b2, (x + 15), none⟩)), .still [] (.int .u64 ((v3).toNat : Int)), .still [] (.int .u64 ((w3).toNat : Int)), .still [] (.int .i64 (x : Int)), .still [] (.int .i64 ((x : Int) + 20)), .still [] (.pointer (some ⟨b2, (x + 20), none⟩)), .still [] (.int .u64 ((v4).toNat : Int)), .still [] (.int .u64 ((w4).toNat : Int)), .still [] (.pointer (some ⟨b5, x, none⟩))] (by kernel_rfl) (by kernel_rfl) rfl rfl rfl (fun _ _ _ h k => h.trans k) rfl ?_
      iterate 25
        refine Obl.still (fun W' hg _ => ?_) ?_
        · subst hg
          go_wp2
          exact ⟨rfl, rfl, rfl, rfl⟩
        simp only [Act.put, List.setIfInBounds_toArray, List.set_cons_zero, List.set_cons_succ]
      refine Obl.done (fun W' hg _ => ?_)
      subst hg
      have q5 : wr.drew.cell? ⟨b5, x, none⟩ = some (eQ c0) := hc0
      have f5 : wr.drew.frozen? ⟨b5, x, none⟩ = false := hf0
      go_wp2
      go_roundw
      case rel =>
        refine ⟨x + 1, by omega, by go_num, ?_⟩
        rw [← HS.out, HCX.out]
        exact (HR.out.drewN 1).setC x hlt w4
      case measure => simp [intOf]; omega
    · have hx5 : x = 5 := by omega
      have HR2 : Hid (SR 5 w b2 b4 b5 zs (mixP id (thF st) (lane st) 0 0) (colsTo st 5) wr) := Lib.hid (by rw [mixP_zero, lane_self st HLL.out]; exact hx5 ▸ hr)
      clear hx5
      clear hr
      go_wp2_with fail
      go_loopw [7] (fun i wr => ∃ x : Nat, x ≤ 5 ∧ i = .int .i64 (x : Int) ∧ SR 5 w b2 b4 b5 zs (mixP id (thF st) (lane st) x 0) (colsTo st 5) wr) (fun i _ => 5 - (intOf i).toNat)
      case atStart => exact ⟨0, Nat.zero_le _, rfl, HR2.out⟩
      case round =>
        clear HR2
        obtain ⟨x, hx, rfl, hr⟩ := hrel
        by_cases hlt : x < 5
        · have hm4 : (x + 4) % 5 < 5 := Nat.mod_lt _ (by omega)
          have hm1 : (x + 1) % 5 < 5 := Nat.mod_lt _ (by omega)
          have hc4 := hr.c.cell_at ((x + 4) % 5) hm4
          have hc1 := hr.c.cell_at ((x + 1) % 5) hm1
          rw [colsTo_full st _ hm4] at hc4
          rw [colsTo_full st _ hm1] at hc1
          have hd : dOf st x = colC st ((x + 4) % 5) ^^^ rotl (colC st ((x + 1) % 5)) 1 := rfl
          generalize colC st ((x + 4) % 5) = V4 at *
          generalize colC st ((x + 1) % 5) = V1 at *
          have hx1 := xorQ V4 (rotl V1 1)
          have i4 : (((x : Int) + 4) % 5) = (((x + 4) % 5 : Nat) : Int) := by omega
          have i1 : (((x : Int) + 1) % 5) = (((x + 1) % 5 : Nat) : Int) := by omega
          generalize (x + 4) % 5 = x4 at *
          generalize (x + 1) % 5 = x1 at *
          generalize hro : rotl V1 1 = R1 at *
          generalize V4 ^^^ R1 = D at *
          replace hro : rotl V1 (1 % 64) = R1 := hro
          have HD := Lib.hid hd
          have HRO := Lib.hid hro
          have HR := Lib.hid hr
          have k4 : wr.drew.cell? ⟨b5, x4, none⟩ = some (.int .u64 (V4.toNat : Int)) := hc4
          have k1 : wr.drew.cell? ⟨b5, x1, none⟩ = some (.int .u64 (V1.toNat : Int)) := hc1
          clear hd hr hro hc4 hc1
          go_wp2_with fail
          refine wp_region_rg (fun x y : World => x = y) 177 12 14 [[], [], [], [], [], [], [], [], [], [], [], []]
            [.still [] (.int .i64 (x : Int)), .still [] (.int .i64 ((x : Int) + 4)), .still [] (.int .i64 (x4 : Int)), .still [] (.pointer (some ⟨b5, x4, none⟩)), .still [] (.int .u64 ((V4).toNat : Int)), .still [] (.int .i64 (x : Int)), .still [] (.int .i64 ((x : Int) + 1)), .still [] (.int .i64 (x1 : Int)), .still [] (.pointer (some ⟨b5, x1, none⟩)), .still [] (.int .u64 ((V1).toNat : Int)), .still [] (.int .u64 ((R1).toNat : Int)), .still [] (.int .u64 ((D).toNat : Int))] (by kernel_rfl) (by kernel_rfl) rfl rfl rfl (fun _ _ _ h k => h.trans k) rfl ?_
          iterate 10
            refine Obl.still (fun W' hg _ => ?_) ?_
            · subst hg
              go_wp2
              exact ⟨rfl, rfl, rfl, rfl⟩
            simp only [Act.put, List.setIfInBounds_toArray, List.set_cons_zero, List.set_cons_succ]
          refine Obl.still (fun W' hg _ => ?_) ?_
          · subst hg
            have HCR := Lib.hid (rol_any V1 1 wr.drew (by omega))
            rw [HRO.out] at HCR
            go_wp2_with fail
            refine HCR.out.mono ?_
            rintro e w' ⟨rfl, rfl⟩
            clear HCR
            go_wp2
            exact ⟨rfl, rfl, rfl, rfl⟩
          simp only [Act.put, List.setIfInBounds_toArray, List.set_cons_zero, List.set_cons_succ]
          refine Obl.still (fun W' hg _ => ?_) ?_
          · subst hg
            go_wp2
            exact ⟨rfl, rfl, rfl, rfl⟩
          simp only [Act.put, List.setIfInBounds_toArray, List.set_cons_zero, List.set_cons_succ]
          refine Obl.done (fun W' hg _ => ?_)
          subst hg
          go_wp2
          clear k4 k1 hx1 i4 i1 hm4 hm1 HRO
          have HR3 := Lib.hid (HR.out.drewN 1)
          clear HR
          go_loopw [9] (fun i wr => ∃ y : Nat, y ≤ 5 ∧ i = .int .i64 (y : Int) ∧ SR 5 w b2 b4 b5 zs (mixP id (thF st) (lane st) x y) (colsTo st 5) wr) (fun i _ => 5 - (intOf i).toNat)
          case atStart => exact ⟨0, Nat.zero_le _, rfl, HR3.out⟩
          case round =>
            clear HR3
            obtain ⟨y, hy, rfl, hr⟩ := hrel
            by_cases hly : y < 5
            · have hk : x + 5 * y < 25 := by omega
              have q0 := hr.at (x + 5 * y) hk
              rw [mixP_at id (thF st) (lane st) x y (x + 5 * y) hk rfl hlt] at q0
              have hst := mixP_step id (thF st) (lane st) x y (x + 5 * y) hlt (id_iff x y) (fun _ h => h)
              have hth : thF st (x + 5 * y) = lane st (x + 5 * y) ^^^ D := by unfold thF; rw [show (x + 5 * y) % 5 = x by omega, HD.out]
              rw [hth] at hst
              generalize lane st (x + 5 * y) = U at *
              have hx2 := xorQ U D
              have f0 := hr.s.free_at (x + 5 * y) hk
              have e1 : ((x : Int) + 5 * (y : Int)).toNat = x + 5 * y := by omega
              have HST := Lib.hid hst
              have HR := Lib.hid hr
              clear hst hr hth
              go_wp2
              go_roundw
              case rel => exact ⟨y + 1, by omega, by go_num, by rw [← HST.out]; exact HR.out.setS _ hk _⟩
              case measure => simp [intOf]; omega
            · have hy5 : y = 5 := by omega
              rw [hy5] at hr
              have HR := Lib.hid hr
              clear hr hy5
              go_wp2
              go_roundw
              case rel => exact ⟨x + 1, by omega, by go_num, by rw [← mixP_row id _ _ _ (fun _ h => h)]; exact HR.out⟩
              case measure => simp [intOf]; omega
        · have hx5 : x = 5 := by omega
          rw [hx5] at hr
          clear hx5
          have HTL := Lib.hid (show (thetaL st).length = 25 by simp [thetaL])
          have HR4 : Hid (SR 5 w b2 b4 b5 zs (rotTo (thetaL st) 0) (colsTo st 5) wr) := Lib.hid (by rw [rotTo_zero _ HTL.out, ← thF_full, ← mixP_full id (thF st) (lane st)]; exact hr)
          clear hr
          go_wp2_with fail
          obtain ⟨s2, hs2⟩ : ∃ s, thetaL st = s := ⟨_, rfl⟩
          rw [hs2] at HR4 HTL
          have HS2 := Lib.hid hs2
          clear hs2
          go_loopw [10, 11, 12] (fun a b t wr => ∃ k : Nat, k ≤ 24 ∧ t = .int .i64 (k : Int) ∧ a = .int .i64 ((pos k).1 : Int) ∧ b = .int .i64 ((pos k).2 : Int) ∧ SR 5 w b2 b4 b5 zs (rotTo s2 k) (colsTo st 5) wr) (fun _ _ t _ => 24 - (intOf t).toNat)
          case atStart => exact ⟨0, Nat.zero_le _, rfl, rfl, rfl, HR4.out⟩
          case round =>
            clear HR4
            obtain ⟨k, hk, rfl, rfl, rfl, hr⟩ := hrel
            by_cases hlt : k < 24
            · have hp := pos_lt k (by omega)
              have hid : idxP k = (pos k).1 + 5 * (pos k).2 := rfl
              have hps : pos (k + 1) = ((pos k).2, (2 * (pos k).1 + 3 * (pos k).2) % 5) := rfl
              have hst := rotTo_step s2 k hlt
              have q0 := hr.at (idxP k) (by rw [hid]; omega)
              have f0 := hr.s.free_at (idxP k) (by rw [hid]; omega)
              have hset := hr.setS (idxP k) (by rw [hid]; omega)
              rw [rotTo_at s2 k hlt] at q0
              have hm : ((k : Int) + 1) * ((k : Int) + 2) = (((k + 1) * (k + 2) : Nat) : Int) := by simp
              have hm2 : (k + 1) * (k + 2) ≤ 25 * 26 := Nat.mul_le_mul (by omega) (by omega)
              generalize (k + 1) * (k + 2) = m at *
              generalize lane s2 (idxP k) = V1 at *
              rw [hid] at hset q0 f0 hst
              generalize (pos k).1 = px at *
              generalize (pos k).2 = py at *
              have e1 : ((px : Int) + 5 * (py : Int)).toNat = px + 5 * py := by omega
              have e2 : ((m : Int) / 2) = ((m / 2 : Nat) : Int) := by omega
              obtain ⟨hp1, hp2⟩ := hp
              have HRC := Lib.hid (rol_any V1 (m / 2) wr (by omega))
              have hm3 : m / 2 ≤ 400 := by omega
              generalize m / 2 = n at *
              generalize rotl V1 (n % 64) = R1 at *
              have HST := Lib.hid hst
              have HR := Lib.hid hr
              have HSET := Lib.hid hset
              have HPS := Lib.hid hps
              clear hst hr hset hps hid
              go_wp2_with fail
              refine HRC.out.mono ?_
              rintro e w' ⟨rfl, rfl⟩
              clear HRC
              go_wp2_with fail
              go_roundw
              case rel => exact ⟨k + 1, by omega, by go_num, by rw [HPS.out], by rw [HPS.out]; go_num, by rw [← HST.out]; exact HSET.out _⟩
              case measure => simp [intOf]; omega
            · have hx5 : k = 24 := by omega
              rw [hx5] at hr
              clear hx5
              have HR5 := Lib.hid hr
              clear hr
              go_wp2_with fail
              obtain ⟨s3, hs3⟩ : ∃ s, rotTo s2 24 = s := ⟨_, rfl⟩
              have HS3 := Lib.hid hs3
              have HL3 : Hid (s3.length = 25) := Lib.hid (by rw [← hs3]; exact rotTo_length _ _)
              rw [hs3] at HR5
              clear hs3
              have HR6 : Hid (SR 25 w b2 b4 wr.heap.size zs s3 (mixP invP (fun j => lane s3 (invP j)) (fun _ => 0) 0 0) (wr.alloc (.cells (zs.map eQ).toArray 100))) := Lib.hid (by
                have hr := HR5.out
                have hb2 := (hr.s.lt b2 rfl (by omega)).2
                have hb4 := (hr.z.lt b4 rfl (by omega)).2
                have hn := Own.new (enc := eQ) (B := w.heap.size) wr 100 zs hr.b.size (by rw [HZL.out]; omega)
                rw [HZL.out] at hn
                refine ⟨hr.n1, by omega, by omega, hr.s.alloc _, hr.z.alloc _, ?_, hr.b.alloc hr.b.size _⟩
                have hz0 : mixP invP (fun j => lane s3 (invP j)) (fun _ => 0) 0 0 = zs := by rw [mixP_zero, ← HZS.out]; rfl
                rw [hz0]
                exact hn)
              clear HR5
              generalize World.alloc wr _ = w6 at *
              generalize wr.heap.size = b6 at *
              go_loopw [10] (fun i wr => ∃ x : Nat, x ≤ 5 ∧ i = .int .i64 (x : Int) ∧ SR 25 w b2 b4 b6 zs s3 (mixP invP (fun j => lane s3 (invP j)) (fun _ => 0) x 0) wr) (fun i _ => 5 - (intOf i).toNat)
              case atStart => exact ⟨0, Nat.zero_le _, rfl, HR6.out⟩
              case round =>
                clear HR6
                obtain ⟨x, hx, rfl, hr⟩ := hrel
                have HR := Lib.hid hr
                clear hr
                by_cases hlt : x < 5
                · go_wp2_with fail
                  go_loopw [11] (fun i wr => ∃ y : Nat, y ≤ 5 ∧ i = .int .i64 (y : Int) ∧ SR 25 w b2 b4 b6 zs s3 (mixP invP (fun j => lane s3 (invP j)) (fun _ => 0) x y) wr) (fun i _ => 5 - (intOf i).toNat)
                  case atStart => exact ⟨0, Nat.zero_le _, rfl, HR.out⟩
                  case round =>
                    clear HR
                    obtain ⟨y, hy, rfl, hr⟩ := hrel
                    by_cases hly : y < 5
                    · have hk : x + 5 * y < 25 := by omega
                      have q0 := hr.at (x + 5 * y) hk
                      have hdl := destP_lt _ hk
                      have hst := mixP_step invP (fun j => lane s3 (invP j)) (fun _ => 0) x y (destP (x + 5 * y)) hlt (fun j hj => invP_iff j hj (x + 5 * y) hk) (fun j hj => invP_lt j hj)
                      have hinv := (invP_iff _ hdl (x + 5 * y) hk).2 rfl
                      have f0 := hr.c.free_at _ hdl
                      obtain ⟨c0, hc0⟩ := hr.c.some_at _ hdl
                      have hset := hr.setC _ hdl
                      have hdd : destP (x + 5 * y) = y + 5 * ((2 * x + 3 * y) % 5) := by unfold destP; rw [show (x + 5 * y) % 5 = x by omega, show (x + 5 * y) / 5 = y by omega]
                      simp only [hinv] at hst
                      have e1 : ((x : Int) + 5 * (y : Int)).toNat = x + 5 * y := by omega
                      have e3 : ((2 * (x : Int) + 3 * (y : Int)) % 5) = (((2 * x + 3 * y) % 5 : Nat) : Int) := by omega
                      have hz5 : (2 * x + 3 * y) % 5 < 5 := Nat.mod_lt _ (by omega)
                      rw [hdd] at hst f0 hc0 hset
                      generalize (2 * x + 3 * y) % 5 = z at *
                      have e2 : ((y : Int) + 5 * (z : Int)).toNat = y + 5 * z := by omega
                      generalize lane s3 (x + 5 * y) = U at *
                      have HST := Lib.hid hst
                      have HSET := Lib.hid hset
                      clear hst hr hset hinv hdd hdl
                      go_wp2
                      go_roundw
                      case rel => exact ⟨y + 1, by omega, by go_num, by rw [← HST.out]; exact HSET.out _⟩
                      case measure => simp [intOf]; omega
                    · have hy5 : y = 5 := by omega
                      rw [hy5] at hr
                      have HR := Lib.hid hr
                      clear hr hy5
                      go_wp2
                      go_roundw
                      case rel => exact ⟨x + 1, by omega, by go_num, by rw [← mixP_row _ _ _ _ (fun j hj => invP_lt j hj)]; exact HR.out⟩
                      case measure => simp [intOf]; omega
                · have hx5 : x = 5 := by omega
                  rw [hx5] at HR
                  clear hx5
                  obtain ⟨rb, hrb⟩ : ∃ r, rhoPi s2 = r := ⟨_, rfl⟩
                  have HRB := Lib.hid hrb
                  have HR7 : Hid (SR 25 w b2 b4 b6 zs (mixP id (chF rb) (lane s3) 0 0) rb wr) := Lib.hid (by
                    have hr := HR.out
                    rw [mixP_full] at hr
                    rw [mixP_zero, lane_self s3 HL3.out, ← HRB.out, ← rhoPi_eq, HS3.out]
                    exact hr)
                  clear HR hrb
                  go_wp2_with fail
                  go_loopw [10] (fun i wr => ∃ x : Nat, x ≤ 5 ∧ i = .int .i64 (x : Int) ∧ SR 25 w b2 b4 b6 zs (mixP id (chF rb) (lane s3) x 0) rb wr) (fun i _ => 5 - (intOf i).toNat)
                  case atStart => exact ⟨0, Nat.zero_le _, rfl, HR7.out⟩
                  case round =>
                    clear HR7
                    obtain ⟨x, hx, rfl, hr⟩ := hrel
                    have HR := Lib.hid hr
                    clear hr
                    by_cases hlt : x < 5
                    · go_wp2_with fail
                      go_loopw [11] (fun i wr => ∃ y : Nat, y ≤ 5 ∧ i = .int .i64 (y : Int) ∧ SR 25 w b2 b4 b6 zs (mixP id (chF rb) (lane s3) x y) rb wr) (fun i _ => 5 - (intOf i).toNat)
                      case atStart => exact ⟨0, Nat.zero_le _, rfl, HR.out⟩
                      case round =>
                        clear HR
                        obtain ⟨y, hy, rfl, hr⟩ := hrel
                        by_cases hly : y < 5
                        · have hk : x + 5 * y < 25 := by omega
                          have hst := mixP_step id (chF rb) (lane s3) x y (x + 5 * y) hlt (id_iff x y) (fun _ h => h)
                          have hx1 : (x + 1) % 5 < 5 := Nat.mod_lt _ (by omega)
                          have hx2 : (x + 2) % 5 < 5 := Nat.mod_lt _ (by omega)
                          have hch : chF rb (x + 5 * y) = lane rb (x + 5 * y) ^^^ (notL (lane rb ((x + 1) % 5 + 5 * y)) &&& lane rb ((x + 2) % 5 + 5 * y)) := by
                            unfold chF
                            rw [show (x + 5 * y) % 5 = x by omega, show (x + 5 * y) / 5 = y by omega]
                          have q0 := lane_cell hr.c (x + 5 * y) hk
                          have q1 := lane_cell hr.c ((x + 1) % 5 + 5 * y) (by omega)
                          have q2 := lane_cell hr.c ((x + 2) % 5 + 5 * y) (by omega)
                          have f0 := hr.s.free_at _ hk
                          obtain ⟨c0, hc0⟩ := hr.s.some_at _ hk
                          have hset := hr.setS _ hk
                          have i1 : (((x : Int) + 1) % 5) = (((x + 1) % 5 : Nat) : Int) := by omega
                          have i2 : (((x : Int) + 2) % 5) = (((x + 2) % 5 : Nat) : Int) := by omega
                          rw [hch] at hst
                          generalize (x + 1) % 5 = x1 at *
                          generalize (x + 2) % 5 = x2 at *
                          have e0 : ((x : Int) + 5 * (y : Int)).toNat = x + 5 * y := by omega
                          have e1 : ((x1 : Int) + 5 * (y : Int)).toNat = x1 + 5 * y := by omega
                          have e2 : ((x2 : Int) + 5 * (y : Int)).toNat = x2 + 5 * y := by omega
                          generalize lane rb (x + 5 * y) = u0 at *
                          generalize lane rb (x1 + 5 * y) = u1 at *
                          generalize lane rb (x2 + 5 * y) = u2 at *
                          have h64 : ((18446744073709551615 : UInt64).toNat : Int) = 18446744073709551615 := rfl
                          have hn := xorQ u1 18446744073709551615
                          have hnn : u1 ^^^ 18446744073709551615 = notL u1 := rfl
                          rw [h64, hnn] at hn
                          have ha := andQ (notL u1) u2
                          have hv := xorQ u0 (notL u1 &&& u2)
                          generalize notL u1 = n1 at *
                          generalize n1 &&& u2 = a1 at *
                          generalize u0 ^^^ a1 = v1 at *
                          have HST := Lib.hid hst
                          have HSET := Lib.hid hset
                          have HR := Lib.hid hr
                          clear hst hr hset hch h64 hnn
                          go_wp2_with fail
                          refine wp_region_rg (fun x y : World => x = y) 177 22 30 [[], [], [], [], [], [], [], [], [], [], [], [], [], [], [], [], [], [], [], [], [], []]
                            [.still [] (.int .i64 (x : Int)), .still [] (.int .i64 (y : Int)), .still [] (.int .i64 (5 * (y : Int))), .still [] (.int .i64 ((x : Int) + 5 * (y : Int))), .still [] (.int .i64 (x : Int)), .still [] (.int .i64 (y : Int)), .still [] (.int .i64 (5 * (y : Int))), .still [] (.int .i64 ((x : Int) + 5 * (y : Int))), .still [] (.pointer (some ⟨b6, (x + 5 * y), none⟩)), .still [] (.int .u64 ((u0).toNat : Int)), .still [] (.int .u64 ((n1).toNat : Int)), .still [] (.int .i64 (x : Int)), .still [] (.int .i64 ((x : Int) + 2)), .still [] (.int .i64 (x2 : Int)), .still [] (.int .i64 (y : Int)), .still [] (.int .i64 (5 * (y : Int))), .still [] (.int .i64 ((x2 : Int) + 5 * (y : Int))), .still [] (.pointer (some ⟨b6, (x2 + 5 * y), none⟩)), .still [] (.int .u64 ((u2).toNat : Int)), .still [] (.int .u64 ((a1).toNat : Int)), .still [] (.int .u64 ((v1).toNat : Int)), .still [] (.pointer (some ⟨b2, (x + 5 * y), none⟩))] (by kernel_rfl) (by kernel_rfl) rfl rfl rfl (fun _ _ _ h k => h.trans k) rfl ?_
                          iterate 22
                            refine Obl.still (fun W' hg _ => ?_) ?_
                            · subst hg
                              go_wp2
                              exact ⟨rfl, rfl, rfl, rfl⟩
                            simp only [Act.put, List.setIfInBounds_toArray, List.set_cons_zero, List.set_cons_succ]
                          refine Obl.done (fun W' hg _ => ?_)
                          subst hg
                          have q5 : wr.drew.cell? ⟨b2, x + 5 * y, none⟩ = some (eQ c0) := hc0
                          have f5 : wr.drew.frozen? ⟨b2, x + 5 * y, none⟩ = false := f0
                          go_wp2
                          go_roundw
                          case rel =>
                            refine ⟨y + 1, by omega, by go_num, ?_⟩
                            rw [← HST.out]
                            exact (HR.out.drewN 1).setS _ hk v1
                          case measure => simp [intOf]; omega
                        · have hy5 : y = 5 := by omega
                          rw [hy5] at hr
                          have HR := Lib.hid hr
                          clear hr hy5
                          go_wp2
                          go_roundw
                          case rel => exact ⟨x + 1, by omega, by go_num, by rw [← mixP_row id _ _ _ (fun _ h => h)]; exact HR.out⟩
                          case measure => simp [intOf]; omega
                    · have hx5 : x = 5 := by omega
                      rw [hx5, mixP_full, chF_full] at HR
                      clear hx5
                      have hx := xorQ (lane (chiL rb) 0) (UInt64.ofNat rc)
                      rw [UInt64.toNat_ofNat_of_lt' (by exact HRC.out)] at hx
                      have q0 := HR.out.at 0 (by omega)
                      have f0 := HR.out.s.free_at 0 (by omega)
                      have HX := Lib.hid hx
                      generalize hl0 : lane (chiL rb) 0 = l0 at *
                      have hs3 : (chiL rb).set 0 (l0 ^^^ UInt64.ofNat rc) = roundL st rc := by rw [← hl0, ← HRB.out, ← HS2.out]; rfl
                      have hr2 := HR.out.setS 0 (by omega) (l0 ^^^ UInt64.ofNat rc)
                      rw [hs3] at hr2
                      have hlen : (roundL st rc).length = 25 := by rw [← hs3]; simp [chiL]
                      generalize l0 ^^^ UInt64.ofNat rc = v0 at *
                      generalize roundL st rc = rr at *
                      have HR2 := Lib.hid hr2
                      have HLN := Lib.hid hlen
                      have hx' : bits .xor .u64 (l0.toNat : Int) (rc : Int) = (v0.toNat : Int) := hx
                      clear hx hr2 hl0 hs3 hlen HR HX
                      go_upto_region 40 with fail
                      have HRG := Lib.hid (range25 HR2.out.s)
                      have HSZ : Hid ((Tryz.prog.info? 100).map (·.size) = some (rr.map eQ).length) := Lib.hid (by rw [hz.2, List.length_map, HLN.out])
                      have HSA : Hid ((Tryz.prog.info? 100).map (·.size) = some (rr.map eQ).toArray.size) := Lib.hid (by rw [hz.2]; simp [HLN.out])
                      have HTR := Lib.hid (there25 HR2.out.z (n := (rr.map eQ).toArray.size) (by simp [HLN.out]))
                      have HONE : Hid ((rr.map eQ).toArray.all (·.oneCell') = true) := Lib.hid (one25 rr)
                      have HR4 := Lib.hid (range25 (HR2.out.z.setAll rr HLN.out))
                      have HG4 := Lib.hid (below_setCells HR2.out.z.base.1 (rr.map eQ) 0 _ HR2.out.b)
                      clear q0 f0
                      go_wp2_with (first | refine wpList_load_mid rfl 100 (.tmp 2) rfl b2 0 rfl (rr.map eQ) _ HRG.out Tryz.underlying100 rfl HSZ.out ?_ | refine wpList_store_mid rfl 100 (.tmp 4) (.tmp 176) rfl b4 0 (rr.map eQ).toArray rfl rfl HTR.out HSA.out HONE.out ?_)
                      exact bodyPost_ret (results_cell_mid rfl _ _ b4 0 rfl (rr.map eQ) _ HR4.out Tryz.underlying100 rfl HSZ.out) rfl ⟨rfl, HG4.out⟩
end Go.Proofs.Sl

/- The document's Keccak: its constants; a state turned about. -/
namespace Go.Proofs.Sl
open Go Go.RowKit Go.Proofs

def rcU : List UInt64 := rcL.map UInt64.ofNat
theorem rcU_length : rcU.length = 24 := rfl
theorem rcU_at : ∀ k, k < 24 → ((lane rcU k).toNat) = rcL.getD k 0 := by decide +kernel
theorem infoR : (Tryz.prog.info? 98).map (fun i => (i.zero, i.size)) = some (some (vSt (List.replicate 24 0)), 24) := by kernel_rfl
theorem range24 {B b : Nat} {st : List UInt64} {w : World} (h : Own eQ B w (some ⟨b, 0, none⟩) 24 24 st) : w.rangeAt b 0 (st.map eQ) := fun j v hv => by
  have hj : j < st.length := by have := (List.getElem?_eq_some_iff.1 hv).1; simpa using this
  rw [Nat.zero_add, h.cell_at j (by rw [← h.len]; exact hj)]
  simpa [hj] using hv
theorem there24 {B b : Nat} {st : List UInt64} {w : World} (h : Own eQ B w (some ⟨b, 0, none⟩) 24 24 st) {n : Nat} (hn : n = 24) : w.there b 0 n := fun j hj => by
  obtain ⟨v, hv⟩ := h.some_at j (by omega)
  rw [Nat.zero_add]
  exact ⟨by rw [hv]; rfl, h.free_at j (by omega)⟩
theorem lane_cell24 {B b : Nat} {st : List UInt64} {w : World} (h : Own eQ B w (some ⟨b, 0, none⟩) 24 24 st) (j : Nat) (hj : j < 24) : w.cell? ⟨b, j, none⟩ = some (.int .u64 ((lane st j).toNat : Int)) := by
  rw [h.cell_at j hj]
  have hj' : j < st.length := by rw [h.len]; exact hj
  simp [lane, List.getD, hj']

theorem wpList_build_k {P : Program} {ops : Array Oper} {rest : List Oper} {o : Oper} {a : Act} {w : World} {Q : Exit → Act → World → Prop} (hg : o.guard = none) (t : TypeId) (parts : Array (Nat × Operand)) (ho : o.op = .build t parts) (cells : Array Value)
    (hf : P.built t (parts.map fun (i, x) => (i, a.eval x)).toList = some cells) (h : wpList P ops Q rest (a.put o.dst (.agg cells)) w) : wpList P ops Q (o :: rest) a w :=
  wpList_build hg t parts ho (by rw [hf]; rfl) (by rw [hf]; exact h)

set_option maxHeartbeats 2000000 in
set_option maxRecDepth 100000 in
theorem consts_any (w : World) : Calls Tryz.prog 71 #[] w (RetV w (vSt rcU)) := by
  have hz := zero_of_info infoR
  have hlit : rcU.map eQ = [.int .u64 1, .int .u64 32898, .int .u64 9223372036854808714, .int .u64 9223372039002292224, .int .u64 32907, .int .u64 2147483649, .int .u64 9223372039002292353, .int .u64 9223372036854808585, .int .u64 138, .int .u64 136, .int .u64 2147516425, .int .u64 2147483658, .int .u64 2147516555, .int .u64 9223372036854775947, .int .u64 9223372036854808713, .int .u64 9223372036854808579, .int .u64 9223372036854808578, .int .u64 9223372036854775936, .int .u64 32778, .int .u64 9223372039002259466, .int .u64 9223372039002292353, .int .u64 9223372036854808704, .int .u64 2147483649, .int .u64 9223372039002292232] := by kernel_rfl
  obtain ⟨zs, hzs⟩ : ∃ zs, List.replicate 24 (0 : UInt64) = zs := ⟨_, rfl⟩
  rw [hzs] at hz
  have HZL : Hid (zs.length = 24) := Lib.hid (by rw [← hzs]; simp)
  clear hzs
  unfold vSt at hz ⊢
  have hR0 : Own eQ w.heap.size (w.alloc (.cells (zs.map eQ).toArray 98)) (some ⟨w.heap.size, 0, none⟩) 24 24 zs := by
    have := Own.new (enc := eQ) (B := w.heap.size) w 98 zs (Nat.le_refl _) (by rw [HZL.out]; omega)
    rw [HZL.out] at this
    exact this
  have hg1 : Below w.heap.size w (w.alloc (.cells (zs.map eQ).toArray 98)) := (Below.refl _ _).alloc (Nat.le_refl _) _
  have HTR : Hid ((w.alloc (.cells (zs.map eQ).toArray 98)).there w.heap.size 0 (rcU.map eQ).toArray.size) := Lib.hid (there24 hR0 (by simp [rcU_length]))
  have HSA : Hid ((Tryz.prog.info? 98).map (·.size) = some (rcU.map eQ).toArray.size) := Lib.hid (by rw [hz.2]; simp [rcU_length])
  have HSZ : Hid ((Tryz.prog.info? 98).map (·.size) = some (rcU.map eQ).length) := Lib.hid (by rw [hz.2]; simp [rcU_length])
  have HONE := Lib.hid (one25 rcU)
  have HR4 := Lib.hid (range24 (hR0.setAll rcU rcU_length))
  have HG4 := Lib.hid (below_setCells (Nat.le_refl w.heap.size) (rcU.map eQ) 0 _ hg1)
  rw [hlit] at HTR HSA HSZ HONE HR4 HG4 ⊢
  clear hR0 hg1 hlit
  go_enter Tryz.func71, Tryz.ntmps71
  go_wp2_with (first | refine wpList_build_k rfl 98 _ rfl #[.int .u64 1, .int .u64 32898, .int .u64 9223372036854808714, .int .u64 9223372039002292224, .int .u64 32907, .int .u64 2147483649, .int .u64 9223372039002292353, .int .u64 9223372036854808585, .int .u64 138, .int .u64 136, .int .u64 2147516425, .int .u64 2147483658, .int .u64 2147516555, .int .u64 9223372036854775947, .int .u64 9223372036854808713, .int .u64 9223372036854808579, .int .u64 9223372036854808578, .int .u64 9223372036854775936, .int .u64 32778, .int .u64 9223372039002259466, .int .u64 9223372039002292353, .int .u64 9223372036854808704, .int .u64 2147483649, .int .u64 9223372039002292232] (by kernel_rfl) ?_ | refine wpList_store_mid rfl 98 (.tmp 0) (.tmp 1) rfl w.heap.size 0 #[.int .u64 1, .int .u64 32898, .int .u64 9223372036854808714, .int .u64 9223372039002292224, .int .u64 32907, .int .u64 2147483649, .int .u64 9223372039002292353, .int .u64 9223372036854808585, .int .u64 138, .int .u64 136, .int .u64 2147516425, .int .u64 2147483658, .int .u64 2147516555, .int .u64 9223372036854775947, .int .u64 9223372036854808713, .int .u64 9223372036854808579, .int .u64 9223372036854808578, .int .u64 9223372036854775936, .int .u64 32778, .int .u64 9223372039002259466, .int .u64 9223372039002292353, .int .u64 9223372036854808704, .int .u64 2147483649, .int .u64 9223372039002292232] rfl rfl HTR.out HSA.out HONE.out ?_)
  exact bodyPost_ret (results_cell_mid rfl _ _ w.heap.size 0 rfl [.int .u64 1, .int .u64 32898, .int .u64 9223372036854808714, .int .u64 9223372039002292224, .int .u64 32907, .int .u64 2147483649, .int .u64 9223372039002292353, .int .u64 9223372036854808585, .int .u64 138, .int .u64 136, .int .u64 2147516425, .int .u64 2147483658, .int .u64 2147516555, .int .u64 9223372036854775947, .int .u64 9223372036854808713, .int .u64 9223372036854808579, .int .u64 9223372036854808578, .int .u64 9223372036854775936, .int .u64 32778, .int .u64 9223372039002259466, .int .u64 9223372039002292353, .int .u64 9223372036854808704, .int .u64 2147483649, .int .u64 9223372039002292232] _ HR4.out Tryz.underlying98 rfl HSZ.out) rfl ⟨rfl, HG4.out⟩

set_option maxHeartbeats 4000000 in
set_option maxRecDepth 20000 in
theorem rperm_any (st : List UInt64) (w : World) (hl : st.length = 25) :
    Calls Tryz.prog 72 #[vSt st, vSt rcU] w (RetV w (vSt (permL st))) := by
  have hz := zero_of_info infoS
  have hz4 := zero_of_info infoR
  obtain ⟨zs, hzs⟩ : ∃ zs, List.replicate 25 (0 : UInt64) = zs := ⟨_, rfl⟩
  rw [hzs] at hz
  have HZL : Hid (zs.length = 25) := Lib.hid (by rw [← hzs]; simp)
  obtain ⟨rc, hrc⟩ : ∃ rc, rcU = rc := ⟨_, rfl⟩
  rw [hrc]
  have HRL : Hid (rc.length = 24) := Lib.hid (by rw [← hrc]; rfl)
  have HRA : Hid (∀ k, k < 24 → (lane rc k).toNat = rcL.getD k 0) := Lib.hid (by rw [← hrc]; exact rcU_at)
  clear hzs hrc
  have HLL := Lib.hid hl
  clear hl
  unfold vSt at hz hz4 ⊢
  go_enter Tryz.func72, Tryz.ntmps72
  go_wp2_with fail
  have hO : Own eQ w.heap.size (((w.alloc (.cells (st.map eQ).toArray 100)).alloc (.cells (rc.map eQ).toArray 98)).alloc (.cells (zs.map eQ).toArray 100)) (some ⟨w.heap.size, 0, none⟩) 25 25 st := by
    have := Own.new (enc := eQ) (B := w.heap.size) w 100 st (Nat.le_refl _) (by rw [HLL.out]; omega)
    rw [HLL.out] at this
    exact (this.alloc _).alloc _
  have hC : Own eQ w.heap.size (((w.alloc (.cells (st.map eQ).toArray 100)).alloc (.cells (rc.map eQ).toArray 98)).alloc (.cells (zs.map eQ).toArray 100)) (some ⟨w.heap.size + 1, 0, none⟩) 24 24 rc := by
    have := Own.new (enc := eQ) (B := w.heap.size) (w.alloc (.cells (st.map eQ).toArray 100)) 98 rc (by simp) (by rw [HRL.out]; omega)
    rw [HRL.out] at this
    simpa using this.alloc (.cells (zs.map eQ).toArray 100)
  have hR0 : Own eQ w.heap.size (((w.alloc (.cells (st.map eQ).toArray 100)).alloc (.cells (rc.map eQ).toArray 98)).alloc (.cells (zs.map eQ).toArray 100)) (some ⟨w.heap.size + 1 + 1, 0, none⟩) 25 25 zs := by
    have := Own.new (enc := eQ) (B := w.heap.size) ((w.alloc (.cells (st.map eQ).toArray 100)).alloc (.cells (rc.map eQ).toArray 98)) 100 zs (by simp; omega) (by rw [HZL.out]; omega)
    rw [HZL.out] at this
    simpa using this
  have hg1 : Below w.heap.size w (((w.alloc (.cells (st.map eQ).toArray 100)).alloc (.cells (rc.map eQ).toArray 98)).alloc (.cells (zs.map eQ).toArray 100)) := (((Below.refl _ _).alloc (Nat.le_refl _) _).alloc (by simp) _).alloc (by simp; omega) _
  have hne1 : w.heap.size + 1 ≠ w.heap.size := by omega
  have hne2 : w.heap.size + 1 + 1 ≠ w.heap.size := by omega
  have hb0 : w.heap.size ≤ w.heap.size := Nat.le_refl _
  have hb2 : w.heap.size ≤ w.heap.size + 1 + 1 := by omega
  generalize World.alloc (World.alloc (World.alloc w _) _) _ = w1 at *
  generalize w.heap.size + 1 + 1 = b4 at *
  generalize w.heap.size + 1 = b3 at *
  obtain ⟨B, hB⟩ : ∃ B, w.heap.size = B := ⟨_, rfl⟩
  have HPOST : Hid (∀ v w', Below B w w' → RetV w v (.returned v) w') := Lib.hid (fun v w' h => ⟨rfl, hB ▸ h⟩)
  obtain ⟨b2, hbb2⟩ : ∃ b2, w.heap.size = b2 := ⟨_, rfl⟩
  have HO : Hid (Own eQ B w1 (some ⟨b2, 0, none⟩) 25 25 st) := Lib.hid (by rw [← hB, ← hbb2]; exact hO)
  have HC : Hid (Own eQ B w1 (some ⟨b3, 0, none⟩) 24 24 rc) := Lib.hid (by rw [← hB]; exact hC)
  have HR : Hid (Own eQ B w1 (some ⟨b4, 0, none⟩) 25 25 zs) := Lib.hid (by rw [← hB]; exact hR0)
  have HG : Hid (Below B w w1) := Lib.hid (by rw [← hB]; exact hg1)
  have HNE : Hid (b3 ≠ b2 ∧ b4 ≠ b2 ∧ B ≤ b2 ∧ B ≤ b4) := Lib.hid (by rw [← hB, ← hbb2]; exact ⟨hne1, hne2, hb0, hb2⟩)
  rw [hbb2]
  clear hO hC hR0 hg1 hne1 hne2 hb0 hb2 hB hbb2
  have HST := Lib.hid (permTo_length st HLL.out)
  go_loopw [5] (fun i wr => ∃ k : Nat, k ≤ 24 ∧ i = .int .i64 (k : Int) ∧ Own eQ B wr (some ⟨b2, 0, none⟩) 25 25 (permTo st k) ∧ Own eQ B wr (some ⟨b3, 0, none⟩) 24 24 rc ∧ Own eQ B wr (some ⟨b4, 0, none⟩) 25 25 zs ∧ Below B w wr) (fun i _ => 24 - (intOf i).toNat)
  case atStart => exact ⟨0, Nat.zero_le _, rfl, HO.out, HC.out, HR.out, HG.out⟩
  case round =>
    clear HO HR HG HC
    obtain ⟨k, hk, rfl, ha, hc, hr, hg⟩ := hrel
    have hlk := HST.out k
    by_cases hlt : k < 24
    · have hro : ∀ W, Calls Tryz.prog 104 #[vSt (permTo st k), .int .u64 ((rcL.getD k 0 : Nat) : Int)] W (RetV W (vSt (permTo st (k + 1)))) := fun W => by
        rw [permTo_succ]
        exact step_any (permTo st k) (rcL.getD k 0) W hlk (rc_lt k hlt)
      have hrk := HRA.out k hlt
      have q0 := lane_cell24 hc k hlt
      rw [hrk] at q0
      generalize rcL.getD k 0 = r at *
      have hl2 := HST.out (k + 1)
      obtain ⟨q, hq⟩ : ∃ q, permTo st (k + 1) = q := ⟨_, rfl⟩
      rw [hq] at hro hl2
      have HQ := Lib.hid hq
      unfold vSt at hro
      have HRO := Lib.hid hro
      generalize permTo st k = p at *
      have HSZ : Hid ((Tryz.prog.info? 100).map (·.size) = some (p.map eQ).length) := Lib.hid (by rw [hz.2, List.length_map, hlk])
      have HA : Hid (∀ W, Grow wr.drew W → W.rangeAt b2 0 (p.map eQ)) := Lib.hid (fun W hW => range25 (ha.drew.below hW))
      have HQ0 : Hid (∀ W, Grow wr.drew W → W.cell? ⟨b3, k, none⟩ = some (.int .u64 (r : Int))) := Lib.hid (fun W hW => cell_old hW q0)
      have HAll : Hid (∀ W, Grow wr.drew W → Own eQ B W (some ⟨b2, 0, none⟩) 25 25 p ∧ Own eQ B W (some ⟨b3, 0, none⟩) 24 24 rc ∧ Own eQ B W (some ⟨b4, 0, none⟩) 25 25 zs ∧ Below B w W) := Lib.hid (fun W hW => ⟨ha.drew.below hW, hc.drew.below hW, hr.drew.below hW, hg.drew.trans (hW.mono (by have := ha.drew.base; omega))⟩)
      have HL2 := Lib.hid hl2
      clear hro hrk q0 ha hc hr hg hl2 hq hlk
      go_wp2_with fail
      refine wp_region_rg Grow 16 5 4 [[], [], [], [], []]
        [.still [] (.agg (p.map eQ).toArray), .still [] (.int .i64 (k : Int)), .still [] (.pointer (some ⟨b3, k, none⟩)), .still [] (.int .u64 (r : Int)), .still [] (.agg (q.map eQ).toArray)] (by kernel_rfl) (by kernel_rfl) rfl rfl rfl Grow.trans (Grow.refl _) ?_
      refine Obl.still (fun W hg _ => ?_) ?_
      · have HRG := Lib.hid (HA.out W hg)
        clear hg
        go_wp2_with (refine wpList_load_mid rfl 100 (.tmp 2) rfl b2 0 rfl (p.map eQ) _ HRG.out Tryz.underlying100 rfl HSZ.out ?_)
        exact ⟨rfl, rfl, rfl, Grow.refl _⟩
      simp only [Act.put, List.setIfInBounds_toArray, List.set_cons_zero, List.set_cons_succ]
      iterate 2
        refine Obl.still (fun W hg _ => ?_) ?_
        · clear hg
          go_wp2
          exact ⟨rfl, rfl, rfl, Grow.refl _⟩
        simp only [Act.put, List.setIfInBounds_toArray, List.set_cons_zero, List.set_cons_succ]
      refine Obl.still (fun W hg _ => ?_) ?_
      · have c0 := HQ0.out W hg
        clear hg
        go_wp2
        exact ⟨rfl, rfl, rfl, Grow.refl _⟩
      simp only [Act.put, List.setIfInBounds_toArray, List.set_cons_zero, List.set_cons_succ]
      refine Obl.still (fun W hg _ => ?_) ?_
      · clear hg
        go_wp2_with fail
        refine (HRO.out W).mono ?_
        rintro e w' ⟨rfl, hB⟩
        have hG : Grow W w' := hB
        clear hB
        go_wp2
        exact ⟨rfl, rfl, rfl, hG⟩
      simp only [Act.put, List.setIfInBounds_toArray, List.set_cons_zero, List.set_cons_succ]
      refine Obl.done (fun W hg _ => ?_)
      have hH := HAll.out W hg
      have HTR : Hid (W.there b2 0 (q.map eQ).toArray.size) := Lib.hid (there25 hH.1 (by simp [HL2.out]))
      have HSA : Hid ((Tryz.prog.info? 100).map (·.size) = some (q.map eQ).toArray.size) := Lib.hid (by rw [hz.2]; simp [HL2.out])
      have HONE := Lib.hid (one25 q)
      have HA5 := Lib.hid (hH.1.setAll q HL2.out)
      have HC5 := Lib.hid (hH.2.1.setAll_other (β := Unit) (ne_block HNE.out.1) (q.map eQ) 0)
      have HR5 := Lib.hid (hH.2.2.1.setAll_other (β := Unit) (ne_block HNE.out.2.1) (q.map eQ) 0)
      have HG5 := Lib.hid (below_setCells HNE.out.2.2.1 (q.map eQ) 0 _ hH.2.2.2)
      clear hH hg
      go_wp2_with (refine wpList_store_mid rfl 100 (.tmp 2) (.tmp 14) rfl b2 0 (q.map eQ).toArray rfl rfl HTR.out HSA.out HONE.out ?_)
      refine ⟨⟨k + 1, by omega, by go_num, ?_, HC5.out, HR5.out, HG5.out⟩, by simp [intOf]; omega⟩
      rw [HQ.out]
      exact HA5.out
    · have hk24 : k = 24 := by omega
      rw [hk24] at ha
      have hlk := HST.out 24
      have HTR : Hid (wr.there b4 0 ((permTo st 24).map eQ).toArray.size) := Lib.hid (there25 hr (by simp [hlk]))
      have HRG := Lib.hid (range25 ha)
      have HSZ : Hid ((Tryz.prog.info? 100).map (·.size) = some ((permTo st 24).map eQ).length) := Lib.hid (by rw [hz.2, List.length_map, hlk])
      have HSA : Hid ((Tryz.prog.info? 100).map (·.size) = some ((permTo st 24).map eQ).toArray.size) := Lib.hid (by rw [hz.2]; simp [hlk])
      have HONE := Lib.hid (one25 (permTo st 24))
      have HR4 := Lib.hid (range25 (hr.setAll (permTo st 24) hlk))
      have HG4 := Lib.hid (below_setCells HNE.out.2.2.2 ((permTo st 24).map eQ) 0 _ hg)
      have HPF := Lib.hid (permTo_full st)
      generalize permTo st 24 = rr at *
      clear ha hr hg hlk hk24 hc
      go_wp2_with (first | refine wpList_load_mid rfl 100 (.tmp 2) rfl b2 0 rfl (rr.map eQ) _ HRG.out Tryz.underlying100 rfl HSZ.out ?_ | refine wpList_store_mid rfl 100 (.tmp 4) (.tmp 15) rfl b4 0 (rr.map eQ).toArray rfl rfl HTR.out HSA.out HONE.out ?_)
      refine bodyPost_ret (results_cell_mid rfl _ _ b4 0 rfl (rr.map eQ) _ HR4.out Tryz.underlying100 rfl HSZ.out) rfl ?_
      rw [← HPF.out]
      exact HPOST.out _ _ HG4.out
end Go.Proofs.Sl

/- The document's SHAKE256, plain part: what lies in the state and in the result between two steps of its loops. -/
namespace Go.Proofs.Sl
open Go Go.RowKit Go.Proofs

theorem Own.takeN {α : Type} {enc : α → Value} {B n c m : Nat} {w : World} {A : Option Addr} {l : List α} (h : Own enc B w A n c l) (hm : m ≤ n) : Own enc B w A m c (l.take m) :=
  ⟨by rw [List.length_take, h.len]; omega, Nat.le_trans hm h.big, Nat.le_trans hm h.nc, h.cm, by
    rcases h.at_ with h0 | ⟨g, h1, h2, h3, h4, h5, h6⟩
    · exact .inl h0
    · exact .inr ⟨g, h1, h2, h3, h4, h5, fun j hj => by
        have hj2 : j < l.length := by rw [List.length_take] at hj; omega
        rw [h6 j hj2, List.getElem_take]⟩⟩

/-! ### A block into a state -/
def segL (blk : List UInt8) (i : Nat) : List UInt8 := (blk.drop (8 * i)).take 8
def xorTo (st : List UInt64) (blk : List UInt8) (i : Nat) : List UInt64 := (List.range 25).map fun j => if j < i then lane st j ^^^ le64 (segL blk j) else lane st j
theorem xorTo_length (st : List UInt64) (blk : List UInt8) (i : Nat) : (xorTo st blk i).length = 25 := by simp [xorTo]
theorem xorTo_zero (st : List UInt64) (blk : List UInt8) (h : st.length = 25) : xorTo st blk 0 = st := by
  have := lane_self st h
  unfold xorTo
  simpa using this
theorem xorTo_at (st : List UInt64) (blk : List UInt8) (i : Nat) (h : i < 25) : lane (xorTo st blk i) i = lane st i := by
  unfold xorTo
  rw [lane_map _ _ h, if_neg (by omega)]
theorem xorTo_step (st : List UInt64) (blk : List UInt8) (i : Nat) : (xorTo st blk i).set i (lane st i ^^^ le64 (segL blk i)) = xorTo st blk (i + 1) := by
  apply List.ext_getElem
  · simp [xorTo]
  · intro j h1 h2
    by_cases e : i = j
    · subst e; simp [xorTo]
    · rw [List.getElem_set_ne e]
      simp only [xorTo, List.getElem_map, List.getElem_range]
      by_cases hi : j < i
      · rw [if_pos hi, if_pos (by omega)]
      · rw [if_neg hi, if_neg (by omega)]
theorem xorTo_full (st : List UInt64) (blk : List UInt8) : xorTo st blk 17 = xorB st blk := rfl

def blkL (t : List UInt8) (k : Nat) : List UInt8 := (t.drop (136 * k)).take 136
theorem segL_length (t : List UInt8) (k i : Nat) (h : 136 * (k + 1) ≤ t.length) (hi : i < 17) : (segL (blkL t k) i).length = 8 := by simp [segL, blkL]; omega
theorem segL_at (t : List UInt8) (k i n : Nat) (h : 136 * (k + 1) ≤ t.length) (hi : i < 17) (hn : n < 8) : (segL (blkL t k) i)[n]'(by rw [segL_length t k i h hi]; exact hn) = t[136 * k + 8 * i + n]'(by omega) := by
  simp [segL, blkL, Nat.add_assoc]
theorem segL_step (t : List UInt8) (k i n : Nat) (h : 136 * (k + 1) ≤ t.length) (hi : i < 17) (hn : n < 8) : le64 ((segL (blkL t k) i).drop n) = le64 ((segL (blkL t k) i).drop (n + 1)) * 256 + (t[136 * k + 8 * i + n]'(by omega)).toUInt64 := by
  rw [List.drop_eq_getElem_cons (by rw [segL_length t k i h hi]; exact hn), segL_at t k i n h hi hn]
  rfl
theorem horner (x : UInt64) (c : UInt8) : IntKind.u64.wrap (IntKind.u64.wrap ((x.toNat : Int) * 256) + (c.toNat : Int)) = ((x * 256 + c.toUInt64).toNat : Int) := by
  rw [UInt64.toNat_add, UInt64.toNat_mul, wrap_u64x, wrap_u64x]
  have h1 : (256 : UInt64).toNat = 256 := rfl
  have h2 : c.toUInt64.toNat = c.toNat := by simp
  rw [h1, h2]
  omega

/-! ### The first bytes of a state -/
theorem gByte_eq (s : List UInt64) (i j : Nat) (hj : j < 8) : ((lane s i).toNat / 256 ^ j) % 256 = (gByte s (8 * i + j)).toNat := by
  have h := shrQ (lane s i) (8 * j) (by omega)
  unfold gByte
  rw [show (8 * i + j) / 8 = i by omega, show 8 * ((8 * i + j) % 8) = 8 * j by omega]
  have e : (256 : Nat) ^ j = 2 ^ (8 * j) := by rw [Nat.pow_mul]
  rw [e]
  rw [pow_cast] at h
  omega
theorem give_step (s : List UInt64) (n : Nat) (h : n < 136) : (giveL s).take n ++ [gByte s n] = (giveL s).take (n + 1) := by
  have hl := giveL_length s
  rw [List.take_succ_eq_append_getElem (by omega)]
  congr 2
  simp [giveL, gByte]
end Go.Proofs.Sl
