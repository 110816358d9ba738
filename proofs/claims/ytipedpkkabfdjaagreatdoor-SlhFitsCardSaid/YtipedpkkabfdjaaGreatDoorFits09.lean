/- The document's SHAKE256. shake.Sum and the document's Sum. adrs.Tweak and the document's Tweak: a sum without masks. What the layers 7, 17 and 18 compute, as plain functions. -/
import Derived.Test.YtipedpkkabfdjaaGreatDoorFits08
import Derived.Test.YtipedpkkabfdjaaGreatDoorFits04
import Derived.Test.YtipedpkkabfdjaaGreatDoorFits07
/- The document's SHAKE256. -/
namespace Go.Proofs.Sl
open Go Go.RowKit Go.Proofs

/-- The text, the constants, the state: in rows of their own. -/
structure SS (w : World) (gt N ct b5 b7 : Nat) (pt : List UInt8) (rc S : List UInt64) (wr : World) : Prop where
  n1 : gt ≠ b7
  n2 : b5 ≠ b7
  t : Own eB w.heap.size wr (some ⟨gt, 0, none⟩) N ct pt
  r : Own eQ w.heap.size wr (some ⟨b5, 0, none⟩) 24 24 rc
  s : Own eQ w.heap.size wr (some ⟨b7, 0, none⟩) 25 25 S
  b : Below w.heap.size w wr
section
variable {w wr wr' : World} {gt N ct b5 b7 : Nat} {pt : List UInt8} {rc S : List UInt64}
theorem SS.setS (h : SS w gt N ct b5 b7 pt rc S wr) (k : Nat) (hk : k < 25) (v : UInt64) : SS w gt N ct b5 b7 pt rc (S.set k v) (wr.setCell ⟨b7, k, none⟩ (eQ v)) :=
  ⟨h.n1, h.n2, h.t.set_other ⟨b7, k, none⟩ _ (ne_block h.n1), h.r.set_other ⟨b7, k, none⟩ _ (ne_block h.n2), h.s.set k hk v, h.b.setCell (p := ⟨b7, k, none⟩) h.s.base.1 _⟩
theorem SS.setAll (h : SS w gt N ct b5 b7 pt rc S wr) (q : List UInt64) (hq : q.length = 25) : SS w gt N ct b5 b7 pt rc q (wr.setCells b7 0 (q.map eQ)) :=
  ⟨h.n1, h.n2, h.t.setAll_other (β := Unit) (ne_block h.n1) (q.map eQ) 0, h.r.setAll_other (β := Unit) (ne_block h.n2) (q.map eQ) 0, h.s.setAll q hq, below_setCells h.s.base.1 (q.map eQ) 0 _ h.b⟩
theorem SS.grow (h : SS w gt N ct b5 b7 pt rc S wr) (g : Grow wr wr') : SS w gt N ct b5 b7 pt rc S wr' := ⟨h.n1, h.n2, h.t.below g, h.r.below g, h.s.below g, h.b.trans (g.mono h.b.size)⟩
end
theorem horner2 (x : UInt64) (c : UInt8) : IntKind.u64.wrap (IntKind.u64.wrap ((x.toNat : Int) * 256) + IntKind.u64.wrap (c.toNat : Int)) = ((x * 256 + c.toUInt64).toNat : Int) := by
  have hc := c.toNat_lt
  rw [← horner, wraps_u64 (c.toNat : Int) (by omega) (by omega)]
theorem zerosL_eq {l : List UInt8} {n : Nat} (h : l.length = n) : zerosL l = (136 - (n + 1) % 136) % 136 := by rw [zerosL, h]

set_option maxHeartbeats 16000000 in
set_option maxRecDepth 100000 in
theorem rshake_sum (A : Option Addr) (n c : Nat) (l : List UInt8) (k : Nat) (w : World) (h : Rd eB w A n l) (hl : l.length ≤ 1048576) (hk0 : 1 ≤ k) (hk : k ≤ 136) :
    Calls Tryz.prog 33 #[.slice A n c, .int .i64 (k : Int)] w (RetOwn eB w (shakeL l k)) := by
  have hz := zero_of_info infoS
  have hz4 := zero_of_info infoR
  obtain ⟨zs, hzs⟩ : ∃ zs, List.replicate 25 (0 : UInt64) = zs := ⟨_, rfl⟩
  rw [hzs] at hz
  have HZS := Lib.hid hzs
  have HZL : Hid (zs.length = 25) := Lib.hid (by rw [← hzs]; simp)
  obtain ⟨zr, hzr⟩ : ∃ zs, List.replicate 24 (0 : UInt64) = zs := ⟨_, rfl⟩
  rw [hzr] at hz4
  have HZR : Hid (zr.length = 24) := Lib.hid (by rw [← hzr]; simp)
  obtain ⟨rc, hrc⟩ : ∃ rc, rcU = rc := ⟨_, rfl⟩
  have HRL : Hid (rc.length = 24) := Lib.hid (by rw [← hrc]; rfl)
  have HCON : Hid (∀ w, Calls Tryz.prog 71 #[] w (RetV w (.agg (rc.map eQ).toArray))) := Lib.hid (by rw [← hrc]; exact consts_any)
  have HPERM : Hid (∀ (st : List UInt64) w, st.length = 25 → Calls Tryz.prog 72 #[.agg (st.map eQ).toArray, .agg (rc.map eQ).toArray] w (RetV w (.agg ((permL st).map eQ).toArray))) := Lib.hid (by rw [← hrc]; exact rperm_any)
  have hlen := h.len
  have hn9 : n ≤ 1048576 := by omega
  have HH := Lib.hid h
  have HLEN := Lib.hid hlen
  clear h hl hzs hzr hrc hlen
  unfold vSt at hz hz4
  go_enter Tryz.func33, Tryz.ntmps33
  go_wp2_with fail
  refine (HCON.out w).mono ?_
  rintro e w1 ⟨rfl, g1⟩
  have hR0 : Own eQ w.heap.size (w1.alloc (.cells (zr.map eQ).toArray 98)) (some ⟨w1.heap.size, 0, none⟩) 24 24 zr := by
    have := Own.new (enc := eQ) (B := w.heap.size) w1 98 zr g1.size (by rw [HZR.out]; omega)
    rw [HZR.out] at this
    exact this
  have hg1 := g1.alloc g1.size (.cells (zr.map eQ).toArray 98)
  have HTR : Hid ((w1.alloc (.cells (zr.map eQ).toArray 98)).there w1.heap.size 0 (rc.map eQ).toArray.size) := Lib.hid (there24 hR0 (by simp [HRL.out]))
  have HSA4 : Hid ((Tryz.prog.info? 98).map (·.size) = some (rc.map eQ).toArray.size) := Lib.hid (by rw [hz4.2]; simp [HRL.out])
  have HSZ4 : Hid ((Tryz.prog.info? 98).map (·.size) = some (rc.map eQ).length) := Lib.hid (by rw [hz4.2]; simp [HRL.out])
  have HONE := Lib.hid (one25 rc)
  have HRC0 := Lib.hid (hR0.setAll rc HRL.out)
  have HG0 := Lib.hid (below_setCells g1.size (rc.map eQ) 0 _ hg1)
  clear hR0 hg1 g1
  go_upto_region 4 with (refine wpList_store_mid rfl 98 (.tmp 5) (.tmp 22) rfl w1.heap.size 0 (rc.map eQ).toArray rfl rfl HTR.out HSA4.out HONE.out ?_)
  clear hz4 HTR HSA4 HONE
  generalize World.setCells (World.alloc w1 _) _ _ _ = w3 at *
  generalize w1.heap.size = b5 at *
  have HO0 : Hid (Own eB w3.heap.size (w3.alloc (.cells #[] 5)) (some ⟨w3.heap.size, 0, none⟩) 0 0 []) := Lib.hid (Own.new (B := w3.heap.size) (enc := eB) w3 5 [] (Nat.le_refl _) (by simp))
  have hg0 : Below w3.heap.size w3 (w3.alloc (.cells #[] 5)) := (Below.refl _ _).alloc (Nat.le_refl _) _
  have HH0 := Lib.hid (HH.out.below (HG0.out.trans (hg0.mono HG0.out.size)))
  have HGA := Lib.hid hg0
  have hgs := hg0.size
  clear hg0
  go_wp2_with (at_builtin; first | (refine wpList_append_sl rfl _ _ 24 5 (.int .u8 0) 1 rfl Tryz.underlying24 infoB rfl (fun _ => rfl) rfl rfl HO0.out HH0.out (by omega) (by omega) hgs ?_; intro A1 c1 w5 h1 h2 h3; have H1 : Hid (Own eB w3.heap.size w5 A1 n c1 l) := Lib.hid (by simpa using h1); have H3 : Hid (Grow w3 w5) := Lib.hid (Below.trans HGA.out h3); clear h1 h2 h3 HO0 HGA HH0 hgs) | (have HO1 := Lib.hid (H1.out.alloc (.cells #[.int .u8 31] 5)); have HR1 : Hid (Rd eB (w5.alloc (.cells #[Value.int .u8 31] 5)) (some ⟨w5.heap.size, 0, none⟩) 1 [31]) := Lib.hid (rowB1 (cell_new ..)); have hs5 : w3.heap.size ≤ (w5.alloc (.cells #[Value.int .u8 31] 5)).heap.size := (by have := H3.out.size; simp; omega); have H3a := Lib.hid (H3.out.alloc H3.out.size (.cells #[.int .u8 31] 5)); refine wpList_append_sl rfl _ _ 24 5 (.int .u8 0) 1 rfl Tryz.underlying24 infoB rfl (fun _ => rfl) rfl rfl HO1.out HR1.out (by omega) (by omega) hs5 ?_; intro A2 c2 w6 h1 h2 h3; have H6 := Lib.hid h1; have H7 : Hid (Grow w3 w6) := Lib.hid (Below.trans H3a.out h3); clear h1 h2 h3 H1 H3 HO1 HR1 hs5 H3a))
  clear HH
  go_loopw [6] (fun v wr => ∃ (j : Nat) (A' : Option Addr) (c' : Nat), j ≤ zerosL l ∧ v = .slice A' (n + 1 + j) c' ∧ Own eB w3.heap.size wr A' (n + 1 + j) c' (l ++ [31] ++ List.replicate j 0) ∧ Grow w3 wr) (fun v _ => zerosL l + n + 1 - slLen v)
  case atStart => exact ⟨0, _, _, Nat.zero_le _, rfl, by simpa using H6.out, H7.out⟩
  case round =>
    clear H6 H7
    obtain ⟨j, A2, c2, hj, rfl, ho, hb⟩ := hrel
    have hzl := zerosL_eq HLEN.out
    have hz200 : zerosL l < 136 := by omega
    by_cases hlt : j < zerosL l
    · have hne : (((n : Int) + 1 + (j : Int)) % 136 != 0) = true := by simp only [bne_iff_ne]; omega
      have HO := Lib.hid (ho.alloc (.cells #[Value.int .u8 0] 5))
      have HR : Hid (Rd eB (wr.alloc (.cells #[Value.int .u8 0] 5)) (some ⟨wr.heap.size, 0, none⟩) 1 [0]) := Lib.hid (rowB1 (cell_new ..))
      have hsz : w3.heap.size ≤ (wr.alloc (.cells #[Value.int .u8 0] 5)).heap.size := by have := hb.size; simp; omega
      have HB := Lib.hid (hb.alloc hb.size (.cells #[Value.int .u8 0] 5))
      have HE : Hid (l ++ [31] ++ List.replicate j 0 ++ [0] = l ++ [31] ++ List.replicate (j + 1) 0) := Lib.hid (by rw [List.replicate_succ']; simp only [List.append_assoc])
      have HZ := Lib.hid hzl
      clear ho hb hzl
      go_wp2_with (at_builtin; refine wpList_append_sl rfl _ _ 24 5 (.int .u8 0) 1 rfl Tryz.underlying24 infoB rfl (fun _ => rfl) rfl rfl HO.out HR.out (by omega) (by omega) hsz ?_; intro A' c' w' h3 h4 h5; rw [HE.out] at h3; have H3 := Lib.hid h3; have H5 := Lib.hid (HB.out.trans h5); clear h3 h4 h5)
      exact ⟨⟨j + 1, _, _, by omega, rfl, H3.out, H5.out⟩, by simp only [slLen]; omega⟩
    · obtain rfl : j = zerosL l := by omega
      have hne : (((n : Int) + 1 + (zerosL l : Int)) % 136 != 0) = false := by simp only [bne_eq_false_iff_eq]; omega
      have hpl : (padL l).length = n + 1 + zerosL l := by simp [padL, HLEN.out]; omega
      have hmod : (n + 1 + zerosL l) % 136 = 0 := by omega
      have hcast : ((n : Int) + 1 + (zerosL l : Int)) = ((n + 1 + zerosL l : Nat) : Int) := by omega
      rw [hcast] at hne
      obtain ⟨N, hN⟩ : ∃ N, n + 1 + zerosL l = N := ⟨_, rfl⟩
      rw [hN] at hne hpl hmod ho
      have hN0 : 0 < N := by omega
      have hN9 : N ≤ 1048800 := by omega
      obtain ⟨g, rfl⟩ : ∃ g, A2 = some ⟨g, 0, none⟩ := by
        rcases ho.at_ with ⟨h1, h2⟩ | ⟨g, h1, _⟩
        · have := ho.nc; omega
        · exact ⟨g, h1⟩
      obtain ⟨lb, hlb, q0⟩ : ∃ lb, (l ++ [31] ++ List.replicate (zerosL l) 0).getD (N - 1) 0 = lb ∧ wr.cell? ⟨g, N - 1, none⟩ = some (eB lb) := by
        refine ⟨_, rfl, ?_⟩
        have hl2 : (l ++ [31] ++ List.replicate (zerosL l) (0 : UInt8)).length = N := ho.len
        rw [ho.cell_at (N - 1) (by omega)]
        generalize l ++ [31] ++ List.replicate (zerosL l) 0 = t at *
        simp [List.getD, show N - 1 < t.length by omega]
      have f0 := ho.free_at (N - 1) (by omega)
      have hpe : padL l = (l ++ [31] ++ List.replicate (zerosL l) 0).set (N - 1) ((l ++ [31] ++ List.replicate (zerosL l) 0).getD (N - 1) 0 ^^^ 128) := by
        have hl2 : (l ++ [31] ++ List.replicate (zerosL l) (0 : UInt8)).length = N := ho.len
        unfold padL
        simp only []
        rw [hl2]
      rw [hlb] at hpe
      have hx := xor80 lb
      generalize lb ^^^ 128 = l8 at *
      rw [hN]
      have e1 : ((N : Int) - 1).toNat = N - 1 := by omega
      have hcN : ((n : Int) + 1 + (zerosL l : Int)) = (N : Int) := by omega
      have hset := ho.set (N - 1) (by omega) l8
      rw [← hpe] at hset
      have HX := Lib.hid hx
      have hBg := ho.base
      have hb' := hb.setCell (p := ⟨g, N - 1, none⟩) hBg.1 (eB l8)
      have hgz : g < (wr.setCell ⟨g, N - 1, none⟩ (eB l8)).heap.size := hset.base.2
      have hrc0 := HRC0.out.base
      have HSET : Hid (Own eB w.heap.size (wr.setCell ⟨g, N - 1, none⟩ (eB l8)) (some ⟨g, 0, none⟩) N c2 (padL l) ∧ Own eQ w.heap.size (wr.setCell ⟨g, N - 1, none⟩ (eB l8)) (some ⟨b5, 0, none⟩) 24 24 rc ∧ Below w.heap.size w (wr.setCell ⟨g, N - 1, none⟩ (eB l8)) ∧ g < (wr.setCell ⟨g, N - 1, none⟩ (eB l8)).heap.size ∧ b5 < (wr.setCell ⟨g, N - 1, none⟩ (eB l8)).heap.size) :=
        Lib.hid ⟨hset.mono HG0.out.size, HRC0.out.below hb', HG0.out.trans (hb'.mono HG0.out.size), hgz, Nat.lt_of_lt_of_le hrc0.2 hb'.size⟩
      obtain ⟨M, hM⟩ : ∃ M, (padL l).length / 136 = M := ⟨_, rfl⟩
      have hNM : N = 136 * M := by omega
      have HRES : Hid (shakeL l k = (giveL (absorbL (padL l) M)).take k) := Lib.hid (by rw [← hM]; rfl)
      have HNM := Lib.hid hNM
      have HPL := Lib.hid hpl
      have hM9 : M ≤ 10000 := by omega
      clear hpe hb ho hmod hpl hN hcast hzl hlt hj hlb hset hx hBg hb' hgz hrc0 hM hNM HRC0
      go_wp2_with fail
      rw [HX.out]
      have HS0 : Hid (SS w g N c2 b5 (wr.setCell ⟨g, N - 1, none⟩ (eB l8)).heap.size (padL l) rc (absorbL (padL l) 0) ((wr.setCell ⟨g, N - 1, none⟩ (eB l8)).alloc (.cells (zs.map eQ).toArray 100))) := Lib.hid (by
        obtain ⟨q1, q2, q3, q4, q5⟩ := HSET.out
        have hn := Own.new (enc := eQ) (B := w.heap.size) (wr.setCell ⟨g, N - 1, none⟩ (eB l8)) 100 zs q3.size (by rw [HZL.out]; omega)
        rw [HZL.out] at hn
        refine ⟨by omega, by omega, q1.alloc _, q2.alloc _, ?_, q3.alloc q3.size _⟩
        have e0 : absorbL (padL l) 0 = zs := HZS.out
        rw [e0]
        exact hn)
      have hsz0 : (wr.setCell ⟨g, N - 1, none⟩ (eB l8)).heap.size = wr.heap.size := by simp [World.setCell]
      rw [hsz0] at HS0
      clear HSET q0 f0 HX e1 hne hcN hsz0
      generalize World.alloc (World.setCell wr _ _) _ = w8 at *
      generalize wr.heap.size = b7 at *
      generalize padL l = pt at *
      have HPT : Hid (∀ q : List UInt64, q.length = 25 → (Tryz.prog.info? 100).map (·.size) = some (q.map eQ).length ∧ (Tryz.prog.info? 100).map (·.size) = some (q.map eQ).toArray.size) := Lib.hid (fun q hq => ⟨by rw [hz.2, List.length_map, hq], by rw [hz.2]; simp [hq]⟩)
      clear hz
      go_loopw [8] (fun v wr => ∃ kk a : Nat, kk ≤ M ∧ a = 136 * kk ∧ v = .int .i64 (a : Int) ∧ SS w g N c2 b5 b7 pt rc (absorbL pt kk) wr) (fun v _ => N - (intOf v).toNat)
      case atStart => exact ⟨0, 0, Nat.zero_le _, rfl, rfl, HS0.out⟩
      case round =>
        clear HS0
        obtain ⟨kk, a, hkk, haa, rfl, hr⟩ := hrel
        have HR := Lib.hid hr
        have HAA := Lib.hid haa
        clear hr haa
        by_cases hlt : kk < M
        · have haN : a + 136 ≤ N := by have := HAA.out; have := HNM.out; omega
          have hltN : a < N := by omega
          have HB136 : Hid (136 * (kk + 1) ≤ pt.length) := Lib.hid (by rw [HPL.out]; have := HNM.out; omega)
          have HST : Hid ((absorbL pt kk).length = 25) := Lib.hid (absorbL_length _ _)
          have HNEXT : Hid (absorbL pt (kk + 1) = permL (xorB (absorbL pt kk) (blkL pt kk))) := Lib.hid rfl
          obtain ⟨st, hst⟩ : ∃ st, absorbL pt kk = st := ⟨_, rfl⟩
          rw [hst] at HR HST HNEXT
          clear hst
          have HR0 : Hid (SS w g N c2 b5 b7 pt rc (xorTo st (blkL pt kk) 0) wr) := Lib.hid (by rw [xorTo_zero _ _ HST.out]; exact HR.out)
          clear HR
          go_wp2_with fail
          go_loopw [9] (fun v wr => ∃ i : Nat, i ≤ 17 ∧ v = .int .i64 (i : Int) ∧ SS w g N c2 b5 b7 pt rc (xorTo st (blkL pt kk) i) wr) (fun v _ => 17 - (intOf v).toNat)
          case atStart => exact ⟨0, Nat.zero_le _, rfl, HR0.out⟩
          case round =>
            clear HR0
            obtain ⟨i, hi, rfl, hr⟩ := hrel
            have HR := Lib.hid hr
            clear hr
            by_cases hil : i < 17
            · go_wp2_with fail
              go_loopw [10, 11] (fun v t wr => ∃ j : Nat, j ≤ 8 ∧ v = .int .u64 ((le64 ((segL (blkL pt kk) i).drop (8 - j))).toNat : Int) ∧ t = .int .i64 (7 - (j : Int)) ∧ SS w g N c2 b5 b7 pt rc (xorTo st (blkL pt kk) i) wr) (fun _ t _ => (intOf t + 1).toNat)
              case atStart => exact ⟨0, Nat.zero_le _, by rw [show 8 - 0 = 8 from rfl, List.drop_of_length_le (by rw [segL_length pt kk i HB136.out hil]; omega)]; rfl, rfl, HR.out⟩
              case round =>
                clear HR
                obtain ⟨j, hj, rfl, rfl, hr⟩ := hrel
                by_cases hjl : j < 8
                · have hix : a + 8 * i + (7 - j) < N := by omega
                  have q0 := hr.t.cell_at (a + 8 * i + (7 - j)) hix
                  have hsg := segL_step pt kk i (7 - j) HB136.out hil (by omega)
                  rw [show 7 - j + 1 = 8 - j by omega] at hsg
                  simp only [← HAA.out] at hsg
                  generalize hcb : pt[a + 8 * i + (7 - j)]'(by rw [HPL.out]; exact hix) = cb at *
                  have e1 : ((a : Int) + 8 * (i : Int) + (7 - (j : Int))).toNat = a + 8 * i + (7 - j) := by omega
                  generalize le64 ((segL (blkL pt kk) i).drop (8 - j)) = x at *
                  have HHO := Lib.hid (horner2 x cb)
                  have hx9 := x.toNat_lt
                  have HSG := Lib.hid hsg
                  have HR := Lib.hid hr
                  clear hsg hr hcb
                  generalize x.toNat = xn at *
                  go_wp2
                  go_roundw
                  case rel => exact ⟨j + 1, by omega, by rw [show 8 - (j + 1) = 7 - j by omega, HSG.out, ← HHO.out], by go_num, HR.out⟩
                  case measure => simp [intOf]; omega
                · have hj8 : j = 8 := by omega
                  have hsg : (segL (blkL pt kk) i).drop (8 - j) = segL (blkL pt kk) i := by rw [hj8]; rfl
                  rw [hsg]
                  have q0 := lane_cell hr.s i (by omega)
                  rw [xorTo_at _ _ _ (by omega)] at q0
                  have f0 := hr.s.free_at i (by omega)
                  have hxs := xorTo_step st (blkL pt kk) i
                  have hset := hr.setS i (by omega) (lane st i ^^^ le64 (segL (blkL pt kk) i))
                  rw [hxs] at hset
                  have hxq := xorQ (lane st i) (le64 (segL (blkL pt kk) i))
                  generalize le64 (segL (blkL pt kk) i) = x at *
                  generalize lane st i = u at *
                  generalize u ^^^ x = y at *
                  have HSET := Lib.hid hset
                  clear hset hxs hr hsg hj8
                  go_wp2
                  go_roundw
                  case rel => exact ⟨i + 1, by omega, by go_num, HSET.out⟩
                  case measure => simp [intOf]; omega
            · have hi17 : i = 17 := by omega
              rw [hi17, xorTo_full] at HR
              clear hi17
              have hlq : (xorB st (blkL pt kk)).length = 25 := by simp [xorB]
              generalize xorB st (blkL pt kk) = q at *
              have HCP := Lib.hid (HPERM.out q wr hlq)
              have hlp := permL_length q
              generalize permL q = p at *
              have HRG := Lib.hid (range25 HR.out.s)
              have HRG4 := Lib.hid (range24 HR.out.r)
              have HSZ := Lib.hid (HPT.out q hlq).1
              have HSA := Lib.hid (HPT.out p hlp).2
              have HLP := Lib.hid hlp
              clear hlq hlp
              go_wp2_with (first | refine wpList_load_mid rfl 100 (.tmp 7) rfl b7 0 rfl (q.map eQ) _ HRG.out Tryz.underlying100 rfl HSZ.out ?_ | refine wpList_load_mid rfl 98 (.tmp 5) rfl b5 0 rfl (rc.map eQ) _ HRG4.out Tryz.underlying98 rfl HSZ4.out ?_)
              refine HCP.out.mono ?_
              rintro e w9 ⟨rfl, g9⟩
              have hg9 : Grow wr w9 := g9
              have hr9 := HR.out.grow hg9
              have HTR : Hid (w9.there b7 0 (p.map eQ).toArray.size) := Lib.hid (there25 hr9.s (by simp [HLP.out]))
              have HONE := Lib.hid (one25 p)
              have HS9 := Lib.hid (hr9.setAll p HLP.out)
              clear hg9 g9 hr9 HCP HRG HRG4 HR
              go_wp2_with (refine wpList_store_mid rfl 100 (.tmp 7) (.tmp 83) rfl b7 0 (p.map eQ).toArray rfl rfl HTR.out HSA.out HONE.out ?_)
              go_roundw
              case rel => exact ⟨kk + 1, a + 136, by omega, by rw [HAA.out]; omega, by go_num, by rw [HNEXT.out]; exact HS9.out⟩
              case measure => simp [intOf]; omega
        · have hkM : kk = M := by omega
          have haN : a = N := by rw [HAA.out, HNM.out, hkM]
          rw [hkM] at HR
          generalize absorbL pt M = st at *
          clear hkM hlt hkk HAA
          subst haN
          generalize wr = wS at *
          have HBS := Lib.hid HR.out.b
          go_wp2_with fail
          go_loopw [12] (fun v wr => (v = .slice none 0 0 ∧ wS = wr) ∨ (∃ A' c', v = .slice A' 136 c' ∧ Own eB w.heap.size wr A' 136 c' (giveL st) ∧ Below w.heap.size w wr)) (fun v _ => 136 - slLen v)
          case atStart => exact .inl ⟨rfl, rfl⟩
          case round =>
            rcases hrel with ⟨rfl, rfl⟩ | ⟨A', c', rfl, ho, hb⟩
            · have hpk : (0 : Int) < (k : Int) := by omega
              go_wp2_with fail
              clear hpk
              try rw [show decide (0 < k) = true from decide_eq_true (by omega)]
              try rw [show decide ((0 : Int) < (k : Int)) = true from decide_eq_true (by omega)]
              go_loopw [12, 13] (fun v t wr => ∃ (i : Nat) (A' : Option Addr) (c' : Nat), i ≤ 17 ∧ t = .int .i64 (i : Int) ∧ v = .slice A' (8 * i) c' ∧ Own eB wS.heap.size wr A' (8 * i) c' ((giveL st).take (8 * i)) ∧ Grow wS wr) (fun _ t _ => 17 - (intOf t).toNat)
              case atStart => exact ⟨0, none, 0, Nat.zero_le _, rfl, rfl, Own.nil _ _, Grow.refl _⟩
              case round =>
                obtain ⟨i, A1', c1', hi, rfl, rfl, ho, hg⟩ := hrel
                have HO := Lib.hid ho
                have HG := Lib.hid hg
                clear ho hg
                by_cases hil : i < 17
                · have q0 := lane_cell (HR.out.grow HG.out).s i (by omega)
                  have hx64 := (lane st i).toNat_lt
                  have HGB : Hid (∀ j, j < 8 → (lane st i).toNat / 256 ^ j % 256 = (gByte st (8 * i + j)).toNat) := Lib.hid (fun j hj => gByte_eq st i j hj)
                  generalize (lane st i).toNat = X at *
                  have HX64 := Lib.hid hx64
                  clear hx64
                  go_wp2_with fail
                  clear q0
                  rw [show decide ((i : Int) < 17) = true from decide_eq_true (by omega)]
                  go_loopw [12, 14, 15] (fun v u t wr => ∃ (j : Nat) (A' : Option Addr) (c' : Nat), j ≤ 8 ∧ t = .int .i64 (j : Int) ∧ u = .int .u64 ((X / 256 ^ j : Nat) : Int) ∧ v = .slice A' (8 * i + j) c' ∧ Own eB wS.heap.size wr A' (8 * i + j) c' ((giveL st).take (8 * i + j)) ∧ Grow wS wr) (fun _ _ t _ => 8 - (intOf t).toNat)
                  case atStart => exact ⟨0, A1', c1', Nat.zero_le _, rfl, by simp, rfl, HO.out, HG.out⟩
                  case round =>
                    clear HO HG
                    obtain ⟨j, A2', c2', hj, rfl, rfl, rfl, ho, hg⟩ := hrel
                    by_cases hjl : j < 8
                    · have hgb := HGB.out j hjl
                      have hstep : X / 256 ^ (j + 1) = X / 256 ^ j / 256 := by rw [Nat.pow_succ, Nat.div_div_eq_div_mul]
                      have hle : X / 256 ^ j ≤ X := Nat.div_le_self _ _
                      have hgi := give_step st (8 * i + j) (by omega)
                      generalize X / 256 ^ j = x at *
                      generalize gByte st (8 * i + j) = gb at *
                      have hm : (x : Int) % 256 = (gb.toNat : Int) := by omega
                      have hgl := gb.toNat_lt
                      have hx0 : (0 : Int) ≤ (x : Int) := by omega
                      have HST := Lib.hid (And.intro hstep (And.intro hgi hle))
                      have HN : Hid (Rd eB (wr.alloc (.cells #[.int .u8 (gb.toNat : Int)] 5)) (some ⟨wr.heap.size, 0, none⟩) 1 [gb]) := Lib.hid (rowB1 (cell_new ..))
                      have HO := Lib.hid (ho.alloc (.cells #[.int .u8 (gb.toNat : Int)] 5))
                      have HB : Hid (Below wS.heap.size wS (wr.alloc (.cells #[.int .u8 (gb.toNat : Int)] 5))) := Lib.hid (hg.alloc hg.size _)
                      have hbs : wS.heap.size ≤ (wr.alloc (.cells #[.int .u8 (gb.toNat : Int)] 5)).heap.size := HB.out.size
                      clear hstep hgi ho hg hgb hle
                      go_wp2_with (at_builtin; refine wpList_append_sl rfl _ _ 24 5 (.int .u8 0) 1 rfl Tryz.underlying24 infoB rfl (fun _ => rfl) rfl rfl HO.out HN.out (by omega) (by omega) hbs ?_; intro A' c' w' h1 h2 h3; have H1 := Lib.hid h1; have H3 : Hid (Grow wS w') := Lib.hid (Below.trans HB.out h3); clear h1 h2 h3)
                      go_roundw
                      case rel =>
                        obtain ⟨hx1, hx2, hx3⟩ := HST.out
                        refine ⟨j + 1, A', c', by omega, by go_num, ?_, rfl, by rw [← Nat.add_assoc, ← hx2]; exact H1.out, H3.out⟩
                        rw [hx1, IntKind.wrap_u64]
                        have := HX64.out
                        congr 1
                        omega
                      case measure => simp [intOf]; omega
                    · have hj8 : j = 8 := by omega
                      have e8 : 8 * i + j = 8 * (i + 1) := by omega
                      rw [e8] at ho ⊢
                      have HO := Lib.hid ho
                      have HG := Lib.hid hg
                      clear ho hg hj8 e8
                      go_wp2_with fail
                      go_roundw
                      case rel => exact ⟨i + 1, A2', c2', by omega, by go_num, rfl, HO.out, HG.out⟩
                      case measure => simp [intOf]; omega
                · have hi17 : 8 * i = 136 := by omega
                  rw [hi17] at HO ⊢
                  have hft : (giveL st).take 136 = giveL st := List.take_of_length_le (by rw [giveL_length]; omega)
                  rw [hft] at HO
                  clear hi17 hft
                  have hlq := HR.out.s.len
                  have HCP := Lib.hid (HPERM.out st wr hlq)
                  have hlp := permL_length st
                  generalize permL st = p at *
                  have HRW := Lib.hid (HR.out.grow HG.out)
                  have HRG := Lib.hid (range25 HRW.out.s)
                  have HRG4 := Lib.hid (range24 HRW.out.r)
                  have HSZ := Lib.hid (HPT.out st hlq).1
                  have HSA := Lib.hid (HPT.out p hlp).2
                  have HLP := Lib.hid hlp
                  have HB7 := Lib.hid HR.out.s.base.2
                  clear hlq hlp
                  go_wp2_with (first | refine wpList_load_mid rfl 100 (.tmp 7) rfl b7 0 rfl (st.map eQ) _ HRG.out Tryz.underlying100 rfl HSZ.out ?_ | refine wpList_load_mid rfl 98 (.tmp 5) rfl b5 0 rfl (rc.map eQ) _ HRG4.out Tryz.underlying98 rfl HSZ4.out ?_)
                  refine HCP.out.mono ?_
                  rintro e w9 ⟨rfl, g9⟩
                  have hg9 : Grow wr w9 := g9
                  have hr9 := HRW.out.grow hg9
                  have HTR : Hid (w9.there b7 0 (p.map eQ).toArray.size) := Lib.hid (there25 hr9.s (by simp [HLP.out]))
                  have HONE := Lib.hid (one25 p)
                  have HS9 := Lib.hid (hr9.setAll p HLP.out)
                  have ho9 := HO.out.below hg9
                  have HO9 := Lib.hid (ho9.setAll_other (β := Unit) (g := b7) (fun e => by have := (ho9.lt b7 e (by have := ho9.nc; omega)).1; have := HB7.out; omega) (p.map eQ) 0)
                  clear hg9 g9 hr9 HCP HRG HRG4 ho9 HO
                  go_wp2_with (refine wpList_store_mid rfl 100 (.tmp 7) (.tmp 109) rfl b7 0 (p.map eQ).toArray rfl rfl HTR.out HSA.out HONE.out ?_)
                  go_roundw
                  case rel =>
                    repeat apply Exists.intro
                    exact ⟨.inr ⟨_, _, rfl, HO9.out.mono HBS.out.size, HS9.out.b⟩, rfl⟩
                  case measure => exact (by decide : 136 - 136 < 136 - 0)
            · obtain ⟨g', rfl⟩ : ∃ g', A' = some ⟨g', 0, none⟩ := by
                rcases ho.at_ with ⟨h1, h2⟩ | ⟨g, h1, _⟩
                · have := ho.nc; omega
                · exact ⟨g, h1⟩
              have hnc := ho.nc
              have HO := Lib.hid (ho.takeN (m := k) (by omega))
              have HB := Lib.hid hb
              clear ho hb
              go_wp2_with fail
              go_ret
              exact ⟨_, _, _, rfl, by rw [HRES.out]; exact HO.out, HB.out⟩
end Go.Proofs.Sl

/- shake.Sum and the document's Sum. -/
namespace Go.Proofs.Sl
open Go.RowKit Go.Proofs

theorem shake_any (A : Option Addr) (n c : Nat) (l : List UInt8) (k : Nat) (w : World) (hL : Laid w) (h : Rd eB w A n l) (hl : l.length ≤ 1048576) (hk0 : 1 ≤ k) (hk : k < 136) :
    Calls Tryz.prog 26 #[.slice A n c, .int .i64 (k : Int)] w (RetOwn eB w (shakeL l k)) := shake_sum A n c l k w hL h hl hk0 hk

theorem rshake_any (A : Option Addr) (n c : Nat) (l : List UInt8) (k : Nat) (w : World) (h : Rd eB w A n l) (hl : l.length ≤ 1048576) (hk0 : 1 ≤ k) (hk : k < 136) :
    Calls Tryz.prog 33 #[.slice A n c, .int .i64 (k : Int)] w (RetOwn eB w (shakeL l k)) := rshake_sum A n c l k w h hl hk0 (by omega)
end Go.Proofs.Sl

/- adrs.Tweak and the document's Tweak: a sum without masks. -/
namespace Go.Proofs.Sl
open Go.RowKit Go.Proofs

/-- The bytes that a sum may have. -/
def NOk (n : Nat) : Prop := n = 16 ∨ n = 24 ∨ n = 32

set_option maxHeartbeats 400000 in
theorem right_any (m : Nat) (b _n _c : Nat) (l : List UInt8) (w : World) (h : Parts w (some ⟨b, 0, none⟩) 1 [l]) (hl : l.length = m) :
    Calls Tryz.prog 114 #[.int .i64 (m : Int), .slice (some ⟨b, 0, none⟩) 1 1] w (RetV w (.bool true)) := by
  obtain ⟨ad, A, k, c1, e, hc, hr⟩ := h.at_ 0 (by simp)
  cases e
  rw [add_zero'] at hc
  obtain rfl : m = k := by rw [← hl]; exact hr.len
  have hne : ((m : Int) != (m : Int)) = false := by simp
  clear h hr hl
  go_enter Tryz.func114, Tryz.ntmps114
  go_wp2
  refine wp_loop_rounds 2 ?_
  rw [rounds_succ]
  go_wp2
  rw [rounds_succ]
  go_wp2
  go_ret
  exact ⟨rfl, Below.refl _ _⟩

set_option maxHeartbeats 2000000 in
theorem tweak_any (N : Nat) (A A2 : Option Addr) (n c n2 c2 : Nat) (seed text : List UInt8) (x : Ad) (w : World) (hL : Laid w) (hN : NOk N) (hs : Rd eB w A n seed) (hsl : seed.length = N) (ht : Rd eB w A2 n2 text) (htl : text.length ≤ 65536) (hx : x.Ok) :
    Calls Tryz.prog 100 #[.int .i64 (N : Int), .slice A n c, vAd x, .slice A2 n2 c2] w (RetOwn eB w (tweakL N seed x text)) := by
  have HS := Lib.hid hs
  have HT := Lib.hid ht
  have HL := Lib.hid hL
  have HX := Lib.hid hx
  have HSL := Lib.hid hsl
  have HTL := Lib.hid htl
  clear hs ht hL hx hsl htl
  rcases hN with rfl | rfl | rfl
  all_goals
    unfold vAd
    go_enter Tryz.func100, Tryz.ntmps100
    go_wp2_with fail
    refine (right_any _ _ 1 1 seed _ (parts1 (cell_newAt (by simp) rfl) ((HS.out.alloc _).alloc _)) HSL.out).mono ?_
    rintro e W ⟨rfl, hb⟩
    have hg : Grow w W := (((Below.refl _ _).alloc (Nat.le_refl _) _).alloc (by simp) _).trans (hb.mono (by simp; omega))
    have k0 : W.cell? ⟨w.heap.size, 0, none⟩ = some (.int .u32 (x.layer : Int)) := (hb.cell (by simp; omega)).trans (by go_simp)
    have k1 : W.cell? ⟨w.heap.size, 1, none⟩ = some (.int .u64 (x.tree : Int)) := (hb.cell (by simp; omega)).trans (by go_simp)
    have k2 : W.cell? ⟨w.heap.size, 2, none⟩ = some (.int .u32 (x.kind : Int)) := (hb.cell (by simp; omega)).trans (by go_simp)
    have k3 : W.cell? ⟨w.heap.size, 3, none⟩ = some (.int .u32 (x.a : Int)) := (hb.cell (by simp; omega)).trans (by go_simp)
    have k4 : W.cell? ⟨w.heap.size, 4, none⟩ = some (.int .u32 (x.b : Int)) := (hb.cell (by simp; omega)).trans (by go_simp)
    have k5 : W.cell? ⟨w.heap.size, 5, none⟩ = some (.int .u32 (x.c : Int)) := (hb.cell (by simp; omega)).trans (by go_simp)
    clear hb
    go_wp2_with fail
    clear k0 k1 k2 k3 k4 k5
    refine (plain_any x W HX.out).mono ?_
    rintro e W1 ⟨A1, n1, c1, rfl, h1, h2⟩
    have hg1 : Grow w W1 := hg.trans _ _ _ h2
    have hp1 := HS.out.below hg1
    have hp2 := HT.out.below hg1
    have hP : Parts (W1.alloc (.cells #[.slice A n c, .slice A1 n1 c1, .slice A2 n2 c2] 24)) (some ⟨W1.heap.size, 0, none⟩) 3 [seed, plainL x, text] :=
      parts3 (cell_new ..) (cell_new ..) (cell_new ..) (hp1.alloc _) (h1.rd.alloc _) (hp2.alloc _)
    have hfl : [seed, plainL x, text].flatten = seed ++ plainL x ++ text := by simp
    have hln : (seed ++ plainL x ++ text).length ≤ 65632 := by have := HSL.out; have := HTL.out; simp only [List.length_append, plainL_length]; omega
    have hln0 : 0 < (seed ++ plainL x ++ text).length := by simp only [List.length_append, plainL_length]; omega
    have HC := Lib.hid (cat_any W1.heap.size 0 3 3 _ _ hP (by omega) (Nat.le_refl _) (by rw [hfl]; exact hln0) (by rw [hfl]; omega))
    rw [hfl] at HC
    have HN := Lib.hid hln
    have hg2 : Grow w (W1.alloc (.cells #[.slice A n c, .slice A1 n1 c1, .slice A2 n2 c2] 24)) := hg1.alloc hg1.size _
    clear hg hg1 h1 h2 hp1 hp2 hP hfl hln hln0
    go_wp2_with fail
    refine HC.out.mono ?_
    rintro e W2 ⟨A3, n3, c3, rfl, h3, h4⟩
    have hg3 : Grow w W2 := hg2.trans _ _ _ h4
    clear hg2 h4
    go_wp2_with fail
    refine (shake_any A3 n3 c3 _ _ W2 (HL.out.below hg3) h3.rd (by have := HN.out; omega) (by decide) (by decide)).mono ?_
    rintro e W3 ⟨A4, n4, c4, rfl, h5, h6⟩
    have hsz := hg3.size
    have hg4 : Grow w W3 := hg3.trans _ _ _ h6
    clear hg3 h6 h3
    go_wp2
    go_ret
    exact ⟨_, _, _, rfl, h5.mono hsz, hg4⟩

set_option maxHeartbeats 2000000 in
theorem rtweak_any (N : Nat) (A A2 : Option Addr) (n c n2 c2 : Nat) (seed text : List UInt8) (x : Ad) (w : World) (hN : NOk N) (hs : Rd eB w A n seed) (hsl : seed.length = N) (ht : Rd eB w A2 n2 text) (htl : text.length ≤ 65536) (hx : x.Ok) :
    Calls Tryz.prog 57 #[.int .i64 (N : Int), .slice A n c, vAd x, .slice A2 n2 c2] w (RetOwn eB w (tweakL N seed x text)) := by
  obtain rfl : n = N := by rw [← hs.len]; exact hsl
  have HS := Lib.hid hs
  have HT := Lib.hid ht
  have HX := Lib.hid hx
  have HSL := Lib.hid hsl
  have HTL := Lib.hid htl
  clear hs ht hx hsl htl
  have hn0 : 1 ≤ n := by rcases hN with rfl | rfl | rfl <;> omega
  have hn1 : n < 136 := by rcases hN with rfl | rfl | rfl <;> omega
  have hN3 : ((((n : Int) != 16) = false) ∨ (((n : Int) != 16) = true ∧ ((n : Int) != 24) = false)) ∨ (((n : Int) != 16) = true ∧ ((n : Int) != 24) = true ∧ ((n : Int) != 32) = false) := by
    rcases hN with rfl | rfl | rfl
    · exact .inl (.inl rfl)
    · exact .inl (.inr ⟨rfl, rfl⟩)
    · exact .inr ⟨rfl, rfl, rfl⟩
  have hnn : ((n : Int) != (n : Int)) = false := by simp
  clear hN
  rcases hN3 with (b1 | ⟨b1, b2⟩) | ⟨b1, b2, b3⟩
  all_goals
    unfold vAd
    go_enter Tryz.func57, Tryz.ntmps57
    go_wp2_with fail
    refine (rplain_any x _ HX.out).mono ?_
    rintro e W1 ⟨A1, n1, c1, rfl, h1, h2⟩
    have hg1 : Grow w W1 := ((Below.refl _ _).alloc (Nat.le_refl _) _).trans (h2.mono (by simp))
    have hp1 := HS.out.below hg1
    have hp2 := HT.out.below hg1
    have hP : Parts (W1.alloc (.cells #[.slice A n c, .slice A1 n1 c1, .slice A2 n2 c2] 24)) (some ⟨W1.heap.size, 0, none⟩) 3 [seed, plainL x, text] :=
      parts3 (cell_new ..) (cell_new ..) (cell_new ..) (hp1.alloc _) (h1.rd.alloc _) (hp2.alloc _)
    have hfl : [seed, plainL x, text].flatten = seed ++ plainL x ++ text := by simp
    have hln : (seed ++ plainL x ++ text).length ≤ 70000 := by have := HSL.out; have := HTL.out; simp only [List.length_append, plainL_length]; omega
    have HC := Lib.hid (rcat_any (some ⟨W1.heap.size, 0, none⟩) 3 3 _ _ hP (by rw [hfl]; omega))
    rw [hfl] at HC
    have HN := Lib.hid hln
    have hg2 : Grow w (W1.alloc (.cells #[.slice A n c, .slice A1 n1 c1, .slice A2 n2 c2] 24)) := hg1.alloc hg1.size _
    clear hg1 h1 h2 hp1 hp2 hP hfl hln
    go_wp2_with fail
    refine HC.out.mono ?_
    rintro e W2 ⟨A3, n3, c3, rfl, h3, h4⟩
    have hg3 : Grow w W2 := hg2.trans _ _ _ h4
    clear hg2 h4
    go_wp2_with fail
    refine (rshake_any A3 n3 c3 _ _ W2 h3.rd (by have := HN.out; omega) hn0 hn1).mono ?_
    rintro e W3 ⟨A4, n4, c4, rfl, h5, h6⟩
    have hsz := hg3.size
    have hg4 : Grow w W3 := hg3.trans _ _ _ h6
    clear hg3 h6 h3
    go_wp2
    go_ret
    exact ⟨_, _, _, rfl, h5.mono hsz, hg4⟩
end Go.Proofs.Sl

/- What the layers 7, 17 and 18 compute, as plain functions. -/
namespace Go.Proofs.Sl

/-- A set: a sum's bytes, layers, their height, how many secrets, their trees' height. -/
structure Few where
  N : Nat
  L : Nat
  H : Nat
  K : Nat
  A : Nat

/-- A set that may be. -/
structure FewOk (f : Few) : Prop where
  N : NOk f.N
  L1 : 1 ≤ f.L
  L2 : f.L ≤ 22
  H1 : 1 ≤ f.H
  H2 : f.H ≤ 9
  LH : (f.L - 1) * f.H ≤ 63
  K1 : 1 ≤ f.K
  K2 : f.K ≤ 40
  A1 : 1 ≤ f.A
  A2 : f.A ≤ 14

/-- Secrets: of the chains, of the salts, and the seed. -/
structure Sec where
  secret : List UInt8
  salt : List UInt8
  seed : List UInt8

/-- A set that can be made, of secrets. -/
structure MadeOk (f : Few) (m : Sec) : Prop where
  ok : FewOk f
  H : f.H ≤ 6
  A : f.A ≤ 6
  secret : m.secret.length = f.N
  salt : m.salt.length = f.N
  seed : m.seed.length = f.N

def vFew (f : Few) : Value := .agg #[.int .i64 (f.N : Int), .int .i64 (f.L : Int), .int .i64 (f.H : Int), .int .i64 (f.K : Int), .int .i64 (f.A : Int)]

/-! ### Digits of width 4 -/
def nibs (b : List UInt8) : List Nat := b.flatMap fun c => [c.toNat / 16, c.toNat % 16]
def lackOf (l : List Nat) : Nat := (l.map fun d => 15 - d).sum
/-- All digits: of the bytes, and three of what they lack. -/
def digAll (b : List UInt8) : List Nat := nibs b ++ (nibs (putBE (lackOf (nibs b) * 16) 2)).take 3

/-! ### FORS -/
def fAd (tree q kind b c : Nat) : Ad := ⟨0, tree, kind, q, b, c⟩
def fSecret (N : Nat) (seed sec : List UInt8) (tree q i : Nat) : List UInt8 := tweakL N seed (fAd tree q 6 0 i) sec
def fNode (N : Nat) (seed sec : List UInt8) (tree q : Nat) : Nat → Nat → List UInt8
  | 0, i => tweakL N seed (fAd tree q 3 0 i) (fSecret N seed sec tree q i)
  | g + 1, i => tweakL N seed (fAd tree q 3 (g + 1) i) (fNode N seed sec tree q g (2 * i) ++ fNode N seed sec tree q g (2 * i + 1))
def fWhole (f : Few) (seed sec : List UInt8) (tree q : Nat) : List UInt8 := tweakL f.N seed (fAd tree q 4 0 0) ((List.range f.K).flatMap fun k => fNode f.N seed sec tree q f.A k)
def bitAt (b : List UInt8) (i : Nat) : Nat := (b.getD (i / 8) 0).toNat / 2 ^ (7 - i % 8) % 2
def digitTo (A : Nat) (b : List UInt8) (k : Nat) : Nat → Nat
  | 0 => 0
  | j + 1 => 2 * digitTo A b k j + bitAt b (k * A + j)
def fDigits (f : Few) (b : List UInt8) : List Nat := (List.range f.K).map fun k => digitTo f.A b k f.A
/-- The other one below the same sum. -/
def other (i : Nat) : Nat := if i % 2 = 1 then i - 1 else i + 1
def fWay (f : Few) (seed sec : List UInt8) (tree q i : Nat) : List UInt8 := (List.range f.A).flatMap fun g => fNode f.N seed sec tree q g (other (i / 2 ^ g))
def fIndex (f : Few) (b : List UInt8) (k : Nat) : Nat := k * 2 ^ f.A + digitTo f.A b k f.A
def fTell (f : Few) (seed sec : List UInt8) (tree q : Nat) (b : List UInt8) : List UInt8 := (List.range f.K).flatMap fun k => fSecret f.N seed sec tree q (fIndex f b k) ++ fWay f seed sec tree q (fIndex f b k)
def cutL (l : List UInt8) (i j : Nat) : List UInt8 := (l.take j).drop i
def fClimb (N : Nat) (seed : List UInt8) (tree q : Nat) (told : List UInt8) (i : Nat) : Nat → List UInt8
  | 0 => tweakL N seed (fAd tree q 3 0 i) (cutL told 0 N)
  | g + 1 => tweakL N seed (fAd tree q 3 (g + 1) (i / 2 ^ (g + 1))) (if i / 2 ^ g % 2 = 1 then cutL told ((g + 1) * N) ((g + 2) * N) ++ fClimb N seed tree q told i g else fClimb N seed tree q told i g ++ cutL told ((g + 1) * N) ((g + 2) * N))
def fEach (f : Few) : Nat := (f.A + 1) * f.N
def fStands (f : Few) (seed : List UInt8) (tree q : Nat) (b told : List UInt8) : List UInt8 := tweakL f.N seed (fAd tree q 4 0 0) ((List.range f.K).flatMap fun k => fClimb f.N seed tree q (cutL told (k * fEach f) ((k + 1) * fEach f)) (fIndex f b k) f.A)

/-! ### SLH -/
/-- How many chains there are: those of the digits, and three. -/
def chainsL (N : Nat) : Nat := 2 * N + 3
def upL (N : Nat) (seed : List UInt8) (layer tree q i «from» : Nat) (x : List UInt8) : Nat → List UInt8
  | 0 => x
  | n + 1 => tweakL N seed ⟨layer, tree, 0, q, i, «from» + n⟩ (upL N seed layer tree q i «from» x n)
def sSecret (N : Nat) (seed sec : List UInt8) (layer tree q i : Nat) : List UInt8 := tweakL N seed ⟨layer, tree, 5, q, i, 0⟩ sec
def leafL (N : Nat) (seed sec : List UInt8) (layer tree q : Nat) : List UInt8 :=
  tweakL N seed ⟨layer, tree, 1, q, 0, 0⟩ ((List.range (chainsL N)).flatMap fun i => upL N seed layer tree q i 0 (sSecret N seed sec layer tree q i) 15)
def sNode (N : Nat) (seed sec : List UInt8) (layer tree : Nat) : Nat → Nat → List UInt8
  | 0, i => leafL N seed sec layer tree i
  | g + 1, i => tweakL N seed ⟨layer, tree, 2, 0, g + 1, i⟩ (sNode N seed sec layer tree g (2 * i) ++ sNode N seed sec layer tree g (2 * i + 1))
def sWay (N H : Nat) (seed sec : List UInt8) (layer tree q : Nat) : List UInt8 := (List.range H).flatMap fun g => sNode N seed sec layer tree g (other (q / 2 ^ g))
def sChains (N : Nat) (seed sec : List UInt8) (layer tree q : Nat) (of : List UInt8) : List UInt8 :=
  (List.range (chainsL N)).flatMap fun i => upL N seed layer tree q i 0 (sSecret N seed sec layer tree q i) ((digAll of).getD i 0)
def sSign (N H : Nat) (seed sec : List UInt8) (layer tree q : Nat) (of : List UInt8) : List UInt8 := sChains N seed sec layer tree q of ++ sWay N H seed sec layer tree q
def sEnds (N : Nat) (seed : List UInt8) (layer tree q : Nat) (of sig : List UInt8) : List UInt8 :=
  tweakL N seed ⟨layer, tree, 1, q, 0, 0⟩ ((List.range (chainsL N)).flatMap fun i => upL N seed layer tree q i ((digAll of).getD i 0) (cutL sig (i * N) ((i + 1) * N)) (15 - (digAll of).getD i 0))
def sClimb (N : Nat) (seed : List UInt8) (layer tree q : Nat) (leaf way : List UInt8) : Nat → List UInt8
  | 0 => leaf
  | g + 1 => tweakL N seed ⟨layer, tree, 2, 0, g + 1, q / 2 ^ (g + 1)⟩ (if q / 2 ^ g % 2 = 1 then cutL way (g * N) ((g + 1) * N) ++ sClimb N seed layer tree q leaf way g else sClimb N seed layer tree q leaf way g ++ cutL way (g * N) ((g + 1) * N))
def sLeads (N H : Nat) (seed : List UInt8) (layer tree q : Nat) (of sig : List UInt8) : List UInt8 :=
  sClimb N seed layer tree q (sEnds N seed layer tree q of sig) (sig.drop (chainsL N * N)) H
def rootL (f : Few) (m : Sec) (layer tree : Nat) : List UInt8 := sNode f.N m.seed m.secret layer tree f.H 0
def publicL (f : Few) (m : Sec) : List UInt8 := m.seed ++ rootL f m (f.L - 1) 0
def wholeB (bits : Nat) : Nat := (bits + 7) / 8
def pA (f : Few) : Nat := wholeB (f.K * f.A)
def pB (f : Few) : Nat := wholeB ((f.L - 1) * f.H)
def pC (f : Few) : Nat := wholeB f.H
def treeOf (f : Few) (d : List UInt8) : Nat := getBE (cutL d (pA f) (pA f + pB f)) % 2 ^ ((f.L - 1) * f.H)
def leafOf (f : Few) (d : List UInt8) : Nat := getBE (cutL d (pA f + pB f) (pA f + pB f + pC f)) % 2 ^ f.H
def digestL (f : Few) (salt pub text : List UInt8) : List UInt8 := shakeL (salt ++ pub ++ text) (pA f + pB f + pC f)
def sizeL (f : Few) : Nat := f.N * (1 + f.K * (f.A + 1) + f.L * (chainsL f.N + f.H))
/-- The trees and the leaves above one another. -/
def treeAt (H tree : Nat) (layer : Nat) : Nat := tree / 2 ^ (layer * H)
def leafAt (H tree q : Nat) : Nat → Nat
  | 0 => q
  | l + 1 => treeAt H tree l % 2 ^ H
/-- What is signed at a layer. -/
def ofAt (f : Few) (m : Sec) (tree q : Nat) : Nat → List UInt8
  | 0 => fWhole f m.seed m.secret tree q
  | l + 1 => rootL f m l (treeAt f.H tree l)
def layersL (f : Few) (m : Sec) (tree q : Nat) (n : Nat) : List UInt8 := (List.range n).flatMap fun l => sSign f.N f.H m.seed m.secret l (treeAt f.H tree l) (leafAt f.H tree q l) (ofAt f m tree q l)
def saltL (f : Few) (m : Sec) (extra text : List UInt8) : List UInt8 := shakeL (m.salt ++ extra ++ text) f.N
def signL (f : Few) (m : Sec) (extra text : List UInt8) : List UInt8 :=
  let salt := saltL f m extra text
  let d := digestL f salt (publicL f m) text
  salt ++ fTell f m.seed m.secret (treeOf f d) (leafOf f d) (d.take (pA f)) ++ layersL f m (treeOf f d) (leafOf f d) f.L
def sEach (f : Few) : Nat := f.N * (chainsL f.N + f.H)
def sHead (f : Few) : Nat := f.N * (1 + f.K * (f.A + 1))
/-- The sum to which a signature leads, layer by layer. -/
def climbTo (f : Few) (seed : List UInt8) (tree q : Nat) (of sig : List UInt8) : Nat → List UInt8
  | 0 => of
  | l + 1 => sLeads f.N f.H seed l (treeAt f.H tree l) (leafAt f.H tree q l) (climbTo f seed tree q of sig l) (cutL sig (sHead f + l * sEach f) (sHead f + (l + 1) * sEach f))
def fitsL (f : Few) (pub text sig : List UInt8) : Bool :=
  let d := digestL f (cutL sig 0 f.N) pub text
  let seed := cutL pub 0 f.N
  sameB (climbTo f seed (treeOf f d) (leafOf f d) (fStands f seed (treeOf f d) (leafOf f d) (d.take (pA f)) (cutL sig f.N (sHead f))) sig f.L) (pub.drop f.N)
end Go.Proofs.Sl
