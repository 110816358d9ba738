/- fors: the sum to which a secret, and others, lead. fors: what is told of bytes. -/
import Derived.Test.YtipedpkkabfdjaaGreatDoorFits15
/- fors: the sum to which a secret, and others, lead. -/
namespace Go.Proofs.Sl
open Go.RowKit Go.Proofs

theorem fClimb_length (N : Nat) (seed : List UInt8) (tree q : Nat) (told : List UInt8) (i g : Nat) (h : N ≤ 136) : (fClimb N seed tree q told i g).length = N := by
  cases g <;> exact tweakL_length _ _ _ _ h
theorem cutL_length (l : List UInt8) (i j : Nat) (h1 : i ≤ j) (h2 : j ≤ l.length) : (cutL l i j).length = j - i := by
  simp [cutL]; omega


set_option maxHeartbeats 4000000 in
theorem climb_any (f : Few) (A At : Option Addr) (n c nt ct : Nat) (seed told : List UInt8) (tree q i : Nat) (w : World) (hL : Laid w) (hN : NOk f.N) (hA : f.A ≤ 14) (hs : Rd eB w A n seed) (hsl : seed.length = f.N)
    (ht : W64 tree) (hq : q < 4294967296) (hi : i < 4294967296) (htd : Rd eB w At nt told) (htl : told.length = (f.A + 1) * f.N) (hct : nt ≤ ct) :
    Calls Tryz.prog 89 #[vPlace f A n c tree q, .int .u32 (i : Int), .slice At nt ct] w (RetOwn eB w (fClimb f.N seed tree q told i f.A)) := by
  have hf1 := hN.pos
  have hf2 := hN.le
  obtain rfl : nt = f.A * f.N + f.N := by rw [← htd.len, htl, Nat.succ_mul]
  have hAN : f.A * f.N ≤ 448 := Nat.le_trans (Nat.mul_le_mul hA hf2) (by omega)
  have HG := Lib.hid (And.intro hL (And.intro hN (And.intro hs (And.intro hsl (And.intro ht hq)))))
  have HTD := Lib.hid htd
  have HTL : Hid (told.length = f.A * f.N + f.N) := Lib.hid (by rw [htl, Nat.succ_mul])
  have HT : Hid (Rd eB w At f.N (cutL told 0 f.N)) := Lib.hid (by
    have := htd.cut 0 f.N ct (by omega) (by omega) hct
    unfold cutAt at this
    split at this
    · exact this
    · have e : At.map (·.add 0) = At := by cases At <;> simp [Addr.add]
      rw [e] at this; exact this)
  have e2 : (f.A : Int) % 4294967296 = (f.A : Int) := by omega
  clear hL hN hs hsl ht hq htd htl
  unfold vPlace
  go_enter Tryz.func89, Tryz.ntmps89
  go_wp2
  generalize hW0 : World.alloc w _ = W0
  have hb0 : Below w.heap.size w W0.drew := by rw [← hW0]; exact ((Below.refl _ _).alloc (Nat.le_refl _) _).drew
  have k0 : W0.drew.cell? ⟨w.heap.size, 0, none⟩ = some (.int .i64 (f.N : Int)) := by subst hW0; go_simp
  have k1 : W0.drew.cell? ⟨w.heap.size, 1, none⟩ = some (.int .i64 (f.L : Int)) := by subst hW0; go_simp
  have k2 : W0.drew.cell? ⟨w.heap.size, 2, none⟩ = some (.int .i64 (f.H : Int)) := by subst hW0; go_simp
  have k3 : W0.drew.cell? ⟨w.heap.size, 3, none⟩ = some (.int .i64 (f.K : Int)) := by subst hW0; go_simp
  have k4 : W0.drew.cell? ⟨w.heap.size, 4, none⟩ = some (.int .i64 (f.A : Int)) := by subst hW0; go_simp
  have k5 : W0.drew.cell? ⟨w.heap.size, 5, none⟩ = some (.slice A n c) := by subst hW0; go_simp
  have k6 : W0.drew.cell? ⟨w.heap.size, 6, none⟩ = some (.int .u64 (tree : Int)) := by subst hW0; go_simp
  have k7 : W0.drew.cell? ⟨w.heap.size, 7, none⟩ = some (.int .u32 (q : Int)) := by subst hW0; go_simp
  clear hW0
  refine wp_region_rg Grow 64 7 3 [[], [], [], [], [], [], [5]]
    [.still [] (.agg #[.int .i64 (f.N : Int), .int .i64 (f.L : Int), .int .i64 (f.H : Int), .int .i64 (f.K : Int), .int .i64 (f.A : Int), .slice A n c, .int .u64 (tree : Int), .int .u32 (q : Int)]), .still [] (.int .u32 (i : Int)), .still [] (.slice At (f.A * f.N + f.N) ct), .still [] (.int .i64 (f.N : Int)), .still [] (.slice At f.N ct), .grow [] (PartsV [cutL told 0 f.N]), .grow [5] (OwnV eB w.heap.size (fClimb f.N seed tree q told i 0))] (by kernel_rfl) (by kernel_rfl) rfl rfl rfl Grow.trans (Grow.refl _) ?_
  refine Obl.still (fun W hg _ => ?_) ?_
  · have c0 := cell_old hg k0; have c1 := cell_old hg k1; have c2 := cell_old hg k2; have c3 := cell_old hg k3; have c4 := cell_old hg k4; have c5 := cell_old hg k5; have c6 := cell_old hg k6; have c7 := cell_old hg k7; clear hg k0 k1 k2 k3 k4 k5 k6 k7
    go_wp2
    exact ⟨rfl, rfl, rfl, Grow.refl _⟩
  simp only [Act.put, List.setIfInBounds_toArray, List.set_cons_zero, List.set_cons_succ]
  refine Obl.still (fun W hg _ => ?_) ?_
  · have c0 := cell_old hg k0; have c1 := cell_old hg k1; have c2 := cell_old hg k2; have c3 := cell_old hg k3; have c4 := cell_old hg k4; have c5 := cell_old hg k5; have c6 := cell_old hg k6; have c7 := cell_old hg k7; clear hg k0 k1 k2 k3 k4 k5 k6 k7
    go_wp2
    exact ⟨rfl, rfl, rfl, Grow.refl _⟩
  simp only [Act.put, List.setIfInBounds_toArray, List.set_cons_zero, List.set_cons_succ]
  refine Obl.still (fun W hg _ => ?_) ?_
  · have c0 := cell_old hg k0; have c1 := cell_old hg k1; have c2 := cell_old hg k2; have c3 := cell_old hg k3; have c4 := cell_old hg k4; have c5 := cell_old hg k5; have c6 := cell_old hg k6; have c7 := cell_old hg k7; clear hg k0 k1 k2 k3 k4 k5 k6 k7
    go_wp2
    exact ⟨rfl, rfl, rfl, Grow.refl _⟩
  simp only [Act.put, List.setIfInBounds_toArray, List.set_cons_zero, List.set_cons_succ]
  refine Obl.still (fun W hg _ => ?_) ?_
  · have c0 := cell_old hg k0; have c1 := cell_old hg k1; have c2 := cell_old hg k2; have c3 := cell_old hg k3; have c4 := cell_old hg k4; have c5 := cell_old hg k5; have c6 := cell_old hg k6; have c7 := cell_old hg k7; clear hg k0 k1 k2 k3 k4 k5 k6 k7
    go_wp2
    exact ⟨rfl, rfl, rfl, Grow.refl _⟩
  simp only [Act.put, List.setIfInBounds_toArray, List.set_cons_zero, List.set_cons_succ]
  refine Obl.still (fun W hg _ => ?_) ?_
  · have c0 := cell_old hg k0; have c1 := cell_old hg k1; have c2 := cell_old hg k2; have c3 := cell_old hg k3; have c4 := cell_old hg k4; have c5 := cell_old hg k5; have c6 := cell_old hg k6; have c7 := cell_old hg k7; clear hg k0 k1 k2 k3 k4 k5 k6 k7
    go_wp2
    exact ⟨rfl, rfl, rfl, Grow.refl _⟩
  simp only [Act.put, List.setIfInBounds_toArray, List.set_cons_zero, List.set_cons_succ]
  refine Obl.grow (PartsV.keep _) (fun W hg _ => ?_) (fun v5 => ?_)
  · have hT := HT.out.below (hb0.trans (hg.mono hb0.size))
    clear hg k0 k1 k2 k3 k4 k5 k6 k7
    go_wp2
    exact ⟨rfl, rfl, ⟨_, _, rfl, parts1 (cell_new ..) (hT.alloc _)⟩, (Below.refl _ _).alloc (Nat.le_refl _) _⟩
  simp only [Act.put, List.setIfInBounds_toArray, List.set_cons_zero, List.set_cons_succ]
  refine Obl.grow (OwnV.keep _ _ _) (fun W hg ⟨h5, _⟩ => ?_) (fun v6 => ?_)
  · obtain ⟨bh5, nh5, rfl, h5⟩ := h5
    have hnn : nh5 = 1 := by rw [← h5.len]; rfl
    subst hnn
    have HC := Lib.hid (ptweak_any f A n c seed tree q 3 0 i bh5 1 _ W (HG.out.1.below (hb0.trans (hg.mono hb0.size))) HG.out.2.1 (HG.out.2.2.1.below (hb0.trans (hg.mono hb0.size))) HG.out.2.2.2.1 HG.out.2.2.2.2.1 HG.out.2.2.2.2.2 (by omega) (by omega) (by omega) h5 (by omega) (by simp [cutL, HTL.out]; omega) (by simp [cutL]; omega))
    rw [show [cutL told 0 f.N].flatten = cutL told 0 f.N by simp] at HC
    unfold vPlace at HC
    have hsz : w.heap.size ≤ W.heap.size := Nat.le_trans hb0.size hg.size
    clear hg k0 k1 k2 k3 k4 k5 k6 k7
    go_wp2_with fail
    refine (HC.out).mono ?_
    rintro e w' ⟨A1, n1, c1, rfl, h1, h2⟩
    go_wp2
    exact ⟨rfl, rfl, ⟨_, _, _, rfl, h1.mono hsz⟩, h2⟩
  simp only [Act.put, List.setIfInBounds_toArray, List.set_cons_zero, List.set_cons_succ]
  refine Obl.done (fun W hg hall => ?_)
  obtain ⟨h6, _⟩ := hall
  obtain ⟨A6, n6, cap6, rfl, h6⟩ := h6
  have gg : Below w.heap.size w W := hb0.trans (hg.mono hb0.size)
  have c0 := cell_old hg k0
  have c1 := cell_old hg k1
  have c2 := cell_old hg k2
  have c3 := cell_old hg k3
  have c4 := cell_old hg k4
  have c5 := cell_old hg k5
  have c6 := cell_old hg k6
  have c7 := cell_old hg k7
  clear hg k0 k1 k2 k3 k4 k5 k6 k7 hb0
  obtain rfl : f.N = n6 := by rw [← h6.len, fClimb_length _ _ _ _ _ _ _ (by omega)]
  have H6 := Lib.hid h6
  clear h6
  go_wp2
  go_loopw [8, 27] (fun x g wr => ∃ (k : Nat) (Ax : Option Addr) (cx : Nat), k ≤ f.A ∧ g = .int .u32 (k : Int) ∧ x = .slice Ax f.N cx ∧ Own eB w.heap.size wr Ax f.N cx (fClimb f.N seed tree q told i k) ∧ Grow W wr) (fun _ g _ => f.A - (intOf g).toNat)
  case atStart => exact ⟨0, A6, cap6, Nat.zero_le _, rfl, rfl, H6.out, Grow.refl _⟩
  case round =>
    obtain ⟨k, Ax, cx, hk, rfl, rfl, ho, hg⟩ := hrel
    by_cases hlt : k < f.A
    · have d0 := cell_old hg c0; have d1 := cell_old hg c1; have d2 := cell_old hg c2; have d3 := cell_old hg c3; have d4 := cell_old hg c4; have d5 := cell_old hg c5; have d6 := cell_old hg c6; have d7 := cell_old hg c7
      have HGG : Hid (Below w.heap.size w wr) := Lib.hid (gg.trans (hg.mono gg.size))
      have HGW := Lib.hid hg
      have HO := Lib.hid ho
      obtain ⟨lo, hlo⟩ : ∃ lo, (k + 1) * f.N = lo := ⟨_, rfl⟩
      obtain ⟨hi', hhi⟩ : ∃ hi', (k + 2) * f.N = hi' := ⟨_, rfl⟩
      have hlo1 : ((k : Int) + 1) * (f.N : Int) = (lo : Int) := by rw [← hlo]; simp
      have hhi1 : ((k : Int) + 2) * (f.N : Int) = (hi' : Int) := by rw [← hhi]; simp
      have hlh : hi' = lo + f.N := by rw [← hhi, ← hlo, show k + 2 = (k + 1) + 1 by omega, Nat.succ_mul (k + 1)]
      have hle : lo ≤ f.A * f.N := by rw [← hlo]; exact Nat.mul_le_mul_right _ hlt
      have HLO := Lib.hid (And.intro hlo hhi)
      clear hg ho gg c0 c1 c2 c3 c4 c5 c6 c7 hlo hhi
      have HX : Hid (Rd eB wr (Option.map (fun x => x.add lo) At) f.N (cutL told lo (lo + f.N))) := Lib.hid (by
        have := (HTD.out.below HGG.out).sub lo (lo + f.N) (by omega) (by omega)
        rw [show lo + f.N - lo = f.N by omega] at this
        exact this)
      by_cases hbit : i / 2 ^ k % 2 = 1
      · have hb : bits .and .u32 ((i : Int) / 2 ^ k) 1 = 1 := by rw [pow_cast, and1_u32 _ (Nat.lt_of_le_of_lt (Nat.div_le_self _ _) hi), show i / 2 ^ k % 2 = 1 by omega]; rfl
        have HBT := Lib.hid hbit
        clear hbit
        have hgA := HGG.out.alloc HGG.out.size (.cells #[.slice (Option.map (fun x => x.add lo) At) f.N (ct - lo), .slice Ax f.N cx] 24)
        have hfl : [cutL told lo (lo + f.N), fClimb f.N seed tree q told i k].flatten = cutL told lo (lo + f.N) ++ fClimb f.N seed tree q told i k := by simp
        have hln : (cutL told lo (lo + f.N) ++ fClimb f.N seed tree q told i k).length = f.N + f.N := by rw [List.length_append, fClimb_length _ _ _ _ _ _ _ (by omega), cutL_length _ _ _ (by omega) (by rw [HTL.out]; omega)]; omega
        have HC := Lib.hid (ptweak_any f A n c seed tree q 3 (k + 1) (i / 2 ^ (k + 1)) wr.heap.size 2 [cutL told lo (lo + f.N), fClimb f.N seed tree q told i k] _ (HG.out.1.below hgA) HG.out.2.1 (HG.out.2.2.1.below hgA) HG.out.2.2.2.1 HG.out.2.2.2.2.1 HG.out.2.2.2.2.2 (by omega) (by omega) (Nat.lt_of_le_of_lt (Nat.div_le_self _ _) hi) (parts2 (cell_newAt rfl rfl) (cell_newAt rfl rfl) (HX.out.alloc _) (HO.out.rd.alloc _)) (by omega) (by rw [hfl, hln]; omega) (by rw [hfl, hln]; omega))
        rw [hfl, ← pow_cast, show ((k + 1 : Nat) : Int) = (k : Int) + 1 by omega] at HC
        have hfin : tweakL f.N seed (fAd tree q 3 (k + 1) (i / 2 ^ (k + 1))) (cutL told lo (lo + f.N) ++ fClimb f.N seed tree q told i k) = fClimb f.N seed tree q told i (k + 1) := by
          rw [show fClimb f.N seed tree q told i (k + 1) = tweakL f.N seed (fAd tree q 3 (k + 1) (i / 2 ^ (k + 1))) (if i / 2 ^ k % 2 = 1 then cutL told ((k + 1) * f.N) ((k + 2) * f.N) ++ fClimb f.N seed tree q told i k else fClimb f.N seed tree q told i k ++ cutL told ((k + 1) * f.N) ((k + 2) * f.N)) from rfl, HLO.out.1, HLO.out.2, hlh]
          rw [if_pos HBT.out]
        rw [hfin] at HC
        unfold vPlace at HC
        have HGW2 : Hid (Grow W (wr.alloc (.cells #[.slice (Option.map (fun x => x.add lo) At) f.N (ct - lo), .slice Ax f.N cx] 24))) := Lib.hid (HGW.out.alloc HGW.out.size _)
        have hsz : w.heap.size ≤ (wr.alloc (.cells #[.slice (Option.map (fun x => x.add lo) At) f.N (ct - lo), .slice Ax f.N cx] 24)).heap.size := hgA.size
        clear hfl hln hfin hgA
        go_wp2_with fail
        refine HC.out.mono ?_
        rintro e w3 ⟨A3, n3, c3, rfl, h5, h6⟩
        obtain rfl : f.N = n3 := by rw [← h5.len, fClimb_length _ _ _ _ _ _ _ (by omega)]
        have H5 := Lib.hid (h5.mono hsz)
        have H6 := Lib.hid (HGW2.out.trans _ _ _ h6)
        clear HC h5 h6 d0 d1 d2 d3 d4 d5 d6 d7
        go_wp2
        go_roundw
        case rel => exact ⟨k + 1, A3, c3, by omega, by go_num, rfl, H5.out, H6.out⟩
        case measure => simp [intOf]; omega
      · have hb : bits .and .u32 ((i : Int) / 2 ^ k) 1 = 0 := by rw [pow_cast, and1_u32 _ (Nat.lt_of_le_of_lt (Nat.div_le_self _ _) hi), show i / 2 ^ k % 2 = 0 by omega]; rfl
        have HBT := Lib.hid hbit
        clear hbit
        have hgA := HGG.out.alloc HGG.out.size (.cells #[.slice Ax f.N cx, .slice (Option.map (fun x => x.add lo) At) f.N (ct - lo)] 24)
        have hfl : [fClimb f.N seed tree q told i k, cutL told lo (lo + f.N)].flatten = fClimb f.N seed tree q told i k ++ cutL told lo (lo + f.N) := by simp
        have hln : (fClimb f.N seed tree q told i k ++ cutL told lo (lo + f.N)).length = f.N + f.N := by rw [List.length_append, fClimb_length _ _ _ _ _ _ _ (by omega), cutL_length _ _ _ (by omega) (by rw [HTL.out]; omega)]; omega
        have HC := Lib.hid (ptweak_any f A n c seed tree q 3 (k + 1) (i / 2 ^ (k + 1)) wr.heap.size 2 [fClimb f.N seed tree q told i k, cutL told lo (lo + f.N)] _ (HG.out.1.below hgA) HG.out.2.1 (HG.out.2.2.1.below hgA) HG.out.2.2.2.1 HG.out.2.2.2.2.1 HG.out.2.2.2.2.2 (by omega) (by omega) (Nat.lt_of_le_of_lt (Nat.div_le_self _ _) hi) (parts2 (cell_newAt rfl rfl) (cell_newAt rfl rfl) (HO.out.rd.alloc _) (HX.out.alloc _)) (by omega) (by rw [hfl, hln]; omega) (by rw [hfl, hln]; omega))
        rw [hfl, ← pow_cast, show ((k + 1 : Nat) : Int) = (k : Int) + 1 by omega] at HC
        have hfin : tweakL f.N seed (fAd tree q 3 (k + 1) (i / 2 ^ (k + 1))) (fClimb f.N seed tree q told i k ++ cutL told lo (lo + f.N)) = fClimb f.N seed tree q told i (k + 1) := by
          rw [show fClimb f.N seed tree q told i (k + 1) = tweakL f.N seed (fAd tree q 3 (k + 1) (i / 2 ^ (k + 1))) (if i / 2 ^ k % 2 = 1 then cutL told ((k + 1) * f.N) ((k + 2) * f.N) ++ fClimb f.N seed tree q told i k else fClimb f.N seed tree q told i k ++ cutL told ((k + 1) * f.N) ((k + 2) * f.N)) from rfl, HLO.out.1, HLO.out.2, hlh]
          rw [if_neg HBT.out]
        rw [hfin] at HC
        unfold vPlace at HC
        have HGW2 : Hid (Grow W (wr.alloc (.cells #[.slice Ax f.N cx, .slice (Option.map (fun x => x.add lo) At) f.N (ct - lo)] 24))) := Lib.hid (HGW.out.alloc HGW.out.size _)
        have hsz : w.heap.size ≤ (wr.alloc (.cells #[.slice Ax f.N cx, .slice (Option.map (fun x => x.add lo) At) f.N (ct - lo)] 24)).heap.size := hgA.size
        clear hfl hln hfin hgA
        go_wp2_with fail
        refine HC.out.mono ?_
        rintro e w3 ⟨A3, n3, c3, rfl, h5, h6⟩
        obtain rfl : f.N = n3 := by rw [← h5.len, fClimb_length _ _ _ _ _ _ _ (by omega)]
        have H5 := Lib.hid (h5.mono hsz)
        have H6 := Lib.hid (HGW2.out.trans _ _ _ h6)
        clear HC h5 h6 d0 d1 d2 d3 d4 d5 d6 d7
        go_wp2
        go_roundw
        case rel => exact ⟨k + 1, A3, c3, by omega, by go_num, rfl, H5.out, H6.out⟩
        case measure => simp [intOf]; omega
    · obtain rfl : k = f.A := by omega
      have HB : Hid (Below w.heap.size w wr) := Lib.hid (gg.trans (hg.mono gg.size))
      clear hg gg c0 c1 c2 c3 c4 c5 c6 c7
      go_wp2
      go_ret
      exact ⟨_, _, _, rfl, ho, HB.out⟩
end Go.Proofs.Sl

/- fors: what is told of bytes. -/
namespace Go.Proofs.Sl
open Go.RowKit Go.Proofs

theorem fDigits_length (f : Few) (b : List UInt8) : (fDigits f b).length = f.K := by simp [fDigits]
theorem fDigits_at (f : Few) (b : List UInt8) (k : Nat) (h : k < (fDigits f b).length) : (fDigits f b)[k] = digitTo f.A b k f.A := by simp [fDigits]
theorem fWay_length (f : Few) (seed sec : List UInt8) (tree q i : Nat) (h : f.N ≤ 136) : (fWay f seed sec tree q i).length = f.A * f.N := by
  unfold fWay
  rw [flat_len _ _ f.N (fun g => fNode_length _ _ _ _ _ _ _ h), List.length_range]
theorem fTell_part (f : Few) (seed sec : List UInt8) (tree q : Nat) (b : List UInt8) (h : f.N ≤ 136) (k : Nat) : ((List.range k).flatMap fun k => fSecret f.N seed sec tree q (fIndex f b k) ++ fWay f seed sec tree q (fIndex f b k)).length = k * ((f.A + 1) * f.N) := by
  rw [flat_len _ _ ((f.A + 1) * f.N) (fun k => by rw [List.length_append, fSecret_length _ _ _ _ _ _ h, fWay_length _ _ _ _ _ _ h, Nat.succ_mul, Nat.add_comm]), List.length_range]
theorem other_le (i : Nat) : other i ≤ i + 1 := by unfold other; split <;> omega
theorem index_lt (f : Few) (b : List UInt8) (k : Nat) (hk : k < f.K) : fIndex f b k < f.K * 2 ^ f.A := by
  have h := digitTo_lt f.A b k f.A
  have h2 : (k + 1) * 2 ^ f.A ≤ f.K * 2 ^ f.A := Nat.mul_le_mul_right _ hk
  rw [Nat.succ_mul] at h2
  unfold fIndex
  omega

set_option maxHeartbeats 4000000 in
theorem tell_any (f : Few) (m : Sec) (A1 A2 A3 Ab : Option Addr) (n1 n2 n3 c1 c2 c3 nb cb tree q : Nat) (b : List UInt8) (w : World) (hM : Ground f m A1 A2 A3 n1 n2 n3 w) (ht : W64 tree) (hq : q < 4294967296) (hb : Rd eB w Ab nb b) (hnb : nb ≤ 1048576) (hbl : f.K * f.A ≤ b.length * 8) :
    Calls Tryz.prog 29 #[vFew f, vSec A1 A2 A3 n1 n2 n3 c1 c2 c3, .int .u64 (tree : Int), .int .u32 (q : Int), .slice Ab nb cb] w (RetOwn eB w (fTell f m.seed m.secret tree q b)) := by
  have HM := Lib.hid hM
  have HQ := Lib.hid (And.intro ht hq)
  have HBb := Lib.hid hb
  have HBL := Lib.hid hbl
  have hK : f.K ≤ 40 := hM.ok.ok.K2
  have hA : f.A ≤ 6 := hM.ok.A
  have hN1 := hM.ok.ok.N.pos
  have hN2 := hM.ok.ok.N.le
  have e1 : (f.K : Int) % 4294967296 = (f.K : Int) := by omega
  have e2 : (f.A : Int) % 4294967296 = (f.A : Int) := by omega
  clear hM ht hq hb hbl
  unfold vFew vSec
  go_enter Tryz.func29, Tryz.ntmps29
  go_wp2_with fail
  have HC := Lib.hid (made_any f.N f.L f.H f.K f.A A1 A2 A3 n1 n2 n3 c1 c2 c3 ((w.alloc (.cells #[.int .i64 (f.N : Int), .int .i64 (f.L : Int), .int .i64 (f.H : Int), .int .i64 (f.K : Int), .int .i64 (f.A : Int)] 23)).alloc (.cells #[.slice A1 n1 c1, .slice A2 n2 c2, .slice A3 n3 c3] 26)))
  rw [HM.out.made] at HC
  unfold vFewI vSec at HC
  refine HC.out.mono ?_
  rintro e w1 ⟨rfl, hB⟩
  clear HC
  have g1 : Grow w w1 := (((Below.refl _ w).alloc (Nat.le_refl _) _).alloc (by simp) _).trans (hB.mono (by simp; omega))
  have k0 : w1.cell? ⟨w.heap.size, 0, none⟩ = some (.int .i64 (f.N : Int)) := (hB.cell (by simp; omega)).trans (by go_simp)
  have k1 : w1.cell? ⟨w.heap.size, 1, none⟩ = some (.int .i64 (f.L : Int)) := (hB.cell (by simp; omega)).trans (by go_simp)
  have k2 : w1.cell? ⟨w.heap.size, 2, none⟩ = some (.int .i64 (f.H : Int)) := (hB.cell (by simp; omega)).trans (by go_simp)
  have k3 : w1.cell? ⟨w.heap.size, 3, none⟩ = some (.int .i64 (f.K : Int)) := (hB.cell (by simp; omega)).trans (by go_simp)
  have k4 : w1.cell? ⟨w.heap.size, 4, none⟩ = some (.int .i64 (f.A : Int)) := (hB.cell (by simp; omega)).trans (by go_simp)
  have k5 : w1.cell? ⟨w.heap.size + 1, 0, none⟩ = some (.slice A1 n1 c1) := (hB.cell (by simp)).trans (by go_simp)
  have k6 : w1.cell? ⟨w.heap.size + 1, 1, none⟩ = some (.slice A2 n2 c2) := (hB.cell (by simp)).trans (by go_simp)
  have k7 : w1.cell? ⟨w.heap.size + 1, 2, none⟩ = some (.slice A3 n3 c3) := (hB.cell (by simp)).trans (by go_simp)
  have hs1 : w.heap.size + 1 < w1.heap.size := by have := hB.size; simp at this; omega
  have hs0 : w.heap.size < w1.heap.size := by omega
  have hs2 : (w1.heap.size == w.heap.size + 1) = false := by simp; omega
  have hs3 : (w1.heap.size == w.heap.size) = false := by simp; omega
  clear hB
  go_wp2_with fail
  generalize hW2 : World.alloc w1 _ = w2
  have g2 : Grow w1 w2 := by rw [← hW2]; exact (Below.refl _ _).alloc (Nat.le_refl _) _
  have p0 : w2.cell? ⟨w1.heap.size, 0, none⟩ = some (.int .i64 (f.N : Int)) := by subst hW2; go_simp
  have p1 : w2.cell? ⟨w1.heap.size, 1, none⟩ = some (.int .i64 (f.L : Int)) := by subst hW2; go_simp
  have p2 : w2.cell? ⟨w1.heap.size, 2, none⟩ = some (.int .i64 (f.H : Int)) := by subst hW2; go_simp
  have p3 : w2.cell? ⟨w1.heap.size, 3, none⟩ = some (.int .i64 (f.K : Int)) := by subst hW2; go_simp
  have p4 : w2.cell? ⟨w1.heap.size, 4, none⟩ = some (.int .i64 (f.A : Int)) := by subst hW2; go_simp
  have p5 : w2.cell? ⟨w1.heap.size, 5, none⟩ = some (.slice A3 n3 c3) := by subst hW2; go_simp
  have p6 : w2.cell? ⟨w1.heap.size, 6, none⟩ = some (.int .u64 (tree : Int)) := by subst hW2; go_simp
  have p7 : w2.cell? ⟨w1.heap.size, 7, none⟩ = some (.int .u32 (q : Int)) := by subst hW2; go_simp
  clear hW2
  have HC := Lib.hid (psums_any f A3 A1 A2 A3 n3 c3 n1 n2 n3 c1 c2 c3 tree q w2)
  unfold vPlace vSec at HC
  refine HC.out.mono ?_
  rintro e w3 ⟨Bp, Bm, Ba, rfl, hF, g3⟩
  have HF := Lib.hid hF
  have gg := g1.trans _ _ _ (g2.trans _ _ _ g3)
  have g23 := g2.trans _ _ _ g3
  have K0 := cell_old g23 k0; have K1 := cell_old g23 k1; have K2 := cell_old g23 k2; have K3 := cell_old g23 k3; have K4 := cell_old g23 k4; have K5 := cell_old g23 k5; have K6 := cell_old g23 k6; have K7 := cell_old g23 k7
  have P0 := cell_old g3 p0; have P1 := cell_old g3 p1; have P2 := cell_old g3 p2; have P3 := cell_old g3 p3; have P4 := cell_old g3 p4; have P5 := cell_old g3 p5; have P6 := cell_old g3 p6; have P7 := cell_old g3 p7
  clear HC hF g3 k0 k1 k2 k3 k4 k5 k6 k7 p0 p1 p2 p3 p4 p5 p6 p7 g1 g2 g23
  go_wp2_with fail
  have HC := Lib.hid (digits_any f Ab nb cb b w3 HM.out.ok.ok (HBb.out.below gg) hnb HBL.out)
  unfold vFew at HC
  refine HC.out.mono ?_
  rintro e w4 ⟨Ad, nd, cd, rfl, hd, g4⟩
  obtain rfl : f.K = nd := by rw [← hd.len, fDigits_length]
  have g4' : Grow w3 w4 := g4
  have gg4 := gg.trans _ _ _ g4'
  have HF4 := Lib.hid (HF.out.below g4')
  have HD := Lib.hid hd.rd
  have M0 := cell_old g4 K0; have M1 := cell_old g4 K1; have M2 := cell_old g4 K2; have M3 := cell_old g4 K3; have M4 := cell_old g4 K4; have M5 := cell_old g4 K5; have M6 := cell_old g4 K6; have M7 := cell_old g4 K7
  have R0 := cell_old g4 P0; have R1 := cell_old g4 P1; have R2 := cell_old g4 P2; have R3 := cell_old g4 P3; have R4 := cell_old g4 P4; have R5 := cell_old g4 P5; have R6 := cell_old g4 P6; have R7 := cell_old g4 P7
  clear HC hd g4 g4' K0 K1 K2 K3 K4 K5 K6 K7 P0 P1 P2 P3 P4 P5 P6 P7 gg HF
  go_wp2
  go_loopw [13, 35] (fun v i wr => ∃ (k : Nat) (A : Option Addr) (c : Nat), k ≤ f.K ∧ i = .int .i64 (k : Int) ∧ v = .slice A (k * ((f.A + 1) * f.N)) c ∧ Own eB w4.heap.size wr A (k * ((f.A + 1) * f.N)) c ((List.range k).flatMap fun k => fSecret f.N m.seed m.secret tree q (fIndex f b k) ++ fWay f m.seed m.secret tree q (fIndex f b k)) ∧ Grow w4 wr) (fun _ i _ => f.K - (intOf i).toNat)
  case atStart => exact ⟨0, none, 0, Nat.zero_le _, rfl, by simp, by simpa using Own.nil _ _, Grow.refl _⟩
  case round =>
    obtain ⟨k, A, c, hk, rfl, rfl, ho, hg⟩ := hrel
    have hAN : (f.A + 1) * f.N ≤ 224 := Nat.le_trans (Nat.mul_le_mul (show f.A + 1 ≤ 7 by omega) hN2) (by omega)
    have hkN : k * ((f.A + 1) * f.N) ≤ 8960 := Nat.le_trans (Nat.mul_le_mul (Nat.le_trans hk hK) hAN) (by omega)
    have HO := Lib.hid ho
    by_cases hlt : k < f.K
    · have m0 := cell_old hg M0; have m1 := cell_old hg M1; have m2 := cell_old hg M2; have m3 := cell_old hg M3; have m4 := cell_old hg M4; have m5 := cell_old hg M5; have m6 := cell_old hg M6; have m7 := cell_old hg M7
      have r0 := cell_old hg R0; have r1 := cell_old hg R1; have r2 := cell_old hg R2; have r3 := cell_old hg R3; have r4 := cell_old hg R4; have r5 := cell_old hg R5; have r6 := cell_old hg R6; have r7 := cell_old hg R7
      obtain ⟨ad, hAd, hdc⟩ := (HD.out.below hg).at k hlt
      rw [fDigits_at] at hdc
      subst hAd
      have hix := index_lt f b k hlt
      have hdl := digitTo_lt f.A b k f.A
      have HIX : Hid (fIndex f b k = k * 2 ^ f.A + digitTo f.A b k f.A) := Lib.hid rfl
      have hp : 2 ^ f.A ≤ 64 := by calc 2 ^ f.A ≤ 2 ^ 6 := Nat.pow_le_pow_right (by omega) hA
                                      _ = 64 := by decide
      have hix2 : fIndex f b k < 2560 := Nat.lt_of_lt_of_le hix (Nat.le_trans (Nat.mul_le_mul hK hp) (by omega))
      have hor := or_u32 k (digitTo f.A b k f.A) f.A hdl (by rw [← HIX.out]; omega)
      rw [← HIX.out, Int.natCast_mul, Int.natCast_pow] at hor
      have hkp : k * 2 ^ f.A ≤ 2560 := Nat.le_trans (Nat.mul_le_mul (Nat.le_trans hk hK) hp) (by omega)
      have HG := Lib.hid hg
      generalize hi : fIndex f b k = i at *
      generalize hdd : digitTo f.A b k f.A = d at *
      have hmd : (k : Int) * 2 ^ f.A % 4294967296 = (k : Int) * 2 ^ f.A := by
        have : (k : Int) * 2 ^ f.A = ((k * 2 ^ f.A : Nat) : Int) := by rw [Int.natCast_mul, Int.natCast_pow]; rfl
        rw [this]; omega
      have hor' : bits .or .u32 ((k : Int) * 2 ^ f.A) (d : Int) = (i : Int) := hor
      have HP := Lib.hid hp
      have HC := Lib.hid (psecret_any f A3 A1 A2 A3 n3 c3 n1 n2 n3 c1 c2 c3 m.seed m.secret tree q i wr (HM.out.below (gg4.trans _ _ _ hg)).laid HM.out.ok.ok.N (HM.out.below (gg4.trans _ _ _ hg)).r3 HM.out.ok.seed HQ.out.1 HQ.out.2 (by omega) (HM.out.below (gg4.trans _ _ _ hg)).r1 HM.out.ok.secret)
      unfold vPlace vSec at HC
      have hsec := Lib.hid (fSecret_length f.N m.seed m.secret tree q i (by omega))
      clear ho hg M0 M1 M2 M3 M5 M6 M7 R0 R1 R2 R3 R4 R5 R6 R7 hdl hix HIX hor hdd hp hkp
      have HI := Lib.hid hi
      clear hi
      go_wp2_with fail
      refine HC.out.mono ?_
      rintro e w5 ⟨A5, n5, c5, rfl, h5, h6⟩
      obtain rfl : f.N = n5 := by rw [← h5.len]; exact hsec.out.symm
      have HO2 := Lib.hid (HO.out.below h6)
      have H5 := Lib.hid h5
      have H6 := Lib.hid (HG.out.trans _ _ _ h6)
      have hsz : w4.heap.size ≤ w5.heap.size := Nat.le_trans HG.out.size h6.size
      have m4' := cell_old h6 m4
      clear HC h5 h6 m0 m1 m2 m3 m4 m5 m6 m7 r0 r1 r2 r3 r4 r5 r6 r7 hdc hmd hor'
      go_wp2_with (at_builtin; refine wpList_append_sl rfl _ _ 24 5 (.int .u8 0) 1 rfl Tryz.underlying24 infoB rfl (fun _ => rfl) rfl rfl HO2.out H5.out.rd (by omega) (by omega) hsz ?_; intro A6 c6 w6 h7 h8 h9; have m4 := (show w6.cell? ⟨w.heap.size, 4, none⟩ = _ from (h9.cell (World.block_lt_of_cell? w4 _ M4)).trans m4'); have H7 := Lib.hid h7; have H9 := Lib.hid (Below.trans H6.out h9); clear h7 h8 h9 m4')
      generalize hpl : (List.range k).flatMap (fun k => fSecret f.N m.seed m.secret tree q (fIndex f b k) ++ fWay f m.seed m.secret tree q (fIndex f b k)) ++ fSecret f.N m.seed m.secret tree q i = pl at *
      generalize hbase : k * ((f.A + 1) * f.N) + f.N = bs at *
      have hbs : bs ≤ 9000 := by omega
      have HPL := Lib.hid (And.intro hpl hbase)
      clear hpl hbase HO HO2 H5 H6 hsz HG
      go_loopw [13, 56] (fun v g wr' => ∃ (j : Nat) (A : Option Addr) (c : Nat), j ≤ f.A ∧ g = .int .u32 (j : Int) ∧ v = .slice A (bs + j * f.N) c ∧ Own eB w4.heap.size wr' A (bs + j * f.N) c (pl ++ (List.range j).flatMap fun g => fNode f.N m.seed m.secret tree q g (other (i / 2 ^ g))) ∧ Grow w4 wr') (fun _ g _ => f.A - (intOf g).toNat)
      case atStart => exact ⟨0, A6, c6, Nat.zero_le _, rfl, by simp, by simpa using H7.out, H9.out⟩
      case round =>
        obtain ⟨j, Aj, cj, hj, rfl, rfl, ho, hg⟩ := hrel
        have hjN : j * f.N ≤ 192 := Nat.le_trans (Nat.mul_le_mul (Nat.le_trans hj hA) hN2) (by omega)
        by_cases hjl : j < f.A
        · have hol := other_le (i / 2 ^ j)
          have hpj : 2 ^ j ≤ 64 := by calc 2 ^ j ≤ 2 ^ 6 := Nat.pow_le_pow_right (by omega) (by omega)
                                          _ = 64 := by decide
          have hdiv : i / 2 ^ j * 2 ^ j ≤ i := Nat.div_mul_le_self _ _
          have hbound : (other (i / 2 ^ j) + 1) * 2 ^ j ≤ 1048576 := by
            calc (other (i / 2 ^ j) + 1) * 2 ^ j ≤ (i / 2 ^ j + 2) * 2 ^ j := Nat.mul_le_mul_right _ (by omega)
              _ = i / 2 ^ j * 2 ^ j + 2 * 2 ^ j := by rw [Nat.add_mul]
              _ ≤ 1048576 := by omega
          have hx0 : i / 2 ^ j < 4294967296 := Nat.lt_of_le_of_lt (Nat.div_le_self _ _) (by omega)
          have hx : bits .xor .u32 ((i : Int) / 2 ^ j) 1 = (other (i / 2 ^ j) : Int) := by
            rw [pow_cast]
            have := xor_u32 (i / 2 ^ j) 1 hx0 (by omega)
            rw [xor1] at this
            exact this
          have gW := gg4.trans _ _ _ hg
          have HC := Lib.hid (fnode_any f A3 A1 A2 A3 n3 c3 n1 n2 n3 c1 c2 c3 Bp Bm Ba m.seed m.secret tree q j (other (i / 2 ^ j)) wr ⟨(HM.out.below gW).laid, HM.out.ok.ok.N, (HM.out.below gW).r3, HM.out.ok.seed, HQ.out.1, HQ.out.2, (HM.out.below gW).r1, HM.out.ok.secret⟩ (HF4.out.below hg) hbound)
          have hfl := Lib.hid (fNode_length f.N m.seed m.secret tree q j (other (i / 2 ^ j)) (by omega))
          have HX := Lib.hid hx
          generalize ho' : other (i / 2 ^ j) = o at *
          have HOo := Lib.hid ho'
          have HO := Lib.hid ho
          have HG := Lib.hid hg
          have hx' : bits .xor .u32 ((i : Int) / 2 ^ j) 1 = (o : Int) := hx
          clear ho hg gW hx hol hdiv hbound ho' hpj m4 hx0
          go_wp2_with fail
          refine HC.out.mono ?_
          rintro e w7 ⟨A', n', c', rfl, h5, h6⟩
          obtain rfl : f.N = n' := by rw [← h5.len]; exact hfl.out.symm
          have HO2 := Lib.hid (HO.out.below h6)
          have H5 := Lib.hid h5
          have H6 := Lib.hid (HG.out.trans _ _ _ h6)
          have hsz : w4.heap.size ≤ w7.heap.size := Nat.le_trans HG.out.size h6.size
          clear HC h5 h6
          go_wp2_with (at_builtin; refine wpList_append_sl rfl _ _ 24 5 (.int .u8 0) 1 rfl Tryz.underlying24 infoB rfl (fun _ => rfl) rfl rfl HO2.out H5.out.rd (by omega) (by omega) hsz ?_; intro A' c' w' h3 h4 h5; have H3 := Lib.hid h3; have H8 := Lib.hid (Below.trans H6.out h5); clear h3 h4 h5)
          go_roundw
          case rel => exact ⟨j + 1, A', c', by omega, by go_num, by rw [Nat.succ_mul, Nat.add_assoc], by rw [Nat.succ_mul, ← Nat.add_assoc, range_flat, HOo.out, ← List.append_assoc]; exact H3.out, H8.out⟩
          case measure => simp [intOf]; omega
        · obtain rfl : j = f.A := by omega
          have HO := Lib.hid ho
          have HG := Lib.hid hg
          clear ho hg m4
          go_wp2
          go_roundw
          case rel =>
            have hE : (k + 1) * ((f.A + 1) * f.N) = bs + f.A * f.N := by
              rw [Nat.succ_mul, ← HPL.out.2, Nat.succ_mul f.A f.N]; omega
            refine ⟨k + 1, Aj, cj, by omega, by go_num, by rw [hE], ?_, HG.out⟩
            rw [hE, range_flat, HI.out]
            have := HO.out
            rw [← HPL.out.1, List.append_assoc] at this
            exact this
          case measure => simp [intOf]; omega
    · obtain rfl : k = f.K := by omega
      have GG := Lib.hid (gg4.trans _ _ _ hg)
      have hsz := gg4.size
      clear hg M0 M1 M2 M3 M4 M5 M6 M7 R0 R1 R2 R3 R4 R5 R6 R7 ho
      go_wp2
      go_ret
      exact ⟨_, _, _, rfl, HO.out.mono hsz, GG.out⟩
end Go.Proofs.Sl
