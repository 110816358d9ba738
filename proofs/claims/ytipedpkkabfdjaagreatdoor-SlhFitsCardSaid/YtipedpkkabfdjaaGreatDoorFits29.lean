/- The document's digits of width 4: those of bytes; what they lack; all of them. What was there is as it was but for one row: laws for a slice that goes on in place beside others. -/
import Derived.Test.YtipedpkkabfdjaaGreatDoorFits12
import Derived.Test.YtipedpkkabfdjaaGreatDoorFits08
import Derived.Test.YtipedpkkabfdjaaGreatDoorFits26
/- The document's digits of width 4: those of bytes; what they lack; all of them. -/
namespace Go.Proofs.Sl
open Go.RowKit Go.Proofs

theorem bits_step : ∀ c, c < 256 → ∀ h, h < 2 → ∀ i, i < 4 → 2 * (c / 2 ^ (8 - 4 * h - i) % 2 ^ i) + c / 2 ^ (7 - (4 * h + i)) % 2 = c / 2 ^ (8 - 4 * h - (i + 1)) % 2 ^ (i + 1) := by decide +kernel
theorem nibs_get (b : List UInt8) (k : Nat) (h : k < (nibs b).length) : (nibs b)[k] = (b[k / 2]'(by rw [nibs_length] at h; omega)).toNat / 2 ^ (8 - 4 * (k % 2) - 4) % 2 ^ 4 := by
  have hl := nibs_length b
  have hb := (b[k / 2]'(by omega)).toNat_lt
  have := nibs_at b (k / 2) (by omega)
  by_cases h0 : k % 2 = 0
  · have e : 2 * (k / 2) = k := by omega
    simp only [e] at this
    rw [this.1, h0]
    have h9 : 2 ^ (8 - 4 * 0 - 4) = 16 := rfl
    rw [h9]
    omega
  · have h1 : k % 2 = 1 := by omega
    have e : 2 * (k / 2) + 1 = k := by omega
    simp only [e] at this
    rw [this.2, h1]
    have h9 : 2 ^ (8 - 4 * 1 - 4) = 1 := rfl
    rw [h9]
    omega

set_option maxHeartbeats 2000000 in
theorem rof_any (A : Option Addr) (n c : Nat) (b : List UInt8) (w : World) (hr : Rd eB w A n b) (hn : n ≤ 64) :
    Calls Tryz.prog 78 #[.slice A n c, .int .i64 4] w (RetOwn eN w (nibs b)) := by
  have HR := Lib.hid hr
  have hbl := hr.len
  have hnl := nibs_length b
  clear hr
  go_enter Tryz.func78, Tryz.ntmps78
  go_wp2_with (go_at_call 85; refine (rwid_any _).mono ?_; rintro e w1 ⟨rfl, rfl⟩)
  go_loopw [5, 6] (fun v t wr => ∃ (k : Nat) (A' : Option Addr) (c' : Nat), k ≤ 2 * n ∧ t = .int .i64 ((4 * k : Nat) : Int) ∧ v = .slice A' k c' ∧ Own eN w.heap.size wr A' k c' ((nibs b).take k) ∧ Below w.heap.size w wr) (fun _ t _ => 8 * n - (intOf t).toNat)
  case atStart => exact ⟨0, none, 0, Nat.zero_le _, rfl, rfl, Own.nil _ _, Below.refl _ _⟩
  case round =>
    obtain ⟨k, A', c', hk, rfl, rfl, ho, hb⟩ := hrel
    have HO := Lib.hid ho
    have HB := Lib.hid hb
    clear ho hb
    obtain ⟨at_, hat⟩ : ∃ x, 4 * k = x := ⟨_, rfl⟩
    rw [hat]
    by_cases hlt : k < 2 * n
    · have hl1 : at_ < 8 * n := by omega
      obtain ⟨ad, rfl, hc⟩ := (HR.out.below HB.out).at (k / 2) (by omega)
      have hget := nibs_get b k (by omega)
      have hcl := (b[k / 2]'(by omega)).toNat_lt
      obtain ⟨cn, hcn⟩ : ∃ x, (b[k / 2]'(by omega)).toNat = x := ⟨_, rfl⟩
      rw [hcn] at hget hcl
      have hc1 : wr.cell? (ad.add (k / 2)) = some (.int .u8 (cn : Int)) := by rw [← hcn]; exact hc
      clear hc hcn
      obtain ⟨h, hh⟩ : ∃ x, k % 2 = x := ⟨_, rfl⟩
      rw [hh] at hget
      have hh2 : h < 2 := by omega
      have HGET := Lib.hid hget
      have HAT := Lib.hid (And.intro hat hh)
      clear hget hat hh
      go_wp2_with fail
      go_loopw [7, 8] (fun d t wr' => ∃ i : Nat, i ≤ 4 ∧ t = .int .i64 (i : Int) ∧ d = .int .i64 ((cn / 2 ^ (8 - 4 * h - i) % 2 ^ i : Nat) : Int) ∧ wr = wr') (fun _ t _ => 4 - (intOf t).toNat)
      case atStart => exact ⟨0, Nat.zero_le _, rfl, by simp [Nat.mod_one], rfl⟩
      case round =>
        obtain ⟨i, hi, rfl, rfl, rfl⟩ := hrel
        by_cases hil : i < 4
        · have hst := bits_step cn hcl h hh2 i hil
          have hdd : cn / 2 ^ (8 - 4 * h - i) % 2 ^ i < 16 := Nat.lt_of_lt_of_le (Nat.mod_lt _ (Nat.two_pow_pos _)) (by have : 2 ^ i ≤ 2 ^ 3 := Nat.pow_le_pow_right (by omega) (by omega); omega)
          generalize cn / 2 ^ (8 - 4 * h - i) % 2 ^ i = dd at *
          have hz : (cn : Int) / 2 ^ (7 - (4 * h + i)) = ((cn / 2 ^ (7 - (4 * h + i)) : Nat) : Int) := pow_cast _ _
          have hzl : cn / 2 ^ (7 - (4 * h + i)) < 256 := Nat.lt_of_le_of_lt (Nat.div_le_self _ _) hcl
          have i1 : ((at_ : Int) + (i : Int)) / 8 = ((k / 2 : Nat) : Int) := by have := HAT.out; omega
          have i2 : 7 - ((at_ : Int) + (i : Int)) % 8 = ((7 - (4 * h + i) : Nat) : Int) := by have := HAT.out; omega
          have hs7 : 7 - (4 * h + i) ≤ 7 := by omega
          have hk2 : k / 2 < n := by omega
          generalize cn / 2 ^ (7 - (4 * h + i)) = z at *
          generalize 7 - (4 * h + i) = s at *
          generalize k / 2 = j at *
          have HST := Lib.hid hst
          clear hst
          go_wp2
          go_roundw
          case rel => exact ⟨i + 1, by omega, by go_num, by rw [← HST.out]; go_num, trivial⟩
          case measure => simp [intOf]; omega
        · have hi4 : i = 4 := by omega
          rw [hi4]
          rw [← HGET.out]
          have hdl : (nibs b)[k]'(by omega) < 16 := by rw [HGET.out]; exact Nat.mod_lt _ (by omega)
          have htk : (nibs b).take k ++ [(nibs b)[k]'(by omega)] = (nibs b).take (k + 1) := (List.take_succ_eq_append_getElem (by omega)).symm
          generalize (nibs b)[k]'(by omega) = dg at *
          have HTK := Lib.hid htk
          have HN : Hid (Rd eN (wr.alloc (.cells #[.int .i64 (dg : Int)] 3)) (some ⟨wr.heap.size, 0, none⟩) 1 [dg]) := Lib.hid ⟨rfl, by omega, fun j hj => ⟨_, rfl, by
            match j, hj with
            | 0, _ => rw [add_zero']; exact cell_new ..⟩⟩
          have HO2 := Lib.hid (HO.out.alloc (.cells #[.int .i64 (dg : Int)] 3))
          have HB2 := Lib.hid (HB.out.alloc HB.out.size (.cells #[.int .i64 (dg : Int)] 3))
          have hs2 := HB2.out.size
          clear htk hi4 hc1
          go_wp2_with (at_builtin; refine wpList_append_sl rfl _ _ 65 3 (.int .i64 0) 8 rfl Tryz.underlying65 infoI rfl (fun _ => rfl) rfl rfl HO2.out HN.out (by omega) (by omega) hs2 ?_; intro A4 c4 w4 h1 h2 h3; have H4 := Lib.hid h1; have H5 := Lib.hid (Below.trans HB2.out h3); clear h1 h2 h3)
          go_roundw
          case rel => exact ⟨k + 1, A4, c4, by omega, by have := HAT.out; go_num, rfl, by rw [← HTK.out]; exact H4.out, H5.out⟩
          case measure => simp [intOf]; omega
    · have hk2 : k = 2 * n := by omega
      have hl1 : ¬ at_ < 8 * n := by omega
      have htk : (nibs b).take k = nibs b := List.take_of_length_le (by omega)
      rw [htk] at HO
      clear hat htk hk2
      go_wp2
      go_ret
      exact ⟨_, _, _, rfl, HO.out, HB.out⟩

theorem lackOf_take (l : List Nat) (k : Nat) (h : k < l.length) : lackOf (l.take (k + 1)) = lackOf (l.take k) + (15 - l[k]) := by
  rw [List.take_succ_eq_append_getElem h, lackOf_snoc]
theorem lackOf_take_le (l : List Nat) (k : Nat) : lackOf (l.take k) ≤ 15 * k := by
  have := lackOf_le (l.take k)
  have h2 : (l.take k).length ≤ k := by rw [List.length_take]; omega
  exact Nat.le_trans this (Nat.mul_le_mul_left _ h2)
theorem nibs_lt_at (b : List UInt8) (k : Nat) (h : k < (nibs b).length) : (nibs b)[k] < 16 := by rw [nibs_get]; exact Nat.mod_lt _ (by omega)

set_option maxHeartbeats 2000000 in
theorem rlack_any (A : Option Addr) (n c : Nat) (b : List UInt8) (w : World) (hr : Rd eB w A n b) (hn : n ≤ 64) :
    Calls Tryz.prog 77 #[.slice A n c, .int .i64 4] w (RetV w (.int .i64 ((lackOf (nibs b) : Nat) : Int))) := by
  have HC := Lib.hid (rof_any A n c b w hr hn)
  have hnl := nibs_length b
  have hbl := hr.len
  clear hr
  go_enter Tryz.func77, Tryz.ntmps77
  go_wp2_with fail
  refine HC.out.mono ?_
  rintro e w1 ⟨Al, nl, cl, rfl, h1, g1⟩
  have HG := Lib.hid g1
  have HL := Lib.hid h1.rd
  have hnl2 : nl ≤ 128 := by rw [← h1.len, hnl, hbl]; omega
  have hnl3 := h1.len
  clear h1 g1 HC
  go_wp2_with fail
  refine wp_loop_rounds 5 ?_
  iterate 5
    rw [rounds_succ]
    go_wp2_with (go_at_call 85; refine (rwid_any _).mono ?_; rintro e w2 ⟨rfl, rfl⟩)
  go_loopw [8, 9] (fun v t wr => ∃ k : Nat, k ≤ nl ∧ t = .int .i64 (k : Int) ∧ v = .int .i64 ((lackOf ((nibs b).take k) : Nat) : Int) ∧ w1 = wr) (fun _ t _ => nl - (intOf t).toNat)
  case atStart => exact ⟨0, Nat.zero_le _, rfl, rfl, rfl⟩
  case round =>
    obtain ⟨k, hk, rfl, rfl, rfl⟩ := hrel
    by_cases hlt : k < nl
    · obtain ⟨ad, rfl, hc⟩ := HL.out.at k hlt
      have hst := lackOf_take (nibs b) k (by omega)
      have hle := lackOf_take_le (nibs b) k
      have hd := nibs_lt_at b k (by omega)
      generalize (nibs b)[k]'(by omega) = d at *
      generalize lackOf ((nibs b).take k) = s at *
      have HST := Lib.hid hst
      have hs9 : s ≤ 2000 := by omega
      have hc' : w1.cell? (ad.add k) = some (.int .i64 (d : Int)) := hc
      clear hst hle hc
      go_wp2
      go_roundw
      case rel => exact ⟨k + 1, by omega, by go_num, by rw [HST.out]; congr 1; omega, trivial⟩
      case measure => simp [intOf]; omega
    · have hk2 : (nibs b).take k = nibs b := List.take_of_length_le (by omega)
      rw [hk2]
      have hle := lackOf_take_le (nibs b) nl
      generalize lackOf (nibs b) = s at *
      clear hk2
      go_wp2
      go_ret
      exact ⟨rfl, HG.out⟩

theorem two_bytes (x : Nat) (h : x < 65536) : [UInt8.ofNat (x / 256), UInt8.ofNat (x % 256)] = putBE x 2 := by
  simp only [putBE]
  rw [Nat.pow_one, Nat.pow_zero, Nat.div_one, Nat.mod_eq_of_lt (show x / 256 < 256 by omega)]

set_option maxHeartbeats 4000000 in
theorem rall_any (A : Option Addr) (n c : Nat) (b : List UInt8) (w : World) (hr : Rd eB w A n b) (hN : NOk n) :
    Calls Tryz.prog 39 #[.slice A n c, .int .i64 4] w (RetOwn eN w (digAll b)) := by
  have HR := Lib.hid hr
  have hn16 := hN.pos'
  have hn32 := hN.le'
  have hn64 : n ≤ 64 := by omega
  have HSH := Lib.hid (rshape_any n hN)
  have HLK := Lib.hid (fun W (hW : Below w.heap.size w W) => rlack_any A n c b W (HR.out.below hW) hn64)
  have hlk : lackOf (nibs b) ≤ 960 := by
    have := lackOf_le (nibs b)
    rw [nibs_length, hr.len] at this
    omega
  have HRES : Hid (digAll b = nibs b ++ (nibs (putBE (lackOf (nibs b) * 16) 2)).take 3) := Lib.hid rfl
  generalize lackOf (nibs b) = x at *
  clear hr hN
  have h2n : ((2 * n : Nat) : Int) = 2 * (n : Int) := by omega
  rw [h2n] at HSH
  have hne : ((2 * (n : Int)) == 0) = false := by simp; omega
  clear h2n
  go_enter Tryz.func39, Tryz.ntmps39
  go_wp2_with fail
  refine (HSH.out w).mono ?_
  rintro e w1 ⟨rfl, g1⟩
  have G1 : Hid (Below w.heap.size w w1) := Lib.hid g1
  clear g1
  go_wp2_with fail
  refine (HLK.out w1 G1.out).mono ?_
  rintro e w2 ⟨rfl, g2⟩
  have G2 : Hid (Below w.heap.size w w2) := Lib.hid (Below.trans G1.out (Below.mono g2 G1.out.size))
  clear g2
  go_wp2_with fail
  refine wp_loop_rounds 5 ?_
  iterate 5
    rw [rounds_succ]
    go_wp2_with fail
  have e1 : 2 * (2 * (2 * (2 * (x : Int)))) / 256 = ((UInt8.ofNat (x * 16 / 256)).toNat : Int) := by rw [UInt8.toNat_ofNat']; omega
  have e2 : 2 * (2 * (2 * (2 * (x : Int)))) % 256 = ((UInt8.ofNat (x * 16 % 256)).toNat : Int) := by rw [UInt8.toNat_ofNat']; omega
  rw [e1, e2]
  have H2B : Hid (Rd eB (w2.alloc (.cells #[.int .u8 ((UInt8.ofNat (x * 16 / 256)).toNat : Int), .int .u8 ((UInt8.ofNat (x * 16 % 256)).toNat : Int)] 5)) (some ⟨w2.heap.size, 0, none⟩) 2 (putBE (x * 16) 2)) := by
    rw [← two_bytes (x * 16) (by omega)]
    exact Lib.hid ⟨rfl, by omega, fun j hj => ⟨_, rfl, by
            match j, hj with
            | 0, _ => rw [add_zero']; exact cell_new ..
            | 1, _ => exact (cell_new _ _ _ 1).trans rfl⟩⟩
  have HC := Lib.hid (rof_any _ _ 2 _ _ H2B.out (by omega))
  have HB2 := Lib.hid (G2.out.alloc G2.out.size (.cells #[.int .u8 ((UInt8.ofNat (x * 16 / 256)).toNat : Int), .int .u8 ((UInt8.ofNat (x * 16 % 256)).toNat : Int)] 5))
  have HBS : Hid (w.heap.size ≤ (w2.alloc (.cells #[.int .u8 ((UInt8.ofNat (x * 16 / 256)).toNat : Int), .int .u8 ((UInt8.ofNat (x * 16 % 256)).toNat : Int)] 5)).heap.size) := Lib.hid HB2.out.size
  clear e1 e2
  refine HC.out.mono ?_
  rintro e w3 ⟨Al, nl, cl, rfl, hl1, hg1⟩
  have HL : Hid (Own eN w.heap.size w3 Al nl cl (nibs (putBE (x * 16) 2))) := Lib.hid (hl1.mono HBS.out)
  have HG : Hid (Below w.heap.size w w3) := Lib.hid (Below.trans HB2.out (Below.mono hg1 HBS.out))
  have hnl : 3 ≤ nl := by rw [← hl1.len, nibs_length, putBE_length]; omega
  have hcl : 3 ≤ cl := by have := hl1.nc; omega
  clear hl1 hg1 HC H2B G1 G2 HB2 HBS
  go_upto_region 10 with (fail)
  refine wp_region_rg Grow 47 6 6 [[], [], [], [], [], []]
    [.still [] (.slice A n c), .still [] (.int .i64 4), .grow [] (OwnV eN w.heap.size (nibs b)), .still [] (.slice Al nl cl), .still [] (.int .i64 3), .still [] (.slice Al 3 cl)] (by kernel_rfl) (by kernel_rfl) rfl rfl rfl Grow.trans (Grow.refl _) ?_
  iterate 2
    refine Obl.still (fun W hg _ => ?_) ?_
    · clear hg
      go_wp2
      exact ⟨rfl, rfl, rfl, Grow.refl _⟩
    simp only [Act.put, List.setIfInBounds_toArray, List.set_cons_zero, List.set_cons_succ]
  refine Obl.grow (OwnV.keep _ _ _) (fun W hg _ => ?_) (fun v2 => ?_)
  · have hg3 : Below w3.heap.size w3 W := (Below.refl _ _).drew.trans hg
    have hbW := Below.trans HG.out (Below.mono hg3 HG.out.size)
    have HC := Lib.hid (rof_any A n c b W (HR.out.below hbW) hn64)
    have HSW := Lib.hid hbW.size
    clear hbW hg3
    clear hg
    go_wp2_with fail
    refine HC.out.mono ?_
    rintro e w' ⟨A1, n1, c1, rfl, h1, h2⟩
    have H1 := Lib.hid (h1.mono HSW.out)
    have H2 := Lib.hid h2
    clear h1 h2 HC
    go_wp2
    exact ⟨rfl, rfl, ⟨_, _, _, rfl, H1.out⟩, H2.out⟩
  simp only [Act.put, List.setIfInBounds_toArray, List.set_cons_zero, List.set_cons_succ]
  iterate 3
    refine Obl.still (fun W hg _ => ?_) ?_
    · clear hg
      go_wp2
      exact ⟨rfl, rfl, rfl, Grow.refl _⟩
    simp only [Act.put, List.setIfInBounds_toArray, List.set_cons_zero, List.set_cons_succ]
  refine Obl.done (fun W hg hall => ?_)
  obtain ⟨hx, _⟩ := hall
  obtain ⟨Ao, no, co, rfl, ho⟩ := hx
  have HO := Lib.hid ho
  have hg3 : Below w3.heap.size w3 W := (Below.refl _ _).drew.trans hg
  have HG2 : Hid (Below w.heap.size w W) := Lib.hid (Below.trans HG.out (Below.mono hg3 HG.out.size))
  have HL2 := Lib.hid ((HL.out.below hg3).takeN (m := 3) hnl)
  have hno : no ≤ 128 := by rw [← ho.len, nibs_length, HR.out.len]; omega
  have hs2 := HG2.out.size
  clear hg ho hg3
  go_wp2_with (at_builtin; refine wpList_append_sl rfl _ _ 65 3 (.int .i64 0) 8 rfl Tryz.underlying65 infoI rfl (fun _ => rfl) rfl rfl HO.out HL2.out.rd (by omega) (by omega) hs2 ?_; intro A4 c4 w4 h1 h2 h3; have H4 := Lib.hid h1; have H5 := Lib.hid (Below.trans HG2.out h3); clear h1 h2 h3)
  go_ret
  exact ⟨_, _, _, rfl, by rw [HRES.out]; exact H4.out, H5.out⟩


end Go.Proofs.Sl

/- What was there is as it was but for one row: laws for a slice that goes on in place beside others. -/
namespace Go.Proofs.Sl
open Go Go.RowKit Go.Proofs

/-- The row is the one that may turn, or is new. -/
def AtOr (w : World) (r : Option Nat) (A : Option Addr) : Prop := ∀ ad, A = some ad → some ad.block = r ∨ w.heap.size ≤ ad.block
theorem gb_refl (w : World) (r : Option Nat) : w.grownBy w r := ⟨rfl, rfl, rfl, Nat.le_refl _, fun _ _ _ => rfl⟩
theorem gb_below {w w1 w2 : World} {r : Option Nat} (h : w.grownBy w1 r) (b : Below w1.heap.size w1 w2) : w.grownBy w2 r :=
  ⟨b.os.trans h.os, b.tape.trans h.tape, b.output.trans h.output, Nat.le_trans h.size b.size, fun k hk hn => (b.block k (Nat.lt_of_lt_of_le hk h.size)).trans (h.block k hk hn)⟩
theorem gb_app {w w1 w2 : World} {r : Option Nat} {A : Option Addr} (h : w.grownBy w1 r) (ha : AtOr w r A) (g : w1.grownBy w2 (A.map (·.block))) : w.grownBy w2 r :=
  ⟨g.os.trans h.os, g.tape.trans h.tape, g.output.trans h.output, Nat.le_trans h.size g.size, fun k hk hn => (g.block k (Nat.lt_of_lt_of_le hk h.size) (fun e => by
    cases A with
    | none => cases e
    | some ad =>
      rcases ha ad rfl with h1 | h1
      · exact hn (e.trans h1)
      · simp only [Option.map_some, Option.some.injEq] at e
        omega)).trans (h.block k hk hn)⟩
theorem AtOr.refl (w : World) (A : Option Addr) : AtOr w (A.map (·.block)) A := fun ad h => .inl (by rw [h]; rfl)
theorem AtOr.app {w w1 : World} {r : Option Nat} {A A' : Option Addr} (h : AtOr w r A) (hs : w.heap.size ≤ w1.heap.size) (e : A' = A ∨ ∃ g, A' = some ⟨g, 0, none⟩ ∧ w1.heap.size ≤ g) : AtOr w r A' := by
  rcases e with rfl | ⟨g, rfl, hg⟩
  · exact h
  · intro ad had
    cases had
    exact .inr (Nat.le_trans hs hg)
theorem gb_toBelow {w w1 : World} {B : Nat} {r : Option Nat} (h : w.grownBy w1 r) (hB : B ≤ w.heap.size) (hr : ∀ k, r = some k → B ≤ k) : Below B w w1 := (Below.refl B w).grown h hB hr
theorem own_row {α : Type} {enc : α → Value} {B n c : Nat} {w : World} {A : Option Addr} {l : List α} (h : Own enc B w A n c l) : ∀ k, A.map (·.block) = some k → B ≤ k ∧ k < w.heap.size := by
  intro k hk
  rcases h.at_ with ⟨rfl, _⟩ | ⟨g, rfl, h1, h2, _⟩
  · cases hk
  · simp only [Option.map_some, Option.some.injEq] at hk
    omega
theorem rd_gb {α : Type} {enc : α → Value} {n : Nat} {w w1 : World} {r : Option Nat} {A : Option Addr} {l : List α} (h : Rd enc w A n l) (g : w.grownBy w1 r) (hne : ∀ ad, A = some ad → some ad.block ≠ r) : Rd enc w1 A n l :=
  ⟨h.len, h.big, fun j hj => by
    obtain ⟨ad, e, hc⟩ := h.cell j hj
    exact ⟨ad, e, g.cell hc (by rw [add_block]; exact hne ad e)⟩⟩
end Go.Proofs.Sl
