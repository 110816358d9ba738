/- slh: what the leaf signs. -/
import Derived.Test.YtipedpkkabfdjaaGreatDoorFits15
import Derived.Test.YtipedpkkabfdjaaGreatDoorFits16
namespace Go.Proofs.Sl
open Go.RowKit Go.Proofs

theorem digAll_lt (b : List UInt8) : ∀ x ∈ digAll b, x < 16 := by
  intro x hx
  unfold digAll at hx
  rcases List.mem_append.1 hx with h | h
  · exact nibs_lt _ x h
  · exact nibs_lt _ x (List.mem_of_mem_take h)
theorem digAll_getD_lt (b : List UInt8) (i : Nat) : (digAll b).getD i 0 < 16 := by
  rcases Nat.lt_or_ge i (digAll b).length with h | h
  · rw [List.getD_eq_getElem?_getD, List.getElem?_eq_getElem h, Option.getD_some]
    exact digAll_lt b _ (List.getElem_mem h)
  · rw [List.getD_eq_getElem?_getD, List.getElem?_eq_none h]
    simp

set_option maxHeartbeats 2000000 in
theorem sign1_any (f : Few) (A A1 Ad : Option Addr) (n c n1 c1 nd cd : Nat) (seed sec of : List UInt8) (layer tree q i Bs Bd Bt : Nat) (w : World) (hG : SG f A n seed layer tree w) (hq : q < 4294967296) (hi : i < (digAll of).length) (hi2 : i ≤ 1000) (hS : SBox f A n c layer tree q Bs w) (hD : w.cell? ⟨Bd, 0, none⟩ = some (.slice Ad nd cd)) (hd : Rd eN w Ad nd (digAll of))
    (hT : w.cell? ⟨Bt, 0, none⟩ = some (.slice A1 n1 c1)) (hx : Rd eB w A1 n1 sec) (hxl : sec.length = f.N) :
    Calls Tryz.prog 68 #[.int .i64 (i : Int), .pointer (some ⟨Bs, 0, none⟩), .pointer (some ⟨Bd, 0, none⟩), .pointer (some ⟨Bt, 0, none⟩)] w (RetRd eB w (upL f.N seed layer tree q i 0 (sSecret f.N seed sec layer tree q i) ((digAll of).getD i 0))) := by
  have HG := Lib.hid hG
  have HX := Lib.hid hx
  have HXL := Lib.hid hxl
  have HQ := Lib.hid hq
  have HS := Lib.hid hS
  have hN := hG.ok.N.le'
  have e1 : (i : Int) % 4294967296 = (i : Int) := by omega
  have hind : i < nd := by rw [← hd.len]; exact hi
  obtain ⟨ad, rfl, hcd⟩ := hd.at i hind
  have hdv : (digAll of)[i]'hi = (digAll of).getD i 0 := by rw [List.getD_eq_getElem?_getD, List.getElem?_eq_getElem hi, Option.getD_some]
  rw [hdv] at hcd
  have hlt := digAll_getD_lt of i
  generalize (digAll of).getD i 0 = d at *
  clear hG hx hxl hq hS hd hdv hi
  go_enter Tryz.func68, Tryz.ntmps68
  go_wp2
  have k0 : w.drew.cell? ⟨Bs, 0, none⟩ = some (.int .i64 (f.N : Int)) := HS.out.s0
  have k1 : w.drew.cell? ⟨Bs, 1, none⟩ = some (.int .i64 (f.L : Int)) := HS.out.s1
  have k2 : w.drew.cell? ⟨Bs, 2, none⟩ = some (.int .i64 (f.H : Int)) := HS.out.s2
  have k3 : w.drew.cell? ⟨Bs, 3, none⟩ = some (.int .i64 (f.K : Int)) := HS.out.s3
  have k4 : w.drew.cell? ⟨Bs, 4, none⟩ = some (.int .i64 (f.A : Int)) := HS.out.s4
  have k5 : w.drew.cell? ⟨Bs, 5, none⟩ = some (.slice A n c) := HS.out.s5
  have k6 : w.drew.cell? ⟨Bs, 6, none⟩ = some (.int .u32 (layer : Int)) := HS.out.s6
  have k7 : w.drew.cell? ⟨Bs, 7, none⟩ = some (.int .u64 (tree : Int)) := HS.out.s7
  have k8 : w.drew.cell? ⟨Bs, 8, none⟩ = some (.int .u32 (q : Int)) := HS.out.s8
  have k9 : w.drew.cell? ⟨Bt, 0, none⟩ = some (.slice A1 n1 c1) := hT
  have k10 : w.drew.cell? ⟨Bd, 0, none⟩ = some (.slice (some ad) nd cd) := hD
  have k11 : w.drew.cell? (ad.add i) = some (.int .i64 (d : Int)) := hcd
  clear hT hD hcd
  refine wp_region_rg Grow 18 12 8 [[], [], [], [], [], [], [], [], [], [], [], [10]]
    [.still [] (.agg #[.int .i64 (f.N : Int), .int .i64 (f.L : Int), .int .i64 (f.H : Int), .int .i64 (f.K : Int), .int .i64 (f.A : Int), .slice A n c, .int .u32 (layer : Int), .int .u64 (tree : Int), .int .u32 (q : Int)]), .still [] (.int .i64 (i : Int)), .still [] (.slice (some ad) nd cd), .still [] (.int .i64 (i : Int)), .still [] (.pointer (some (ad.add i))), .still [] (.int .i64 (d : Int)), .still [] (.agg #[.int .i64 (f.N : Int), .int .i64 (f.L : Int), .int .i64 (f.H : Int), .int .i64 (f.K : Int), .int .i64 (f.A : Int), .slice A n c, .int .u32 (layer : Int), .int .u64 (tree : Int), .int .u32 (q : Int)]), .still [] (.int .i64 (i : Int)), .still [] (.int .u32 (i : Int)), .still [] (.slice A1 n1 c1), .grow [] (OwnV eB 0 (sSecret f.N seed sec layer tree q i)), .grow [10] (RdV eB (upL f.N seed layer tree q i 0 (sSecret f.N seed sec layer tree q i) d))] (by kernel_rfl) (by kernel_rfl) rfl rfl rfl Grow.trans (Grow.refl _) ?_
  refine Obl.still (fun W hg _ => ?_) ?_
  · have c0 := cell_old hg k0; have c1 := cell_old hg k1; have c2 := cell_old hg k2; have c3 := cell_old hg k3; have c4 := cell_old hg k4; have c5 := cell_old hg k5; have c6 := cell_old hg k6; have c7 := cell_old hg k7; have c8 := cell_old hg k8; have c9 := cell_old hg k9; have c10 := cell_old hg k10; have c11 := cell_old hg k11; clear hg k0 k1 k2 k3 k4 k5 k6 k7 k8 k9 k10 k11
    go_wp2
    exact ⟨rfl, rfl, rfl, Grow.refl _⟩
  simp only [Act.put, List.setIfInBounds_toArray, List.set_cons_zero, List.set_cons_succ]
  refine Obl.still (fun W hg _ => ?_) ?_
  · have c0 := cell_old hg k0; have c1 := cell_old hg k1; have c2 := cell_old hg k2; have c3 := cell_old hg k3; have c4 := cell_old hg k4; have c5 := cell_old hg k5; have c6 := cell_old hg k6; have c7 := cell_old hg k7; have c8 := cell_old hg k8; have c9 := cell_old hg k9; have c10 := cell_old hg k10; have c11 := cell_old hg k11; clear hg k0 k1 k2 k3 k4 k5 k6 k7 k8 k9 k10 k11
    go_wp2
    exact ⟨rfl, rfl, rfl, Grow.refl _⟩
  simp only [Act.put, List.setIfInBounds_toArray, List.set_cons_zero, List.set_cons_succ]
  refine Obl.still (fun W hg _ => ?_) ?_
  · have c0 := cell_old hg k0; have c1 := cell_old hg k1; have c2 := cell_old hg k2; have c3 := cell_old hg k3; have c4 := cell_old hg k4; have c5 := cell_old hg k5; have c6 := cell_old hg k6; have c7 := cell_old hg k7; have c8 := cell_old hg k8; have c9 := cell_old hg k9; have c10 := cell_old hg k10; have c11 := cell_old hg k11; clear hg k0 k1 k2 k3 k4 k5 k6 k7 k8 k9 k10 k11
    go_wp2
    exact ⟨rfl, rfl, rfl, Grow.refl _⟩
  simp only [Act.put, List.setIfInBounds_toArray, List.set_cons_zero, List.set_cons_succ]
  refine Obl.still (fun W hg _ => ?_) ?_
  · have c0 := cell_old hg k0; have c1 := cell_old hg k1; have c2 := cell_old hg k2; have c3 := cell_old hg k3; have c4 := cell_old hg k4; have c5 := cell_old hg k5; have c6 := cell_old hg k6; have c7 := cell_old hg k7; have c8 := cell_old hg k8; have c9 := cell_old hg k9; have c10 := cell_old hg k10; have c11 := cell_old hg k11; clear hg k0 k1 k2 k3 k4 k5 k6 k7 k8 k9 k10 k11
    go_wp2
    exact ⟨rfl, rfl, rfl, Grow.refl _⟩
  simp only [Act.put, List.setIfInBounds_toArray, List.set_cons_zero, List.set_cons_succ]
  refine Obl.still (fun W hg _ => ?_) ?_
  · have c0 := cell_old hg k0; have c1 := cell_old hg k1; have c2 := cell_old hg k2; have c3 := cell_old hg k3; have c4 := cell_old hg k4; have c5 := cell_old hg k5; have c6 := cell_old hg k6; have c7 := cell_old hg k7; have c8 := cell_old hg k8; have c9 := cell_old hg k9; have c10 := cell_old hg k10; have c11 := cell_old hg k11; clear hg k0 k1 k2 k3 k4 k5 k6 k7 k8 k9 k10 k11
    go_wp2
    exact ⟨rfl, rfl, rfl, Grow.refl _⟩
  simp only [Act.put, List.setIfInBounds_toArray, List.set_cons_zero, List.set_cons_succ]
  refine Obl.still (fun W hg _ => ?_) ?_
  · have c0 := cell_old hg k0; have c1 := cell_old hg k1; have c2 := cell_old hg k2; have c3 := cell_old hg k3; have c4 := cell_old hg k4; have c5 := cell_old hg k5; have c6 := cell_old hg k6; have c7 := cell_old hg k7; have c8 := cell_old hg k8; have c9 := cell_old hg k9; have c10 := cell_old hg k10; have c11 := cell_old hg k11; clear hg k0 k1 k2 k3 k4 k5 k6 k7 k8 k9 k10 k11
    go_wp2
    exact ⟨rfl, rfl, rfl, Grow.refl _⟩
  simp only [Act.put, List.setIfInBounds_toArray, List.set_cons_zero, List.set_cons_succ]
  refine Obl.still (fun W hg _ => ?_) ?_
  · have c0 := cell_old hg k0; have c1 := cell_old hg k1; have c2 := cell_old hg k2; have c3 := cell_old hg k3; have c4 := cell_old hg k4; have c5 := cell_old hg k5; have c6 := cell_old hg k6; have c7 := cell_old hg k7; have c8 := cell_old hg k8; have c9 := cell_old hg k9; have c10 := cell_old hg k10; have c11 := cell_old hg k11; clear hg k0 k1 k2 k3 k4 k5 k6 k7 k8 k9 k10 k11
    go_wp2
    exact ⟨rfl, rfl, rfl, Grow.refl _⟩
  simp only [Act.put, List.setIfInBounds_toArray, List.set_cons_zero, List.set_cons_succ]
  refine Obl.still (fun W hg _ => ?_) ?_
  · have c0 := cell_old hg k0; have c1 := cell_old hg k1; have c2 := cell_old hg k2; have c3 := cell_old hg k3; have c4 := cell_old hg k4; have c5 := cell_old hg k5; have c6 := cell_old hg k6; have c7 := cell_old hg k7; have c8 := cell_old hg k8; have c9 := cell_old hg k9; have c10 := cell_old hg k10; have c11 := cell_old hg k11; clear hg k0 k1 k2 k3 k4 k5 k6 k7 k8 k9 k10 k11
    go_wp2
    exact ⟨rfl, rfl, rfl, Grow.refl _⟩
  simp only [Act.put, List.setIfInBounds_toArray, List.set_cons_zero, List.set_cons_succ]
  refine Obl.still (fun W hg _ => ?_) ?_
  · have c0 := cell_old hg k0; have c1 := cell_old hg k1; have c2 := cell_old hg k2; have c3 := cell_old hg k3; have c4 := cell_old hg k4; have c5 := cell_old hg k5; have c6 := cell_old hg k6; have c7 := cell_old hg k7; have c8 := cell_old hg k8; have c9 := cell_old hg k9; have c10 := cell_old hg k10; have c11 := cell_old hg k11; clear hg k0 k1 k2 k3 k4 k5 k6 k7 k8 k9 k10 k11
    go_wp2
    exact ⟨rfl, rfl, rfl, Grow.refl _⟩
  simp only [Act.put, List.setIfInBounds_toArray, List.set_cons_zero, List.set_cons_succ]
  refine Obl.still (fun W hg _ => ?_) ?_
  · have c0 := cell_old hg k0; have c1 := cell_old hg k1; have c2 := cell_old hg k2; have c3 := cell_old hg k3; have c4 := cell_old hg k4; have c5 := cell_old hg k5; have c6 := cell_old hg k6; have c7 := cell_old hg k7; have c8 := cell_old hg k8; have c9 := cell_old hg k9; have c10 := cell_old hg k10; have c11 := cell_old hg k11; clear hg k0 k1 k2 k3 k4 k5 k6 k7 k8 k9 k10 k11
    go_wp2
    exact ⟨rfl, rfl, rfl, Grow.refl _⟩
  simp only [Act.put, List.setIfInBounds_toArray, List.set_cons_zero, List.set_cons_succ]
  refine Obl.grow (OwnV.keep _ _ _) (fun W hg _ => ?_) (fun v10 => ?_)
  · have HC := Lib.hid (stweak_any f A A1 n c n1 c1 seed sec layer tree q 5 i 0 W (HG.out.below ((Below.refl _ _).drew.trans hg)) HQ.out (by omega) (by omega) (by omega) (HX.out.below ((Below.refl _ _).drew.trans hg)) (by rw [HXL.out]; omega))
    unfold vSpot at HC
    clear hg k0 k1 k2 k3 k4 k5 k6 k7 k8 k9 k10 k11
    go_wp2_with fail
    refine (HC.out).mono ?_
    rintro e w' ⟨A1, n1, c1, rfl, h1, h2⟩
    go_wp2
    exact ⟨rfl, rfl, ⟨_, _, _, rfl, h1.mono (Nat.zero_le _)⟩, h2⟩
  simp only [Act.put, List.setIfInBounds_toArray, List.set_cons_zero, List.set_cons_succ]
  refine Obl.grow (RdV.keep _ _) (fun W hg ⟨h6, _⟩ => ?_) (fun v11 => ?_)
  · obtain ⟨Ah6, nh6, ch6, rfl, h6⟩ := h6
    have HC := Lib.hid (up_any f A Ah6 n c nh6 ch6 seed (sSecret f.N seed sec layer tree q i) layer tree q i 0 d W (HG.out.below ((Below.refl _ _).drew.trans hg)) HQ.out (by omega) (by omega) (by omega) h6.rd (sSecret_length _ _ _ _ _ _ _ (by omega)))
    rw [Nat.sub_zero] at HC
    unfold vSpot at HC
    clear hg k0 k1 k2 k3 k4 k5 k6 k7 k8 k9 k10 k11
    go_wp2_with fail
    refine HC.out.mono ?_
    rintro e w' ⟨A1, n1, c1, rfl, h1, h2⟩
    go_wp2
    exact ⟨rfl, rfl, ⟨_, _, _, rfl, h1⟩, h2⟩
  simp only [Act.put, List.setIfInBounds_toArray, List.set_cons_zero, List.set_cons_succ]
  refine Obl.done (fun W hg hall => ?_)
  obtain ⟨h7, _⟩ := hall
  obtain ⟨A', n', c', rfl, h7⟩ := h7
  have hB : Grow w W := (Below.refl _ _).drew.trans hg
  clear hg k0 k1 k2 k3 k4 k5 k6 k7 k8 k9 k10 k11
  go_wp2
  go_ret
  exact ⟨_, _, _, rfl, h7, hB⟩

theorem cell_grown {w w' : World} {row : Option Nat} {a : Addr} {v : Value} (hg : w.grownBy w' row) (hne : row ≠ some a.block) (h : w.cell? a = some v) : w'.cell? a = some v :=
  (World.cell?_of_block (w := w) (a := a) (hg.block _ (World.block_lt_of_cell? w a h) (fun e => hne e.symm))).trans h
theorem Own.neBlock {B n c : Nat} {w : World} {A : Option Addr} {l : List UInt8} {b : Nat} {v : Value} (h : Own eB B w A n c l) (hn : 0 < n) (hv : w.cell? ⟨b, 0, none⟩ = some v) (hk : ∀ x : UInt8, v ≠ eB x) : A.map (·.block) ≠ some b := by
  intro e
  have hl := h.len
  have hnc := h.nc
  rcases h.at_ with ⟨rfl, hz⟩ | ⟨g, rfl, _, _, _, _, h6⟩
  · omega
  · simp at e
    subst e
    have := h6 0 (by omega)
    rw [hv] at this
    exact hk _ (Option.some.inj this)
theorem SClos.grown {f : Few} {A : Option Addr} {n c layer tree : Nat} {A1 : Option Addr} {n1 c1 Bs Bt Ba : Nat} {w w' : World} {row : Option Nat} (h : SClos f A n c layer tree A1 n1 c1 Bs Bt Ba w) (hg : w.grownBy w' row) (h1 : row ≠ some Bs) (h2 : row ≠ some Bt) (h3 : row ≠ some Ba) : SClos f A n c layer tree A1 n1 c1 Bs Bt Ba w' :=
  ⟨cell_grown hg h1 h.s0, cell_grown hg h1 h.s1, cell_grown hg h1 h.s2, cell_grown hg h1 h.s3, cell_grown hg h1 h.s4, cell_grown hg h1 h.s5, cell_grown hg h1 h.s6, cell_grown hg h1 h.s7, (by obtain ⟨v, hv⟩ := h.q; exact ⟨v, cell_grown hg h1 hv⟩),
    (World.frozen?_of_block (w := w) (a := ⟨Bs, 8, none⟩) (hg.block _ h.lt (fun e => h1 e.symm))).trans h.free, cell_grown hg h2 h.t, cell_grown hg h3 h.fn, h.bt, h.ba⟩
theorem sChains_length (N : Nat) (seed sec : List UInt8) (layer tree q : Nat) (of : List UInt8) (h : N ≤ 136) : (sChains N seed sec layer tree q of).length = chainsL N * N :=
  flat_len_r _ N _ fun _ _ => upL_length _ _ _ _ _ _ _ _ (sSecret_length _ _ _ _ _ _ _ h) h _

set_option maxHeartbeats 4000000 in
theorem ssign_any (f : Few) (A A1 Ao : Option Addr) (n c n1 c1 no co : Nat) (seed sec of : List UInt8) (layer tree q : Nat) (w : World) (hG : SG f A n seed layer tree w) (hH : f.H ≤ 6) (hq : q < 4294967296) (hqH : q < 2 ^ f.H) (hx : Rd eB w A1 n1 sec) (hxl : sec.length = f.N) (ho : Rd eB w Ao no of) (hol : of.length = f.N) :
    Calls Tryz.prog 32 #[vSpot f A n c layer tree q, .slice A1 n1 c1, .slice Ao no co] w (RetOwn eB w (sSign f.N f.H seed sec layer tree q of)) := by
  have HG := Lib.hid hG
  have HX := Lib.hid hx
  have HXL := Lib.hid hxl
  have HO := Lib.hid ho
  have HQ := Lib.hid (And.intro hq hqH)
  have hN := hG.ok.N.le'
  have hN1 := hG.ok.N.pos'
  have e1 : (f.H : Int) % 4294967296 = (f.H : Int) := by omega
  obtain rfl : no = f.N := by rw [← ho.len]; exact hol
  have HNN := Lib.hid hG.ok.N
  clear hG hx hxl hq ho hqH
  unfold vSpot
  go_enter Tryz.func32, Tryz.ntmps32
  go_wp2_with fail
  generalize hW0 : World.alloc (World.alloc w _) _ = W0
  have hb0 : Grow w W0 := by rw [← hW0]; exact ((Below.refl _ _).alloc (Nat.le_refl _) _).alloc (by simp) _
  have k0 : W0.cell? ⟨w.heap.size, 0, none⟩ = some (.int .i64 (f.N : Int)) := by subst hW0; go_simp
  have k1 : W0.cell? ⟨w.heap.size, 1, none⟩ = some (.int .i64 (f.L : Int)) := by subst hW0; go_simp
  have k2 : W0.cell? ⟨w.heap.size, 2, none⟩ = some (.int .i64 (f.H : Int)) := by subst hW0; go_simp
  have k3 : W0.cell? ⟨w.heap.size, 3, none⟩ = some (.int .i64 (f.K : Int)) := by subst hW0; go_simp
  have k4 : W0.cell? ⟨w.heap.size, 4, none⟩ = some (.int .i64 (f.A : Int)) := by subst hW0; go_simp
  have k5 : W0.cell? ⟨w.heap.size, 5, none⟩ = some (.slice A n c) := by subst hW0; go_simp
  have k6 : W0.cell? ⟨w.heap.size, 6, none⟩ = some (.int .u32 (layer : Int)) := by subst hW0; go_simp
  have k7 : W0.cell? ⟨w.heap.size, 7, none⟩ = some (.int .u64 (tree : Int)) := by subst hW0; go_simp
  have k8 : W0.cell? ⟨w.heap.size, 8, none⟩ = some (.int .u32 (q : Int)) := by subst hW0; go_simp
  have k9 : W0.cell? ⟨w.heap.size + 1, 0, none⟩ = some (.slice A1 n1 c1) := by subst hW0; go_simp
  have hz0 : w.heap.size + 1 < W0.heap.size := by rw [← hW0]; simp
  clear hW0
  refine (dall_any Ao f.N co of W0 (HO.out.below hb0) HNN.out).mono ?_
  rintro e w1 ⟨Ad, nd, cd, rfl, hd, g1⟩
  have hdl : nd = chainsL f.N := by rw [← hd.len, digAll_length]; unfold chainsL; omega
  have HDD := Lib.hid hd.rd
  have gg1 := hb0.trans _ _ _ g1
  have p0 := cell_old g1 k0
  have p1 := cell_old g1 k1
  have p2 := cell_old g1 k2
  have p3 := cell_old g1 k3
  have p4 := cell_old g1 k4
  have p5 := cell_old g1 k5
  have p6 := cell_old g1 k6
  have p7 := cell_old g1 k7
  have p8 := cell_old g1 k8
  have p9 := cell_old g1 k9
  have hz1 : w.heap.size + 1 < w1.heap.size := Nat.lt_of_lt_of_le hz0 g1.size
  have hs0 : w.heap.size < w1.heap.size := by omega
  have hs2 : (w1.heap.size == w.heap.size + 1) = false := by simp; omega
  have hs3 : (w1.heap.size == w.heap.size) = false := by simp; omega
  clear hd g1 hb0 k0 k1 k2 k3 k4 k5 k6 k7 k8 k9 hz0
  subst hdl
  go_wp2_with fail
  generalize hW2 : World.alloc w1 _ = w2
  have g2 : Grow w1 w2 := by rw [← hW2]; exact (Below.refl _ _).alloc (Nat.le_refl _) _
  have hcd : w2.cell? ⟨w1.heap.size, 0, none⟩ = some (.slice Ad (chainsL f.N) cd) := by subst hW2; go_simp
  have gg2 := gg1.trans _ _ _ g2
  have HBX : Hid (SBox f A n c layer tree q w.heap.size w2) := Lib.hid ⟨cell_old g2 p0, cell_old g2 p1, cell_old g2 p2, cell_old g2 p3, cell_old g2 p4, cell_old g2 p5, cell_old g2 p6, cell_old g2 p7, cell_old g2 p8⟩
  have hct := cell_old g2 p9
  have HD2 := Lib.hid (HDD.out.below g2)
  clear hW2 p0 p1 p2 p3 p4 p5 p6 p7 p8 p9 g2 gg1 HDD
  have HC := Lib.hid (all_sign f A n c layer tree q w.heap.size w1.heap.size (w.heap.size + 1) (fun i => upL f.N seed layer tree q i 0 (sSecret f.N seed sec layer tree q i) ((digAll of).getD i 0)) (fun i _ => upL_length _ _ _ _ _ _ _ _ (sSecret_length _ _ _ _ _ _ _ (by omega)) (by omega) _) w2 HG.out.ok
    (fun i W hi hW => sign1_any f A A1 Ad n c n1 c1 (chainsL f.N) cd seed sec of layer tree q i w.heap.size w1.heap.size (w.heap.size + 1) W (HG.out.below (gg2.trans _ _ _ hW)) HQ.out.1 (by rw [digAll_length, hol]; unfold chainsL at hi; omega) (by unfold chainsL at hi; omega) (HBX.out.below hW) (cell_old hW hcd) (HD2.out.below hW) (cell_old hW hct) (HX.out.below (gg2.trans _ _ _ hW)) HXL.out))
  unfold vSpot at HC
  refine HC.out.mono ?_
  rintro e w3 ⟨A3, n3, c3, rfl, h3, g3⟩
  have hn3 : n3 = chainsL f.N * f.N := by rw [← h3.len]; exact sChains_length _ _ _ _ _ _ _ (by omega)
  subst hn3
  have HO3 : Hid (Own eB w.heap.size w3 A3 (chainsL f.N * f.N) c3 (sChains f.N seed sec layer tree q of)) := Lib.hid (h3.mono gg2.size)
  have gg3 := gg2.trans _ _ _ g3
  have HB3 := HBX.out.below g3
  have p0 := HB3.s0
  have p1 := HB3.s1
  have p2 := HB3.s2
  have p3 := HB3.s3
  have p4 := HB3.s4
  have p5 := HB3.s5
  have p6 := HB3.s6
  have p7 := HB3.s7
  have p8 := HB3.s8
  have p9 := cell_old g3 hct
  clear HC h3 g3 HBX hct hcd HD2 gg2 HB3
  go_wp2_with fail
  have HC := Lib.hid (ssums_any f A A1 n c n1 c1 layer tree q w3)
  unfold vSpot at HC
  refine HC.out.mono ?_
  rintro e w4 ⟨Bs, Bt, Ba, rfl, hS, hBs, g4⟩
  have HS4 := Lib.hid hS
  have HO4 := Lib.hid (HO3.out.below g4)
  have gg4 := Lib.hid (gg3.trans _ _ _ g4)
  have q0 := cell_old g4 p0
  have q2 := cell_old g4 p2
  have q8 := cell_old g4 p8
  have hlt3 : w.heap.size < w3.heap.size := World.block_lt_of_cell? w3 _ p0
  clear HC hS g4 p0 p1 p2 p3 p4 p5 p6 p7 p8 p9 gg3 HO3
  have hcN : chainsL f.N * f.N ≤ 2144 := Nat.le_trans (Nat.mul_le_mul (show chainsL f.N ≤ 67 by unfold chainsL; omega) hN) (by omega)
  have hcN0 : 16 ≤ chainsL f.N * f.N := Nat.le_trans (show 16 ≤ 1 * 16 by omega) (Nat.mul_le_mul (show 1 ≤ chainsL f.N by unfold chainsL; omega) hN1)
  generalize hbs : chainsL f.N * f.N = bs at *
  go_wp2
  go_loopw [8, 23] (fun v g wr => ∃ (k : Nat) (Ak : Option Addr) (ck : Nat), k ≤ f.H ∧ g = .int .u32 (k : Int) ∧ v = .slice Ak (bs + k * f.N) ck ∧ Own eB w.heap.size wr Ak (bs + k * f.N) ck (sChains f.N seed sec layer tree q of ++ (List.range k).flatMap fun g => sNode f.N seed sec layer tree g (other (q / 2 ^ g)))
    ∧ SClos f A n c layer tree A1 n1 c1 Bs Bt Ba wr ∧ wr.cell? ⟨w.heap.size, 0, none⟩ = some (.int .i64 (f.N : Int)) ∧ wr.cell? ⟨w.heap.size, 8, none⟩ = some (.int .u32 (q : Int)) ∧ Grow w wr) (fun _ g _ => f.H - (intOf g).toNat)
  case atStart => exact ⟨0, A3, c3, Nat.zero_le _, rfl, by simp, by simpa using HO4.out, HS4.out, q0, q8, gg4.out⟩
  case round =>
    obtain ⟨k, Ak, ck, hk, rfl, rfl, ho, hS, d0, d8, hg⟩ := hrel
    clear q0 q2 q8 HS4 HO4 gg4
    have hkN : k * f.N ≤ 192 := Nat.le_trans (Nat.mul_le_mul (Nat.le_trans hk hH) hN) (by omega)
    by_cases hlt : k < f.H
    · have hol' := other_le (q / 2 ^ k)
      have hpj : 2 ^ k ≤ 64 := by calc 2 ^ k ≤ 2 ^ 6 := Nat.pow_le_pow_right (by omega) (by omega)
                                      _ = 64 := by decide
      have hpH : 2 ^ f.H ≤ 64 := by calc 2 ^ f.H ≤ 2 ^ 6 := Nat.pow_le_pow_right (by omega) hH
                                        _ = 64 := by decide
      have hq1 := HQ.out.2
      have hdiv : q / 2 ^ k * 2 ^ k ≤ q := Nat.div_mul_le_self _ _
      have hbound : (other (q / 2 ^ k) + 1) * 2 ^ k ≤ 1048576 := by
        calc (other (q / 2 ^ k) + 1) * 2 ^ k ≤ (q / 2 ^ k + 2) * 2 ^ k := Nat.mul_le_mul_right _ (by omega)
          _ = q / 2 ^ k * 2 ^ k + 2 * 2 ^ k := by rw [Nat.add_mul]
          _ ≤ 1048576 := by omega
      have hx0 : q / 2 ^ k < 4294967296 := Nat.lt_of_le_of_lt (Nat.div_le_self _ _) (by omega)
      have hx : bits .xor .u32 ((q : Int) / 2 ^ k) 1 = (other (q / 2 ^ k) : Int) := by
        rw [pow_cast]
        have := xor_u32 (q / 2 ^ k) 1 hx0 (by omega)
        rw [xor1] at this
        exact this
      have HC := Lib.hid (snode_any f A A1 n c n1 c1 Bs Bt Ba seed sec layer tree HXL.out k (other (q / 2 ^ k)) wr (HG.out.below hg) (HX.out.below hg) hS hbound)
      generalize hoo : other (q / 2 ^ k) = o at *
      have HOo := Lib.hid hoo
      have hx' : bits .xor .u32 ((q : Int) / 2 ^ k) 1 = (o : Int) := hx
      have HS := Lib.hid hS
      have HOw := Lib.hid ho
      have HGr := Lib.hid hg
      have hne1 : Ak.map (·.block) ≠ some Bs := ho.neBlock (by omega) hS.s0 (fun x => by simp)
      have HNE := Lib.hid hne1
      clear hS ho hg hx hol' hpj hpH hq1 hdiv hbound hx0 hoo hne1
      go_wp2_with fail
      refine HC.out.mono ?_
      rintro e w5 ⟨A5, n5, c5, rfl, h5, g5⟩
      obtain rfl : f.N = n5 := by rw [← h5.len, sNode_length _ _ _ _ _ _ _ (by omega)]
      have HO5 : Hid (Own eB w.heap.size w5 Ak (bs + k * f.N) ck _) := Lib.hid (HOw.out.same g5.size fun y hy => g5.block y (by
        rcases HOw.out.at_ with ⟨h0, _⟩ | ⟨z, h1, _, h2, _⟩
        · rw [h0] at hy; cases hy
        · rw [h1] at hy; cases hy; exact h2) (fun e => HNE.out (by rw [hy, e]; rfl)))
      have HN5 := Lib.hid h5.rd
      have HS5 := Lib.hid (HS.out.but g5)
      have d0' := g5.old d0 (by simp)
      have d8' := g5.old d8 (by intro e; injection e; omega)
      have HG5 : Hid (Grow w w5) := Lib.hid (Below.trans HGr.out (g5.below (by omega) HGr.out.size))
      have hsz := HG5.out.size
      clear HC h5 g5 d0 d8 hx'
      go_wp2_with (at_builtin; refine wpList_append_sl rfl _ _ 24 5 (.int .u8 0) 1 rfl Tryz.underlying24 infoB rfl (fun _ => rfl) rfl rfl HO5.out HN5.out (by omega) (by omega) hsz ?_; intro A' c' w' h3 h4 h6; have H3 := Lib.hid h3; have H4 := Lib.hid h4; have H8 := Lib.hid (Below.trans HG5.out h6); clear h3 h4 h6)
      have HS6 := Lib.hid (HS5.out.grown H4.out (HO5.out.neBlock (by omega) HS5.out.s0 (fun x => by simp)) (HO5.out.neBlock (by omega) HS5.out.t (fun x => by simp)) (HO5.out.neBlock (by omega) HS5.out.fn (fun x => by simp)))
      have hneW : Ak.map (·.block) ≠ some w.heap.size := HO5.out.neBlock (by omega) d0' (fun x => by simp)
      have D0 := Lib.hid (cell_grown H4.out hneW d0')
      have D8 := Lib.hid (cell_grown H4.out hneW d8')
      clear d0' d8' hneW
      go_roundw
      case rel => exact ⟨k + 1, A', c', by omega, by go_num, by rw [Nat.succ_mul, Nat.add_assoc], by rw [Nat.succ_mul, ← Nat.add_assoc, range_flat', HOo.out, ← List.append_assoc]; exact H3.out, HS6.out, D0.out, D8.out, H8.out⟩
      case measure => simp [intOf]; omega
    · obtain rfl : k = f.H := by omega
      have HOw := Lib.hid ho
      have HGr := Lib.hid hg
      clear ho hg hS d0 d8
      go_wp2
      go_ret
      exact ⟨_, _, _, rfl, HOw.out, HGr.out⟩
end Go.Proofs.Sl
