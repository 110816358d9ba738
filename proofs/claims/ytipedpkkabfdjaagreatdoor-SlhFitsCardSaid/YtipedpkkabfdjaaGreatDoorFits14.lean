/- slh: the leaf's sum; the sum above two. slh: what tells the i-th sum of a height: a closure that writes a variable of its own. fors: the whole. -/
import Derived.Test.YtipedpkkabfdjaaGreatDoorFits13
import Derived.Test.YtipedpkkabfdjaaGreatDoorFits11
/- slh: the leaf's sum; the sum above two. -/
namespace Go.Proofs.Sl
open Go.RowKit Go.Proofs

theorem sSecret_length (N : Nat) (seed sec : List UInt8) (layer tree q i : Nat) (h : N ≤ 136) : (sSecret N seed sec layer tree q i).length = N := tweakL_length _ _ _ _ h
theorem leafText_length (N : Nat) (seed sec : List UInt8) (layer tree q : Nat) (h : N ≤ 136) : ((List.range (chainsL N)).flatMap fun i => upL N seed layer tree q i 0 (sSecret N seed sec layer tree q i) 15).length = chainsL N * N :=
  flat_len_r _ N _ fun _ _ => upL_length _ _ _ _ _ _ _ _ (sSecret_length _ _ _ _ _ _ _ h) h 15
theorem leafL_length (N : Nat) (seed sec : List UInt8) (layer tree q : Nat) (h : N ≤ 136) : (leafL N seed sec layer tree q).length = N := tweakL_length _ _ _ _ h
theorem sNode_length (N : Nat) (seed sec : List UInt8) (layer tree g i : Nat) (h : N ≤ 136) : (sNode N seed sec layer tree g i).length = N := by
  cases g <;> exact tweakL_length _ _ _ _ h

/-- A place in a variable. -/
structure SBox (f : Few) (A : Option Addr) (n c layer tree q Bs : Nat) (w : World) : Prop where
  s0 : w.cell? ⟨Bs, 0, none⟩ = some (.int .i64 (f.N : Int))
  s1 : w.cell? ⟨Bs, 1, none⟩ = some (.int .i64 (f.L : Int))
  s2 : w.cell? ⟨Bs, 2, none⟩ = some (.int .i64 (f.H : Int))
  s3 : w.cell? ⟨Bs, 3, none⟩ = some (.int .i64 (f.K : Int))
  s4 : w.cell? ⟨Bs, 4, none⟩ = some (.int .i64 (f.A : Int))
  s5 : w.cell? ⟨Bs, 5, none⟩ = some (.slice A n c)
  s6 : w.cell? ⟨Bs, 6, none⟩ = some (.int .u32 (layer : Int))
  s7 : w.cell? ⟨Bs, 7, none⟩ = some (.int .u64 (tree : Int))
  s8 : w.cell? ⟨Bs, 8, none⟩ = some (.int .u32 (q : Int))
theorem SBox.below {f : Few} {A : Option Addr} {n c layer tree q Bs : Nat} {w w' : World} (h : SBox f A n c layer tree q Bs w) (hb : Below w.heap.size w w') : SBox f A n c layer tree q Bs w' :=
  ⟨cell_old hb h.s0, cell_old hb h.s1, cell_old hb h.s2, cell_old hb h.s3, cell_old hb h.s4, cell_old hb h.s5, cell_old hb h.s6, cell_old hb h.s7, cell_old hb h.s8⟩

set_option maxHeartbeats 2000000 in
theorem sum1_any (f : Few) (A A1 : Option Addr) (n c n1 c1 : Nat) (seed sec : List UInt8) (layer tree q i Bs Bt : Nat) (w : World) (hG : SG f A n seed layer tree w) (hq : q < 4294967296) (hi : i ≤ 1000) (hS : SBox f A n c layer tree q Bs w) (hT : w.cell? ⟨Bt, 0, none⟩ = some (.slice A1 n1 c1)) (hx : Rd eB w A1 n1 sec) (hxl : sec.length = f.N) :
    Calls Tryz.prog 105 #[.int .i64 (i : Int), .pointer (some ⟨Bs, 0, none⟩), .pointer (some ⟨Bt, 0, none⟩)] w (RetRd eB w (upL f.N seed layer tree q i 0 (sSecret f.N seed sec layer tree q i) 15)) := by
  have HG := Lib.hid hG
  have HX := Lib.hid hx
  have HXL := Lib.hid hxl
  have HQ := Lib.hid hq
  have HS := Lib.hid hS
  have hN := hG.ok.N.le'
  have e1 : (i : Int) % 4294967296 = (i : Int) := by omega
  clear hG hx hxl hq hS
  go_enter Tryz.func105, Tryz.ntmps105
  go_wp2
  have k0 : w.drew.cell? ⟨Bs, 0, none⟩ = some (.int .i64 (f.N : Int)) := HS.out.s0
  have k1 : w.drew.cell? ⟨Bs, 1, none⟩ = some (.int .i64 (f.L : Int)) := HS.out.s1
  have k2 : w.drew.cell? ⟨Bs, 2, none⟩ = some (.int .i64 (f.H : Int)) := HS.out.s2
  have k3 : w.drew.cell? ⟨Bs, 3, none⟩ = some (.int .i64 (f.K : Int)) := HS.out.s3
  have k4 : w.drew.cell? ⟨Bs, 4, none⟩ = some (.int .i64 (f.A : Int)) := HS.out.s4
  have k5 : w.drew.cell? ⟨Bs, 5, none⟩ = some (.slice A n c) := HS.out.s5
  have k6 : w.drew.cell? ⟨Bs, 6, none⟩ = some (.int .u32 (layer : Int)) := HS.out.s6
  have k7 : w.drew.cell? ⟨Bs, 7, none⟩ = some (.int .u64 (tree : Int)) := HS.out.s7
  have k8 : w.drew.cell? ⟨Bs, 8, none⟩ = some (.int .u32 (q : Int)) := HS.out.s8
  have k9 : w.drew.cell? ⟨Bt, 0, none⟩ = some (.slice A1 n1 c1) := hT
  clear hT
  refine wp_region_rg Grow 13 8 8 [[], [], [], [], [], [], [], [6]]
    [.still [] (.agg #[.int .i64 (f.N : Int), .int .i64 (f.L : Int), .int .i64 (f.H : Int), .int .i64 (f.K : Int), .int .i64 (f.A : Int), .slice A n c, .int .u32 (layer : Int), .int .u64 (tree : Int), .int .u32 (q : Int)]), .still [] (.int .i64 (i : Int)), .still [] (.agg #[.int .i64 (f.N : Int), .int .i64 (f.L : Int), .int .i64 (f.H : Int), .int .i64 (f.K : Int), .int .i64 (f.A : Int), .slice A n c, .int .u32 (layer : Int), .int .u64 (tree : Int), .int .u32 (q : Int)]), .still [] (.int .i64 (i : Int)), .still [] (.int .u32 (i : Int)), .still [] (.slice A1 n1 c1), .grow [] (OwnV eB 0 (sSecret f.N seed sec layer tree q i)), .grow [6] (RdV eB (upL f.N seed layer tree q i 0 (sSecret f.N seed sec layer tree q i) 15))] (by kernel_rfl) (by kernel_rfl) rfl rfl rfl Grow.trans (Grow.refl _) ?_
  refine Obl.still (fun W hg _ => ?_) ?_
  · have c0 := cell_old hg k0; have c1 := cell_old hg k1; have c2 := cell_old hg k2; have c3 := cell_old hg k3; have c4 := cell_old hg k4; have c5 := cell_old hg k5; have c6 := cell_old hg k6; have c7 := cell_old hg k7; have c8 := cell_old hg k8; have c9 := cell_old hg k9; clear hg k0 k1 k2 k3 k4 k5 k6 k7 k8 k9
    go_wp2
    exact ⟨rfl, rfl, rfl, Grow.refl _⟩
  simp only [Act.put, List.setIfInBounds_toArray, List.set_cons_zero, List.set_cons_succ]
  refine Obl.still (fun W hg _ => ?_) ?_
  · have c0 := cell_old hg k0; have c1 := cell_old hg k1; have c2 := cell_old hg k2; have c3 := cell_old hg k3; have c4 := cell_old hg k4; have c5 := cell_old hg k5; have c6 := cell_old hg k6; have c7 := cell_old hg k7; have c8 := cell_old hg k8; have c9 := cell_old hg k9; clear hg k0 k1 k2 k3 k4 k5 k6 k7 k8 k9
    go_wp2
    exact ⟨rfl, rfl, rfl, Grow.refl _⟩
  simp only [Act.put, List.setIfInBounds_toArray, List.set_cons_zero, List.set_cons_succ]
  refine Obl.still (fun W hg _ => ?_) ?_
  · have c0 := cell_old hg k0; have c1 := cell_old hg k1; have c2 := cell_old hg k2; have c3 := cell_old hg k3; have c4 := cell_old hg k4; have c5 := cell_old hg k5; have c6 := cell_old hg k6; have c7 := cell_old hg k7; have c8 := cell_old hg k8; have c9 := cell_old hg k9; clear hg k0 k1 k2 k3 k4 k5 k6 k7 k8 k9
    go_wp2
    exact ⟨rfl, rfl, rfl, Grow.refl _⟩
  simp only [Act.put, List.setIfInBounds_toArray, List.set_cons_zero, List.set_cons_succ]
  refine Obl.still (fun W hg _ => ?_) ?_
  · have c0 := cell_old hg k0; have c1 := cell_old hg k1; have c2 := cell_old hg k2; have c3 := cell_old hg k3; have c4 := cell_old hg k4; have c5 := cell_old hg k5; have c6 := cell_old hg k6; have c7 := cell_old hg k7; have c8 := cell_old hg k8; have c9 := cell_old hg k9; clear hg k0 k1 k2 k3 k4 k5 k6 k7 k8 k9
    go_wp2
    exact ⟨rfl, rfl, rfl, Grow.refl _⟩
  simp only [Act.put, List.setIfInBounds_toArray, List.set_cons_zero, List.set_cons_succ]
  refine Obl.still (fun W hg _ => ?_) ?_
  · have c0 := cell_old hg k0; have c1 := cell_old hg k1; have c2 := cell_old hg k2; have c3 := cell_old hg k3; have c4 := cell_old hg k4; have c5 := cell_old hg k5; have c6 := cell_old hg k6; have c7 := cell_old hg k7; have c8 := cell_old hg k8; have c9 := cell_old hg k9; clear hg k0 k1 k2 k3 k4 k5 k6 k7 k8 k9
    go_wp2
    exact ⟨rfl, rfl, rfl, Grow.refl _⟩
  simp only [Act.put, List.setIfInBounds_toArray, List.set_cons_zero, List.set_cons_succ]
  refine Obl.still (fun W hg _ => ?_) ?_
  · have c0 := cell_old hg k0; have c1 := cell_old hg k1; have c2 := cell_old hg k2; have c3 := cell_old hg k3; have c4 := cell_old hg k4; have c5 := cell_old hg k5; have c6 := cell_old hg k6; have c7 := cell_old hg k7; have c8 := cell_old hg k8; have c9 := cell_old hg k9; clear hg k0 k1 k2 k3 k4 k5 k6 k7 k8 k9
    go_wp2
    exact ⟨rfl, rfl, rfl, Grow.refl _⟩
  simp only [Act.put, List.setIfInBounds_toArray, List.set_cons_zero, List.set_cons_succ]
  refine Obl.grow (OwnV.keep _ _ _) (fun W hg _ => ?_) (fun v6 => ?_)
  · have HC := Lib.hid (stweak_any f A A1 n c n1 c1 seed sec layer tree q 5 i 0 W (HG.out.below ((Below.refl _ _).drew.trans hg)) HQ.out (by omega) (by omega) (by omega) (HX.out.below ((Below.refl _ _).drew.trans hg)) (by rw [HXL.out]; omega))
    unfold vSpot at HC
    clear hg k0 k1 k2 k3 k4 k5 k6 k7 k8 k9
    go_wp2_with fail
    refine (HC.out).mono ?_
    rintro e w' ⟨A1, n1, c1, rfl, h1, h2⟩
    go_wp2
    exact ⟨rfl, rfl, ⟨_, _, _, rfl, h1.mono (Nat.zero_le _)⟩, h2⟩
  simp only [Act.put, List.setIfInBounds_toArray, List.set_cons_zero, List.set_cons_succ]
  refine Obl.grow (RdV.keep _ _) (fun W hg ⟨h6, _⟩ => ?_) (fun v7 => ?_)
  · obtain ⟨Ah6, nh6, ch6, rfl, h6⟩ := h6
    have HC := Lib.hid (up_any f A Ah6 n c nh6 ch6 seed (sSecret f.N seed sec layer tree q i) layer tree q i 0 15 W (HG.out.below ((Below.refl _ _).drew.trans hg)) HQ.out (by omega) (by omega) (by omega) h6.rd (tweakL_length _ _ _ _ (by omega)))
    unfold vSpot at HC
    clear hg k0 k1 k2 k3 k4 k5 k6 k7 k8 k9
    go_wp2_with fail
    refine HC.out.mono ?_
    rintro e w' ⟨A1, n1, c1, rfl, h1, h2⟩
    go_wp2
    exact ⟨rfl, rfl, ⟨_, _, _, rfl, h1⟩, h2⟩
  simp only [Act.put, List.setIfInBounds_toArray, List.set_cons_zero, List.set_cons_succ]
  refine Obl.done (fun W hg hall => ?_)
  obtain ⟨h7, _⟩ := hall
  obtain ⟨A', n', c', rfl, h7⟩ := h7
  have hB : Grow w W := (Below.refl _ _).drew.trans hg
  clear hg k0 k1 k2 k3 k4 k5 k6 k7 k8 k9
  go_wp2
  go_ret
  exact ⟨_, _, _, rfl, h7, hB⟩

set_option maxHeartbeats 4000000 in
theorem sum_any (f : Few) (A A1 : Option Addr) (n c n1 c1 : Nat) (seed sec : List UInt8) (layer tree q : Nat) (w : World) (hG : SG f A n seed layer tree w) (hq : q < 4294967296) (hx : Rd eB w A1 n1 sec) (hxl : sec.length = f.N) :
    Calls Tryz.prog 80 #[vSpot f A n c layer tree q, .slice A1 n1 c1] w (RetOwn eB w (leafL f.N seed sec layer tree q)) := by
  have HG := Lib.hid hG
  have HX := Lib.hid hx
  have HXL := Lib.hid hxl
  have HQ := Lib.hid hq
  have hN := hG.ok.N.le'
  have hch : chainsL f.N ≤ 67 := by unfold chainsL; omega
  clear hG hx hxl hq
  unfold vSpot
  go_enter Tryz.func80, Tryz.ntmps80
  go_wp2
  generalize hW0 : World.alloc (World.alloc w _) _ = W0
  have hb0 : Below w.heap.size w W0.drew := by rw [← hW0]; exact (((Below.refl _ _).alloc (Nat.le_refl _) _).alloc (by simp) _).drew
  have k0 : W0.drew.cell? ⟨w.heap.size, 0, none⟩ = some (.int .i64 (f.N : Int)) := by subst hW0; go_simp
  have k1 : W0.drew.cell? ⟨w.heap.size, 1, none⟩ = some (.int .i64 (f.L : Int)) := by subst hW0; go_simp
  have k2 : W0.drew.cell? ⟨w.heap.size, 2, none⟩ = some (.int .i64 (f.H : Int)) := by subst hW0; go_simp
  have k3 : W0.drew.cell? ⟨w.heap.size, 3, none⟩ = some (.int .i64 (f.K : Int)) := by subst hW0; go_simp
  have k4 : W0.drew.cell? ⟨w.heap.size, 4, none⟩ = some (.int .i64 (f.A : Int)) := by subst hW0; go_simp
  have k5 : W0.drew.cell? ⟨w.heap.size, 5, none⟩ = some (.slice A n c) := by subst hW0; go_simp
  have k6 : W0.drew.cell? ⟨w.heap.size, 6, none⟩ = some (.int .u32 (layer : Int)) := by subst hW0; go_simp
  have k7 : W0.drew.cell? ⟨w.heap.size, 7, none⟩ = some (.int .u64 (tree : Int)) := by subst hW0; go_simp
  have k8 : W0.drew.cell? ⟨w.heap.size, 8, none⟩ = some (.int .u32 (q : Int)) := by subst hW0; go_simp
  have k9 : W0.drew.cell? ⟨w.heap.size + 1, 0, none⟩ = some (.slice A1 n1 c1) := by subst hW0; go_simp
  clear hW0
  have HS : Hid (SBox f A n c layer tree q w.heap.size W0.drew) := Lib.hid ⟨k0, k1, k2, k3, k4, k5, k6, k7, k8⟩
  have HT := Lib.hid k9
  refine wp_region_rg Grow 10 5 8 [[], [], [], [], [3]]
    [.still [] (.agg #[.int .i64 (f.N : Int), .int .i64 (f.L : Int), .int .i64 (f.H : Int), .int .i64 (f.K : Int), .int .i64 (f.A : Int), .slice A n c, .int .u32 (layer : Int), .int .u64 (tree : Int), .int .u32 (q : Int)]), .still [] (.agg #[.int .i64 (f.N : Int), .int .i64 (f.L : Int), .int .i64 (f.H : Int), .int .i64 (f.K : Int), .int .i64 (f.A : Int), .slice A n c, .int .u32 (layer : Int), .int .u64 (tree : Int), .int .u32 (q : Int)]), .still [] (.func (.func 105) #[] #[.pointer (some ⟨w.heap.size, 0, none⟩), .pointer (some ⟨w.heap.size + 1, 0, none⟩)]), .grow [] (OwnV eB 0 ((List.range (chainsL f.N)).flatMap fun i => upL f.N seed layer tree q i 0 (sSecret f.N seed sec layer tree q i) 15)), .grow [3] (OwnV eB w.heap.size (leafL f.N seed sec layer tree q))] (by kernel_rfl) (by kernel_rfl) rfl rfl rfl Grow.trans (Grow.refl _) ?_
  refine Obl.still (fun W hg _ => ?_) ?_
  · have c0 := cell_old hg k0; have c1 := cell_old hg k1; have c2 := cell_old hg k2; have c3 := cell_old hg k3; have c4 := cell_old hg k4; have c5 := cell_old hg k5; have c6 := cell_old hg k6; have c7 := cell_old hg k7; have c8 := cell_old hg k8; have c9 := cell_old hg k9; clear hg k0 k1 k2 k3 k4 k5 k6 k7 k8 k9
    go_wp2
    exact ⟨rfl, rfl, rfl, Grow.refl _⟩
  simp only [Act.put, List.setIfInBounds_toArray, List.set_cons_zero, List.set_cons_succ]
  refine Obl.still (fun W hg _ => ?_) ?_
  · have c0 := cell_old hg k0; have c1 := cell_old hg k1; have c2 := cell_old hg k2; have c3 := cell_old hg k3; have c4 := cell_old hg k4; have c5 := cell_old hg k5; have c6 := cell_old hg k6; have c7 := cell_old hg k7; have c8 := cell_old hg k8; have c9 := cell_old hg k9; clear hg k0 k1 k2 k3 k4 k5 k6 k7 k8 k9
    go_wp2
    exact ⟨rfl, rfl, rfl, Grow.refl _⟩
  simp only [Act.put, List.setIfInBounds_toArray, List.set_cons_zero, List.set_cons_succ]
  refine Obl.still (fun W hg _ => ?_) ?_
  · have c0 := cell_old hg k0; have c1 := cell_old hg k1; have c2 := cell_old hg k2; have c3 := cell_old hg k3; have c4 := cell_old hg k4; have c5 := cell_old hg k5; have c6 := cell_old hg k6; have c7 := cell_old hg k7; have c8 := cell_old hg k8; have c9 := cell_old hg k9; clear hg k0 k1 k2 k3 k4 k5 k6 k7 k8 k9
    go_wp2
    exact ⟨rfl, rfl, rfl, Grow.refl _⟩
  simp only [Act.put, List.setIfInBounds_toArray, List.set_cons_zero, List.set_cons_succ]
  refine Obl.grow (OwnV.keep _ _ _) (fun W hg _ => ?_) (fun v3 => ?_)
  · have HC := Lib.hid (all_sum f A n c layer tree q w.heap.size (w.heap.size + 1) (fun i => upL f.N seed layer tree q i 0 (sSecret f.N seed sec layer tree q i) 15) (fun i _ => upL_length _ _ _ _ _ _ _ _ (tweakL_length _ _ _ _ (by omega)) (by omega) 15) W HG.out.ok (fun i W' hi hW' => sum1_any f A A1 n c n1 c1 seed sec layer tree q i w.heap.size (w.heap.size + 1) W' (HG.out.below (hb0.trans ((Grow.trans _ _ _ hg hW').mono hb0.size))) HQ.out (by unfold chainsL at hi; omega) (HS.out.below (Grow.trans _ _ _ hg hW')) (cell_old (Grow.trans _ _ _ hg hW') HT.out) (HX.out.below (hb0.trans ((Grow.trans _ _ _ hg hW').mono hb0.size))) HXL.out))
    unfold vSpot at HC
    clear hg k0 k1 k2 k3 k4 k5 k6 k7 k8 k9
    go_wp2_with fail
    refine (HC.out).mono ?_
    rintro e w' ⟨A1, n1, c1, rfl, h1, h2⟩
    go_wp2
    exact ⟨rfl, rfl, ⟨_, _, _, rfl, h1.mono (Nat.zero_le _)⟩, h2⟩
  simp only [Act.put, List.setIfInBounds_toArray, List.set_cons_zero, List.set_cons_succ]
  refine Obl.grow (OwnV.keep _ _ _) (fun W hg ⟨h3, _⟩ => ?_) (fun v4 => ?_)
  · obtain ⟨Ah3, nh3, ch3, rfl, h3⟩ := h3
    have HC := Lib.hid (stweak_any f A Ah3 n c nh3 ch3 seed _ layer tree q 1 0 0 W (HG.out.below (hb0.trans (hg.mono hb0.size))) HQ.out (by omega) (by omega) (by omega) h3.rd (by rw [leafText_length _ _ _ _ _ _ (by omega)]; exact Nat.le_trans (Nat.mul_le_mul hch hN) (by omega)))
    unfold vSpot at HC
    have hsz : w.heap.size ≤ W.heap.size := Nat.le_trans hb0.size hg.size
    clear hg k0 k1 k2 k3 k4 k5 k6 k7 k8 k9
    go_wp2_with fail
    refine (HC.out).mono ?_
    rintro e w' ⟨A1, n1, c1, rfl, h1, h2⟩
    go_wp2
    exact ⟨rfl, rfl, ⟨_, _, _, rfl, h1.mono hsz⟩, h2⟩
  simp only [Act.put, List.setIfInBounds_toArray, List.set_cons_zero, List.set_cons_succ]
  refine Obl.done (fun W hg hall => ?_)
  obtain ⟨h4, _⟩ := hall
  obtain ⟨A', n', c', rfl, h4⟩ := h4
  have hB := hb0.trans (hg.mono hb0.size)
  clear hg k0 k1 k2 k3 k4 k5 k6 k7 k8 k9 hb0
  go_wp2
  go_ret
  exact ⟨_, _, _, rfl, h4, hB⟩

set_option maxHeartbeats 4000000 in
theorem node_any (f : Few) (A Al Ar : Option Addr) (n c nl cl nr cr : Nat) (seed l r : List UInt8) (layer tree q g i : Nat) (w : World) (hG : SG f A n seed layer tree w) (hg : g < 4294967296) (hi : i < 4294967296) (hl : Rd eB w Al nl l) (hr : Rd eB w Ar nr r) (hll : l.length = f.N) (hrl : r.length = f.N) :
    Calls Tryz.prog 81 #[vSpot f A n c layer tree q, .int .u32 (g : Int), .int .u32 (i : Int), .slice Al nl cl, .slice Ar nr cr] w (RetOwn eB w (tweakL f.N seed ⟨layer, tree, 2, 0, g, i⟩ (l ++ r))) := by
  have HG := Lib.hid hG
  have HL := Lib.hid hl
  have HR := Lib.hid hr
  have HLN : Hid ((l ++ r).length = f.N + f.N) := Lib.hid (by rw [List.length_append, hll, hrl])
  have HQ := Lib.hid (And.intro hg hi)
  have hN := hG.ok.N.le'
  have hN1 := hG.ok.N.pos'
  clear hG hl hr hll hrl hg hi
  unfold vSpot
  go_enter Tryz.func81, Tryz.ntmps81
  go_wp2
  generalize hW0 : World.alloc w _ = W0
  have hb0 : Below w.heap.size w W0.drew := by rw [← hW0]; exact ((Below.refl _ _).alloc (Nat.le_refl _) _).drew
  have k0 : W0.drew.cell? ⟨w.heap.size, 0, none⟩ = some (.int .i64 (f.N : Int)) := by subst hW0; go_simp
  have k1 : W0.drew.cell? ⟨w.heap.size, 1, none⟩ = some (.int .i64 (f.L : Int)) := by subst hW0; go_simp
  have k2 : W0.drew.cell? ⟨w.heap.size, 2, none⟩ = some (.int .i64 (f.H : Int)) := by subst hW0; go_simp
  have k3 : W0.drew.cell? ⟨w.heap.size, 3, none⟩ = some (.int .i64 (f.K : Int)) := by subst hW0; go_simp
  have k4 : W0.drew.cell? ⟨w.heap.size, 4, none⟩ = some (.int .i64 (f.A : Int)) := by subst hW0; go_simp
  have k5 : W0.drew.cell? ⟨w.heap.size, 5, none⟩ = some (.slice A n c) := by subst hW0; go_simp
  have k6 : W0.drew.cell? ⟨w.heap.size, 6, none⟩ = some (.int .u32 (layer : Int)) := by subst hW0; go_simp
  have k7 : W0.drew.cell? ⟨w.heap.size, 7, none⟩ = some (.int .u64 (tree : Int)) := by subst hW0; go_simp
  have k8 : W0.drew.cell? ⟨w.heap.size, 8, none⟩ = some (.int .u32 0) := by subst hW0; go_simp
  clear hW0
  refine wp_region_rg Grow 20 8 8 [[], [], [], [], [], [], [5], [6]]
    [.still [] (.agg #[.int .i64 (f.N : Int), .int .i64 (f.L : Int), .int .i64 (f.H : Int), .int .i64 (f.K : Int), .int .i64 (f.A : Int), .slice A n c, .int .u32 (layer : Int), .int .u64 (tree : Int), .int .u32 0]), .still [] (.int .u32 (g : Int)), .still [] (.int .u32 (i : Int)), .still [] (.slice Al nl cl), .still [] (.slice Ar nr cr), .grow [] (PartsV [l, r]), .grow [5] (OwnV eB 0 (l ++ r)), .grow [6] (OwnV eB w.heap.size (tweakL f.N seed ⟨layer, tree, 2, 0, g, i⟩ (l ++ r)))] (by kernel_rfl) (by kernel_rfl) rfl rfl rfl Grow.trans (Grow.refl _) ?_
  refine Obl.still (fun W hg _ => ?_) ?_
  · have c0 := cell_old hg k0; have c1 := cell_old hg k1; have c2 := cell_old hg k2; have c3 := cell_old hg k3; have c4 := cell_old hg k4; have c5 := cell_old hg k5; have c6 := cell_old hg k6; have c7 := cell_old hg k7; have c8 := cell_old hg k8; clear hg k0 k1 k2 k3 k4 k5 k6 k7 k8
    go_wp2
    exact ⟨rfl, rfl, rfl, Grow.refl _⟩
  simp only [Act.put, List.setIfInBounds_toArray, List.set_cons_zero, List.set_cons_succ]
  refine Obl.still (fun W hg _ => ?_) ?_
  · have c0 := cell_old hg k0; have c1 := cell_old hg k1; have c2 := cell_old hg k2; have c3 := cell_old hg k3; have c4 := cell_old hg k4; have c5 := cell_old hg k5; have c6 := cell_old hg k6; have c7 := cell_old hg k7; have c8 := cell_old hg k8; clear hg k0 k1 k2 k3 k4 k5 k6 k7 k8
    go_wp2
    exact ⟨rfl, rfl, rfl, Grow.refl _⟩
  simp only [Act.put, List.setIfInBounds_toArray, List.set_cons_zero, List.set_cons_succ]
  refine Obl.still (fun W hg _ => ?_) ?_
  · have c0 := cell_old hg k0; have c1 := cell_old hg k1; have c2 := cell_old hg k2; have c3 := cell_old hg k3; have c4 := cell_old hg k4; have c5 := cell_old hg k5; have c6 := cell_old hg k6; have c7 := cell_old hg k7; have c8 := cell_old hg k8; clear hg k0 k1 k2 k3 k4 k5 k6 k7 k8
    go_wp2
    exact ⟨rfl, rfl, rfl, Grow.refl _⟩
  simp only [Act.put, List.setIfInBounds_toArray, List.set_cons_zero, List.set_cons_succ]
  refine Obl.still (fun W hg _ => ?_) ?_
  · have c0 := cell_old hg k0; have c1 := cell_old hg k1; have c2 := cell_old hg k2; have c3 := cell_old hg k3; have c4 := cell_old hg k4; have c5 := cell_old hg k5; have c6 := cell_old hg k6; have c7 := cell_old hg k7; have c8 := cell_old hg k8; clear hg k0 k1 k2 k3 k4 k5 k6 k7 k8
    go_wp2
    exact ⟨rfl, rfl, rfl, Grow.refl _⟩
  simp only [Act.put, List.setIfInBounds_toArray, List.set_cons_zero, List.set_cons_succ]
  refine Obl.still (fun W hg _ => ?_) ?_
  · have c0 := cell_old hg k0; have c1 := cell_old hg k1; have c2 := cell_old hg k2; have c3 := cell_old hg k3; have c4 := cell_old hg k4; have c5 := cell_old hg k5; have c6 := cell_old hg k6; have c7 := cell_old hg k7; have c8 := cell_old hg k8; clear hg k0 k1 k2 k3 k4 k5 k6 k7 k8
    go_wp2
    exact ⟨rfl, rfl, rfl, Grow.refl _⟩
  simp only [Act.put, List.setIfInBounds_toArray, List.set_cons_zero, List.set_cons_succ]
  refine Obl.grow (PartsV.keep _) (fun W hg _ => ?_) (fun v5 => ?_)
  · have hl := HL.out.below (hb0.trans (hg.mono hb0.size))
    have hr := HR.out.below (hb0.trans (hg.mono hb0.size))
    clear hg k0 k1 k2 k3 k4 k5 k6 k7 k8
    go_wp2
    exact ⟨rfl, rfl, ⟨_, _, rfl, parts2 (cell_new ..) (cell_new ..) (hl.alloc _) (hr.alloc _)⟩, (Below.refl _ _).alloc (Nat.le_refl _) _⟩
  simp only [Act.put, List.setIfInBounds_toArray, List.set_cons_zero, List.set_cons_succ]
  refine Obl.grow (OwnV.keep _ _ _) (fun W hg ⟨h5, _⟩ => ?_) (fun v6 => ?_)
  · obtain ⟨bh5, nh5, rfl, h5⟩ := h5
    have hnn : nh5 = 2 := by rw [← h5.len]; rfl
    subst hnn
    have hfl : [l, r].flatten = l ++ r := by simp
    have HC := Lib.hid (cat_any bh5 0 2 2 [l, r] W h5 (by omega) (Nat.le_refl _) (by rw [hfl, HLN.out]; omega) (by rw [hfl, HLN.out]; omega))
    rw [hfl] at HC
    clear hfl
    clear hg k0 k1 k2 k3 k4 k5 k6 k7 k8
    go_wp2_with fail
    refine (HC.out).mono ?_
    rintro e w' ⟨A1, n1, c1, rfl, h1, h2⟩
    go_wp2
    exact ⟨rfl, rfl, ⟨_, _, _, rfl, h1.mono (Nat.zero_le _)⟩, h2⟩
  simp only [Act.put, List.setIfInBounds_toArray, List.set_cons_zero, List.set_cons_succ]
  refine Obl.grow (OwnV.keep _ _ _) (fun W hg ⟨h6, _⟩ => ?_) (fun v7 => ?_)
  · obtain ⟨Ah6, nh6, ch6, rfl, h6⟩ := h6
    have HC := Lib.hid (stweak_any f A Ah6 n c nh6 ch6 seed (l ++ r) layer tree 0 2 g i W (HG.out.below (hb0.trans (hg.mono hb0.size))) (by omega) (by omega) HQ.out.1 HQ.out.2 h6.rd (by rw [HLN.out]; omega))
    unfold vSpot at HC
    have hsz : w.heap.size ≤ W.heap.size := Nat.le_trans hb0.size hg.size
    clear hg k0 k1 k2 k3 k4 k5 k6 k7 k8
    go_wp2_with fail
    refine (HC.out).mono ?_
    rintro e w' ⟨A1, n1, c1, rfl, h1, h2⟩
    go_wp2
    exact ⟨rfl, rfl, ⟨_, _, _, rfl, h1.mono hsz⟩, h2⟩
  simp only [Act.put, List.setIfInBounds_toArray, List.set_cons_zero, List.set_cons_succ]
  refine Obl.done (fun W hg hall => ?_)
  obtain ⟨h7, _⟩ := hall
  obtain ⟨A', n', c', rfl, h7⟩ := h7
  have hB := hb0.trans (hg.mono hb0.size)
  clear hg k0 k1 k2 k3 k4 k5 k6 k7 k8 hb0
  go_wp2
  go_ret
  exact ⟨_, _, _, rfl, h7, hB⟩
end Go.Proofs.Sl

/- slh: what tells the i-th sum of a height: a closure that writes a variable of its own. -/
namespace Go.Proofs.Sl
open Go.RowKit Go.Proofs

/-- What was there is as it was, but for one number in block B. -/
structure GrowBut (B : Nat) (w w' : World) : Prop where
  os : w'.os = w.os
  tape : w'.tape = w.tape
  output : w'.output = w.output
  size : w.heap.size ≤ w'.heap.size
  block : ∀ k, k < w.heap.size → k ≠ B → w'.heap[k]? = w.heap[k]?
  cell : ∀ o, o ≠ 8 → w'.cell? ⟨B, o, none⟩ = w.cell? ⟨B, o, none⟩
  frozen : ∀ o, w'.frozen? ⟨B, o, none⟩ = w.frozen? ⟨B, o, none⟩
  q : ∃ v : Nat, w'.cell? ⟨B, 8, none⟩ = some (.int .u32 (v : Int))
theorem GrowBut.trans {B : Nat} {x y z : World} (h : GrowBut B x y) (k : GrowBut B y z) : GrowBut B x z :=
  ⟨k.os.trans h.os, k.tape.trans h.tape, k.output.trans h.output, Nat.le_trans h.size k.size, fun i hi hne => (k.block i (Nat.lt_of_lt_of_le hi h.size) hne).trans (h.block i hi hne), fun o ho => (k.cell o ho).trans (h.cell o ho), fun o => (k.frozen o).trans (h.frozen o), k.q⟩
theorem GrowBut.of_below {B : Nat} {w w' : World} (hB : B < w.heap.size) (hq : ∃ v : Nat, w.cell? ⟨B, 8, none⟩ = some (.int .u32 (v : Int))) (h : Below w.heap.size w w') : GrowBut B w w' :=
  ⟨h.os, h.tape, h.output, h.size, fun k hk _ => h.block k hk, fun o _ => World.cell?_of_block (w := w) (a := ⟨B, o, none⟩) (h.block B hB), fun o => World.frozen?_of_block (w := w) (a := ⟨B, o, none⟩) (h.block B hB), by obtain ⟨v, hv⟩ := hq; exact ⟨v, cell_old h hv⟩⟩
theorem GrowBut.set {B : Nat} {w : World} (v : Nat) (hq : ∃ v : Nat, w.cell? ⟨B, 8, none⟩ = some (.int .u32 (v : Int))) : GrowBut B w (w.setCell ⟨B, 8, none⟩ (.int .u32 (v : Int))) :=
  ⟨rfl, rfl, rfl, by simp [World.setCell], fun k _ hne => block_set _ _ _ _ hne, fun o ho => cell_set_ne _ _ _ _ _ (Ne.symm ho), fun o => frozen_set _ _ _ _, by obtain ⟨u, hu⟩ := hq; exact ⟨v, cell_set_eq _ _ _ _ _ hu⟩⟩
theorem GrowBut.below {B n₀ : Nat} {w w' : World} (h : GrowBut B w w') (h1 : n₀ ≤ B) (h2 : n₀ ≤ w.heap.size) : Below n₀ w w' := ⟨h.os, h.tape, h.output, h.size, fun k hk => h.block k (by omega) (by omega)⟩
theorem GrowBut.old {B : Nat} {w w' : World} (h : GrowBut B w w') {a : Addr} {v : Value} (hv : w.cell? a = some v) (hne : a ≠ ⟨B, 8, none⟩) : w'.cell? a = some v := by
  have hlt := World.block_lt_of_cell? w a hv
  obtain ⟨b, o, sp⟩ := a
  by_cases e : b = B
  · subst e
    cases sp with
    | some x => unfold World.cell? at hv; dsimp only at hv; split at hv <;> simp at hv
    | none => exact (h.cell o (fun e => hne (by rw [e]))).trans hv
  · exact (World.cell?_of_block (w := w) (a := ⟨b, o, sp⟩) (h.block b hlt e)).trans hv
theorem ne_of_cells {w : World} {a b : Addr} {u v : Value} (h1 : w.cell? a = some u) (h2 : w.cell? b = some v) (h : u ≠ v) : a ≠ b := fun e => h (by subst e; exact Option.some.inj (h1.symm.trans h2))
theorem Rd.but {B : Nat} {w w' : World} {A : Option Addr} {n : Nat} {l : List UInt8} (h : Rd eB w A n l) (g : GrowBut B w w') (hq : ∃ v : Nat, w.cell? ⟨B, 8, none⟩ = some (.int .u32 (v : Int))) : Rd eB w' A n l :=
  ⟨h.len, h.big, fun j hj => by
    obtain ⟨ad, e, hc⟩ := h.cell j hj
    obtain ⟨v, hv⟩ := hq
    exact ⟨ad, e, g.old hc (ne_of_cells hc hv (by simp))⟩⟩
theorem SG.but {f : Few} {A : Option Addr} {n : Nat} {seed : List UInt8} {layer tree B : Nat} {w w' : World} (h : SG f A n seed layer tree w) (g : GrowBut B w w') (hq : ∃ v : Nat, w.cell? ⟨B, 8, none⟩ = some (.int .u32 (v : Int))) : SG f A n seed layer tree w' :=
  ⟨⟨fun i hi => g.old (h.laid.1 i hi) (by obtain ⟨v, hv⟩ := hq; exact ne_of_cells (h.laid.1 i hi) hv (by simp)), fun i hi => g.old (h.laid.2 i hi) (by obtain ⟨v, hv⟩ := hq; exact ne_of_cells (h.laid.2 i hi) hv (by simp))⟩, h.ok, h.rs.but g hq, h.seedL, h.layer, h.tree⟩
theorem Own.but {α : Type} {enc : α → Value} {B B' : Nat} {w w' : World} {A : Option Addr} {n c : Nat} {l : List α} (h : Own enc B' w A n c l) (g : GrowBut B w w') (hB : B < B') : Own enc B' w' A n c l := by
  rcases h.at_ with h0 | ⟨x, h1, h2, h3, h4⟩
  · exact ⟨h.len, h.big, h.nc, h.cm, .inl h0⟩
  · exact h.same g.size fun y hy => by rw [h1] at hy; cases hy; exact g.block x h3 (by omega)

structure SClos (f : Few) (A : Option Addr) (n c layer tree : Nat) (A1 : Option Addr) (n1 c1 Bs Bt Ba : Nat) (w : World) : Prop where
  s0 : w.cell? ⟨Bs, 0, none⟩ = some (.int .i64 (f.N : Int))
  s1 : w.cell? ⟨Bs, 1, none⟩ = some (.int .i64 (f.L : Int))
  s2 : w.cell? ⟨Bs, 2, none⟩ = some (.int .i64 (f.H : Int))
  s3 : w.cell? ⟨Bs, 3, none⟩ = some (.int .i64 (f.K : Int))
  s4 : w.cell? ⟨Bs, 4, none⟩ = some (.int .i64 (f.A : Int))
  s5 : w.cell? ⟨Bs, 5, none⟩ = some (.slice A n c)
  s6 : w.cell? ⟨Bs, 6, none⟩ = some (.int .u32 (layer : Int))
  s7 : w.cell? ⟨Bs, 7, none⟩ = some (.int .u64 (tree : Int))
  q : ∃ v : Nat, w.cell? ⟨Bs, 8, none⟩ = some (.int .u32 (v : Int))
  free : w.frozen? ⟨Bs, 8, none⟩ = false
  t : w.cell? ⟨Bt, 0, none⟩ = some (.slice A1 n1 c1)
  fn : w.cell? ⟨Ba, 0, none⟩ = some (.func (.func 79) #[] #[.pointer (some ⟨Bs, 0, none⟩), .pointer (some ⟨Bt, 0, none⟩), .pointer (some ⟨Ba, 0, none⟩)])
  bt : Bt ≠ Bs
  ba : Ba ≠ Bs
theorem SClos.but {f : Few} {A : Option Addr} {n c layer tree : Nat} {A1 : Option Addr} {n1 c1 Bs Bt Ba : Nat} {w w' : World} (h : SClos f A n c layer tree A1 n1 c1 Bs Bt Ba w) (g : GrowBut Bs w w') : SClos f A n c layer tree A1 n1 c1 Bs Bt Ba w' :=
  ⟨g.old h.s0 (by simp), g.old h.s1 (by simp), g.old h.s2 (by simp), g.old h.s3 (by simp), g.old h.s4 (by simp), g.old h.s5 (by simp), g.old h.s6 (by simp), g.old h.s7 (by simp), g.q, (g.frozen 8).trans h.free, g.old h.t (by simp), g.old h.fn (by simp), h.bt, h.ba⟩
theorem SClos.lt {f : Few} {A : Option Addr} {n c layer tree : Nat} {A1 : Option Addr} {n1 c1 Bs Bt Ba : Nat} {w : World} (h : SClos f A n c layer tree A1 n1 c1 Bs Bt Ba w) : Bs < w.heap.size := World.block_lt_of_cell? w _ h.s0


set_option maxHeartbeats 4000000 in
theorem snode_any (f : Few) (A A1 : Option Addr) (n c n1 c1 Bs Bt Ba : Nat) (seed sec : List UInt8) (layer tree : Nat) (hxl : sec.length = f.N) : ∀ (g i : Nat) (w : World), SG f A n seed layer tree w → Rd eB w A1 n1 sec → SClos f A n c layer tree A1 n1 c1 Bs Bt Ba w → (i + 1) * 2 ^ g ≤ 1048576 →
    Calls Tryz.prog 79 #[.int .u32 (g : Int), .int .u32 (i : Int), .pointer (some ⟨Bs, 0, none⟩), .pointer (some ⟨Bt, 0, none⟩), .pointer (some ⟨Ba, 0, none⟩)] w
      (fun e w' => ∃ A' n' c', e = .returned (.slice A' n' c') ∧ Own eB w.heap.size w' A' n' c' (sNode f.N seed sec layer tree g i) ∧ GrowBut Bs w w') := by
  intro g
  induction g with
  | zero =>
    intro i w hG hX hS hi
    have HG := Lib.hid hG
    have HX := Lib.hid hX
    have HS := Lib.hid hS
    have hi2 : i < 4294967296 := by simp at hi; omega
    obtain ⟨q0, hq⟩ := hS.q
    have hf := hS.free
    clear hG hX hS hi
    have k0 := HS.out.s0
    have k1 := HS.out.s1
    have k2 := HS.out.s2
    have k3 := HS.out.s3
    have k4 := HS.out.s4
    have k5 := HS.out.s5
    have k6 := HS.out.s6
    have k7 := HS.out.s7
    have kt := HS.out.t
    go_enter Tryz.func79, Tryz.ntmps79
    go_wp2_with fail
    have HC := Lib.hid (sum_any f A A1 n c n1 c1 seed sec layer tree i (w.setCell ⟨Bs, 8, none⟩ (.int .u32 (i : Int))) (HG.out.but (GrowBut.set i ⟨q0, hq⟩) ⟨q0, hq⟩) hi2 (HX.out.but (GrowBut.set i ⟨q0, hq⟩) ⟨q0, hq⟩) hxl)
    unfold vSpot at HC
    refine HC.out.mono ?_
    rintro e w' ⟨A', n', c', rfl, h1, h2⟩
    have hsz : (w.setCell ⟨Bs, 8, none⟩ (.int .u32 (i : Int))).heap.size = w.heap.size := by simp [World.setCell]
    have h1' := Lib.hid (h1.mono (Nat.le_of_eq hsz.symm))
    have h2' := Lib.hid ((GrowBut.set i ⟨q0, hq⟩).trans (GrowBut.of_below (by rw [hsz]; exact HS.out.lt) (GrowBut.set (B := Bs) (w := w) i ⟨q0, hq⟩).q h2))
    clear h1 h2 HC hsz hq hf k0 k1 k2 k3 k4 k5 k6 k7 kt
    go_wp2
    go_ret
    exact ⟨_, _, _, rfl, h1'.out, h2'.out⟩
  | succ g ih =>
    intro i w hG hX hS hi
    have hp : 1 ≤ 2 ^ g := Nat.one_le_two_pow
    have hi2 : (i + 1) * 2 ≤ 1048576 := by
      refine Nat.le_trans ?_ hi
      rw [Nat.pow_succ]
      exact Nat.mul_le_mul_left _ (by omega)
    have hg2 : g + 1 ≤ 1048576 := by
      have : g + 1 < 2 ^ (g + 1) := Nat.lt_two_pow_self
      have h3 : 2 ^ (g + 1) ≤ (i + 1) * 2 ^ (g + 1) := Nat.le_mul_of_pos_left _ (by omega)
      omega
    have HG := Lib.hid hG
    have HX := Lib.hid hX
    have HS := Lib.hid hS
    have IH := Lib.hid ih
    have HI := Lib.hid hi
    have hN := hG.ok.N.le'
    have HB : Hid (i < 4294967296 ∧ g + 1 < 4294967296) := Lib.hid ⟨by omega, by omega⟩
    have e1 : ((g + 1 : Nat) : Int) = (g : Int) + 1 := by omega
    rw [e1]
    have E1 := Lib.hid e1
    have b0 : ((g : Int) + 1 == 0) = false := by simp; omega
    have b1 : (g : Int) % 4294967296 = (g : Int) := by omega
    have b2 : (2 * (i : Int)) % 4294967296 = 2 * (i : Int) := by omega
    have b3 : (2 * (i : Int) + 1) % 4294967296 = 2 * (i : Int) + 1 := by omega
    have HC := Lib.hid (ih (2 * i) w hG hX hS (by rw [Nat.pow_succ] at hi; calc (2 * i + 1) * 2 ^ g ≤ ((i + 1) * 2) * 2 ^ g := Nat.mul_le_mul_right _ (by omega)
        _ = (i + 1) * (2 ^ g * 2) := by rw [Nat.mul_assoc, Nat.mul_comm 2]
        _ ≤ _ := hi))
    rw [show ((2 * i : Nat) : Int) = 2 * (i : Int) by omega] at HC
    clear hG hX hS hi ih e1 hp hi2 hg2
    have k0 := HS.out.s0
    have k1 := HS.out.s1
    have k2 := HS.out.s2
    have k3 := HS.out.s3
    have k4 := HS.out.s4
    have k5 := HS.out.s5
    have k6 := HS.out.s6
    have k7 := HS.out.s7
    have kt := HS.out.t
    have kf := HS.out.fn
    go_enter Tryz.func79, Tryz.ntmps79
    go_wp2_with fail
    refine HC.out.mono ?_
    rintro e w1 ⟨Al, nl, cl, rfl, ho1, g1⟩
    have HQ := Lib.hid HS.out.q
    have HG1 := Lib.hid (HG.out.but g1 HS.out.q)
    have HX1 := Lib.hid (HX.out.but g1 HS.out.q)
    have HS1 := Lib.hid (HS.out.but g1)
    have HO1 := Lib.hid ho1
    have G1 := Lib.hid g1
    have HC := Lib.hid (IH.out (2 * i + 1) w1 HG1.out HX1.out HS1.out (by have hi := HI.out; rw [Nat.pow_succ] at hi; calc (2 * i + 1 + 1) * 2 ^ g = ((i + 1) * 2) * 2 ^ g := by rw [show 2 * i + 1 + 1 = (i + 1) * 2 by omega]
        _ = (i + 1) * (2 ^ g * 2) := by rw [Nat.mul_assoc, Nat.mul_comm 2]
        _ ≤ _ := hi))
    rw [show ((2 * i + 1 : Nat) : Int) = 2 * (i : Int) + 1 by omega] at HC
    clear k0 k1 k2 k3 k4 k5 k6 k7 kt kf ho1 g1
    have k0 := HS1.out.s0
    have k1 := HS1.out.s1
    have k2 := HS1.out.s2
    have k3 := HS1.out.s3
    have k4 := HS1.out.s4
    have k5 := HS1.out.s5
    have k6 := HS1.out.s6
    have k7 := HS1.out.s7
    have kt := HS1.out.t
    have kf := HS1.out.fn
    go_wp2_with fail
    refine HC.out.mono ?_
    rintro e w2 ⟨Ar, nr, cr, rfl, ho2, g2⟩
    have hlB : Bs < w.heap.size := HS.out.lt
    have HG2 := Lib.hid (HG1.out.but g2 HS1.out.q)
    have HS2 := Lib.hid (HS1.out.but g2)
    have HO2 := Lib.hid ho2
    have HO12 := Lib.hid (HO1.out.but g2 hlB)
    have G2 := Lib.hid (G1.out.trans g2)
    obtain ⟨q2, kq⟩ := HS2.out.q
    have HC := Lib.hid (node_any f A Al Ar n c nl cl nr cr seed _ _ layer tree q2 (g + 1) i w2 HG2.out HB.out.2 HB.out.1 HO12.out.rd HO2.out.rd (sNode_length _ _ _ _ _ _ _ (by omega)) (sNode_length _ _ _ _ _ _ _ (by omega)))
    unfold vSpot at HC
    rw [E1.out] at HC
    have HQ2 : Hid (∃ v : Nat, w2.cell? ⟨Bs, 8, none⟩ = some (.int .u32 (v : Int))) := Lib.hid ⟨q2, kq⟩
    clear k0 k1 k2 k3 k4 k5 k6 k7 kt kf ho2 g2
    have k0 := HS2.out.s0
    have k1 := HS2.out.s1
    have k2 := HS2.out.s2
    have k3 := HS2.out.s3
    have k4 := HS2.out.s4
    have k5 := HS2.out.s5
    have k6 := HS2.out.s6
    have k7 := HS2.out.s7
    go_wp2_with fail
    refine HC.out.mono ?_
    rintro e w3 ⟨A', n', c', rfl, h1, h2⟩
    have h1' := Lib.hid (h1.mono G2.out.size)
    have h2' := Lib.hid (G2.out.trans (GrowBut.of_below (Nat.lt_of_lt_of_le hlB G2.out.size) HQ2.out h2))
    clear h1 h2 HC k0 k1 k2 k3 k4 k5 k6 k7 kq
    go_wp2
    go_ret
    exact ⟨_, _, _, rfl, h1'.out, h2'.out⟩

theorem ssums_any (f : Few) (A A1 : Option Addr) (n c n1 c1 layer tree q : Nat) (w : World) :
    Calls Tryz.prog 44 #[vSpot f A n c layer tree q, .slice A1 n1 c1] w
      (fun e w' => ∃ Bs Bt Ba, e = .returned (.func (.func 79) #[] #[.pointer (some ⟨Bs, 0, none⟩), .pointer (some ⟨Bt, 0, none⟩), .pointer (some ⟨Ba, 0, none⟩)]) ∧ SClos f A n c layer tree A1 n1 c1 Bs Bt Ba w' ∧ w.heap.size ≤ Bs ∧ Grow w w') := by
  unfold vSpot
  go_enter Tryz.func44, Tryz.ntmps44
  go_wp2
  rw [run_store_one _ _ _ _ Value.nilFunc rfl (by go_simp) (by go_simp)]
  go_wp2
  go_ret
  refine ⟨_, _, _, rfl, ?_, Nat.le_refl _, ?_⟩
  · refine ⟨?_, ?_, ?_, ?_, ?_, ?_, ?_, ?_, ⟨q, ?_⟩, ?_, ?_, ?_, by omega, by omega⟩ <;> go_simp
  · exact (((Below.refl _ w).alloc (Nat.le_refl _) _).alloc (by simp) _).alloc (by simp; omega) _
end Go.Proofs.Sl

/- fors: the whole. -/
namespace Go.Proofs.Sl
open Go.RowKit Go.Proofs

theorem mayI_ok {f : Few} (h : FewOk f) : mayI f.N f.L f.H f.K f.A = true := by
  have hN := h.N; have hL1 := h.L1; have hL2 := h.L2; have h1 := h.H1; have h2 := h.H2; have h3 := h.K1; have h4 := h.K2; have h5 := h.A1; have h6 := h.A2; have h7 := h.LH
  unfold NOk at hN
  have e : ((f.L : Int) - 1) * (f.H : Int) = (((f.L - 1) * f.H : Nat) : Int) := by
    rw [Int.natCast_mul]; congr 1; omega
  simp only [mayI, sizeI, lowI, e]
  simp
  omega

/-- The secrets lie in memory, and they can make the set. -/
structure Ground (f : Few) (m : Sec) (A1 A2 A3 : Option Addr) (n1 n2 n3 : Nat) (w : World) : Prop where
  laid : Laid w
  ok : MadeOk f m
  r1 : Rd eB w A1 n1 m.secret
  r2 : Rd eB w A2 n2 m.salt
  r3 : Rd eB w A3 n3 m.seed
theorem Ground.below {f : Few} {m : Sec} {A1 A2 A3 : Option Addr} {n1 n2 n3 : Nat} {w w' : World} (h : Ground f m A1 A2 A3 n1 n2 n3 w) (hb : Below w.heap.size w w') : Ground f m A1 A2 A3 n1 n2 n3 w' :=
  ⟨h.laid.below hb, h.ok, h.r1.below hb, h.r2.below hb, h.r3.below hb⟩
theorem Ground.made {f : Few} {m : Sec} {A1 A2 A3 : Option Addr} {n1 n2 n3 : Nat} {w : World} (h : Ground f m A1 A2 A3 n1 n2 n3 w) : madeI f.N f.L f.H f.K f.A n1 n2 n3 = true := by
  have e1 := h.r1.len; have e2 := h.r2.len; have e3 := h.r3.len
  rw [h.ok.secret] at e1; rw [h.ok.salt] at e2; rw [h.ok.seed] at e3
  have hH := h.ok.H; have hA := h.ok.A
  unfold madeI rightI
  rw [mayI_ok h.ok.ok, ← e1, ← e2, ← e3]
  simp
  omega

theorem flat_len (l : List Nat) (g : Nat → List UInt8) (N : Nat) (h : ∀ i, (g i).length = N) : (l.flatMap g).length = l.length * N := by
  induction l with
  | nil => simp
  | cons a l ih => rw [List.flatMap_cons, List.length_append, ih, h, List.length_cons, Nat.succ_mul, Nat.add_comm]
theorem range_flat (k : Nat) (g : Nat → List UInt8) : (List.range (k + 1)).flatMap g = (List.range k).flatMap g ++ g k := by
  rw [List.range_succ, List.flatMap_append]; simp

set_option maxHeartbeats 4000000 in
theorem whole_any (f : Few) (m : Sec) (A1 A2 A3 : Option Addr) (n1 n2 n3 c1 c2 c3 tree q : Nat) (w : World) (hM : Ground f m A1 A2 A3 n1 n2 n3 w) (ht : W64 tree) (hq : q < 4294967296) :
    Calls Tryz.prog 30 #[vFew f, vSec A1 A2 A3 n1 n2 n3 c1 c2 c3, .int .u64 (tree : Int), .int .u32 (q : Int)] w (RetOwn eB w (fWhole f m.seed m.secret tree q)) := by
  have HM := Lib.hid hM
  have HQ := Lib.hid (And.intro ht hq)
  have hK : f.K ≤ 40 := hM.ok.ok.K2
  have hA : f.A ≤ 6 := hM.ok.A
  have hN1 := hM.ok.ok.N.pos
  have hN2 := hM.ok.ok.N.le
  have e1 : (f.K : Int) % 4294967296 = (f.K : Int) := by omega
  have e2 : (f.A : Int) % 4294967296 = (f.A : Int) := by omega
  clear hM ht hq
  unfold vFew vSec
  go_enter Tryz.func30, Tryz.ntmps30
  go_wp2_with fail
  have HC := Lib.hid (made_any f.N f.L f.H f.K f.A A1 A2 A3 n1 n2 n3 c1 c2 c3 ((w.alloc (.cells #[.int .i64 (f.N : Int), .int .i64 (f.L : Int), .int .i64 (f.H : Int), .int .i64 (f.K : Int), .int .i64 (f.A : Int)] 23)).alloc (.cells #[.slice A1 n1 c1, .slice A2 n2 c2, .slice A3 n3 c3] 26)))
  rw [HM.out.made] at HC
  unfold vFewI vSec at HC
  refine HC.out.mono ?_
  rintro e w1 ⟨rfl, hB⟩
  clear HC
  have g1 : Grow w w1 := (((Below.refl _ w).alloc (Nat.le_refl _) _).alloc (by simp) _).trans (hB.mono (by simp; omega))
  have k0 : w1.cell? ⟨w.heap.size, 0, none⟩ = some (.int .i64 (f.N : Int)) := (hB.cell (by simp; omega)).trans (by go_simp)
  have k1 : w1.cell? ⟨w.heap.size, 1, none⟩ = some (.int .i64 (f.L : Int)) := (hB.cell (by simp; omega)).trans (by go_simp)
  have k2 : w1.cell? ⟨w.heap.size, 2, none⟩ = some (.int .i64 (f.H : Int)) := (hB.cell (by simp; omega)).trans (by go_simp)
  have k3 : w1.cell? ⟨w.heap.size, 3, none⟩ = some (.int .i64 (f.K : Int)) := (hB.cell (by simp; omega)).trans (by go_simp)
  have k4 : w1.cell? ⟨w.heap.size, 4, none⟩ = some (.int .i64 (f.A : Int)) := (hB.cell (by simp; omega)).trans (by go_simp)
  have k5 : w1.cell? ⟨w.heap.size + 1, 0, none⟩ = some (.slice A1 n1 c1) := (hB.cell (by simp)).trans (by go_simp)
  have k6 : w1.cell? ⟨w.heap.size + 1, 1, none⟩ = some (.slice A2 n2 c2) := (hB.cell (by simp)).trans (by go_simp)
  have k7 : w1.cell? ⟨w.heap.size + 1, 2, none⟩ = some (.slice A3 n3 c3) := (hB.cell (by simp)).trans (by go_simp)
  have hs1 : w.heap.size + 1 < w1.heap.size := by have := hB.size; simp at this; omega
  have hs0 : w.heap.size < w1.heap.size := by omega
  have hs2 : (w1.heap.size == w.heap.size + 1) = false := by simp; omega
  have hs3 : (w1.heap.size == w.heap.size) = false := by simp; omega
  clear hB
  go_wp2_with fail
  generalize hW2 : World.alloc w1 _ = w2
  have g2 : Grow w1 w2 := by rw [← hW2]; exact (Below.refl _ _).alloc (Nat.le_refl _) _
  have p0 : w2.cell? ⟨w1.heap.size, 0, none⟩ = some (.int .i64 (f.N : Int)) := by subst hW2; go_simp
  have p1 : w2.cell? ⟨w1.heap.size, 1, none⟩ = some (.int .i64 (f.L : Int)) := by subst hW2; go_simp
  have p2 : w2.cell? ⟨w1.heap.size, 2, none⟩ = some (.int .i64 (f.H : Int)) := by subst hW2; go_simp
  have p3 : w2.cell? ⟨w1.heap.size, 3, none⟩ = some (.int .i64 (f.K : Int)) := by subst hW2; go_simp
  have p4 : w2.cell? ⟨w1.heap.size, 4, none⟩ = some (.int .i64 (f.A : Int)) := by subst hW2; go_simp
  have p5 : w2.cell? ⟨w1.heap.size, 5, none⟩ = some (.slice A3 n3 c3) := by subst hW2; go_simp
  have p6 : w2.cell? ⟨w1.heap.size, 6, none⟩ = some (.int .u64 (tree : Int)) := by subst hW2; go_simp
  have p7 : w2.cell? ⟨w1.heap.size, 7, none⟩ = some (.int .u32 (q : Int)) := by subst hW2; go_simp
  clear hW2
  have HC := Lib.hid (psums_any f A3 A1 A2 A3 n3 c3 n1 n2 n3 c1 c2 c3 tree q w2)
  unfold vPlace vSec at HC
  refine HC.out.mono ?_
  rintro e w3 ⟨Bp, Bm, Ba, rfl, hF, g3⟩
  have HF := Lib.hid hF
  have gg := g1.trans _ _ _ (g2.trans _ _ _ g3)
  have K3 := cell_old g3 (cell_old g2 k3)
  have K4 := cell_old g3 (cell_old g2 k4)
  have P0 := cell_old g3 p0
  have P1 := cell_old g3 p1
  have P2 := cell_old g3 p2
  have P3 := cell_old g3 p3
  have P4 := cell_old g3 p4
  have P5 := cell_old g3 p5
  have P6 := cell_old g3 p6
  have P7 := cell_old g3 p7
  clear HC hF g3 k0 k1 k2 k3 k4 k5 k6 k7 p0 p1 p2 p3 p4 p5 p6 p7 g1 g2
  go_wp2
  go_loopw [11, 29] (fun v i wr => ∃ (k : Nat) (A : Option Addr) (c : Nat), k ≤ f.K ∧ i = .int .u32 (k : Int) ∧ v = .slice A (k * f.N) c ∧ Own eB w3.heap.size wr A (k * f.N) c ((List.range k).flatMap fun k => fNode f.N m.seed m.secret tree q f.A k) ∧ Grow w3 wr) (fun _ i _ => f.K - (intOf i).toNat)
  case atStart => exact ⟨0, none, 0, Nat.zero_le _, rfl, by simp, by simpa using Own.nil _ _, Grow.refl _⟩
  case round =>
    obtain ⟨k, A, c, hk, rfl, rfl, ho, hg⟩ := hrel
    have hkN : k * f.N ≤ 1280 := Nat.le_trans (Nat.mul_le_mul hk hN2) (by omega)
    have HO := Lib.hid ho
    have c4 := cell_old hg K4
    by_cases hlt : k < f.K
    · have HC := Lib.hid (fnode_any f A3 A1 A2 A3 n3 c3 n1 n2 n3 c1 c2 c3 Bp Bm Ba m.seed m.secret tree q f.A k wr ⟨(HM.out.below (gg.trans _ _ _ hg)).laid, HM.out.ok.ok.N, (HM.out.below (gg.trans _ _ _ hg)).r3, HM.out.ok.seed, HQ.out.1, HQ.out.2, (HM.out.below (gg.trans _ _ _ hg)).r1, HM.out.ok.secret⟩ (HF.out.below hg) (by
        calc (k + 1) * 2 ^ f.A ≤ 40 * 2 ^ 6 := Nat.mul_le_mul (by omega) (Nat.pow_le_pow_right (by omega) hA)
          _ ≤ 1048576 := by decide))
      have hfl := Lib.hid (fNode_length f.N m.seed m.secret tree q f.A k (by omega))
      have HG := Lib.hid hg
      clear ho hg K3 K4 P0 P1 P2 P3 P4 P5 P6 P7
      have hki : ((k : Int) + 1) % 4294967296 = (k : Int) + 1 := by omega
      go_wp2_with fail
      refine HC.out.mono ?_
      rintro e w4 ⟨A', n', c', rfl, h5, h6⟩
      obtain rfl : f.N = n' := by rw [← h5.len]; exact hfl.out.symm
      have HO2 := Lib.hid (HO.out.below h6)
      have H5 := Lib.hid h5
      have H6 := Lib.hid (HG.out.trans _ _ _ h6)
      have hsz : w3.heap.size ≤ w4.heap.size := Nat.le_trans HG.out.size h6.size
      clear HC h5 h6 c4
      go_wp2_with (at_builtin; refine wpList_append_sl rfl _ _ 24 5 (.int .u8 0) 1 rfl Tryz.underlying24 infoB rfl (fun _ => rfl) rfl rfl HO2.out H5.out.rd (by omega) (by omega) hsz ?_; intro A' c' w' h3 h4 h5)
      go_roundw
      case rel => exact ⟨k + 1, A', c', by omega, by go_num, by rw [Nat.succ_mul], by rw [Nat.succ_mul, range_flat]; exact h3, Below.trans H6.out h5⟩
      case measure => simp [intOf]; omega
    · obtain rfl : k = f.K := by omega
      have d0 := cell_old hg P0
      have d1 := cell_old hg P1
      have d2 := cell_old hg P2
      have d3 := cell_old hg P3
      have d4 := cell_old hg P4
      have d5 := cell_old hg P5
      have d6 := cell_old hg P6
      have d7 := cell_old hg P7
      have GG := Lib.hid ((gg.trans _ _ _ hg).alloc (gg.trans _ _ _ hg).size (.cells #[.slice A (f.K * f.N) c] 24))
      have hsz := GG.out.size
      clear hg K3 K4 P0 P1 P2 P3 P4 P5 P6 P7 ho
      go_wp2_with fail
      have hln : ((List.range f.K).flatMap fun k => fNode f.N m.seed m.secret tree q f.A k).length = f.K * f.N := by rw [flat_len _ _ f.N (fun i => fNode_length _ _ _ _ _ _ _ (by omega)), List.length_range]
      have hK1 : 1 ≤ f.K := HM.out.ok.ok.K1
      have h16 : 16 ≤ f.K * f.N := by calc 16 ≤ 1 * f.N := by omega
                                       _ ≤ f.K * f.N := Nat.mul_le_mul_right _ hK1
      have HC := Lib.hid (ptweak_any f A3 n3 c3 m.seed tree q 4 0 0 wr.heap.size 1 [(List.range f.K).flatMap fun k => fNode f.N m.seed m.secret tree q f.A k] _ (HM.out.below GG.out).laid HM.out.ok.ok.N (HM.out.below GG.out).r3 HM.out.ok.seed HQ.out.1 HQ.out.2 (by omega) (by omega) (by omega) (parts1 (cell_newAt rfl rfl) (HO.out.rd.alloc _)) (by omega) (by simp only [List.flatten_cons, List.flatten_nil, List.append_nil, hln]; omega) (by simp only [List.flatten_cons, List.flatten_nil, List.append_nil, hln]; omega))
      rw [show [(List.range f.K).flatMap fun k => fNode f.N m.seed m.secret tree q f.A k].flatten = (List.range f.K).flatMap fun k => fNode f.N m.seed m.secret tree q f.A k by simp] at HC
      unfold vPlace at HC
      refine HC.out.mono ?_
      rintro e w5 ⟨A4, n4, cc4, rfl, h5, h6⟩
      have h5' := h5.mono hsz
      have hB := Grow.trans _ _ _ GG.out h6
      clear h5 h6 HC d0 d1 d2 d3 d4 d5 d6 d7 c4
      go_wp2
      go_ret
      exact ⟨_, _, _, rfl, h5', hB⟩
end Go.Proofs.Sl
