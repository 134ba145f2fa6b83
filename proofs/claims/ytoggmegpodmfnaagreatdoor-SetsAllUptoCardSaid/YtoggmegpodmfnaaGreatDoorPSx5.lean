/- Contracts of functions that the law reaches: what each call answers, as a plain function of what it reads; on condition that the function answers there. Printed by this session's own tool. -/
import Derived.Test.YtoggmegpodmfnaaGreatDoorPSx01
import Derived.Test.YtoggmegpodmfnaaGreatDoorBSq
namespace Go.Proofs.YtoggmegpodmfnaaGreatDoor.PS
open Go.RowKit Go.Proofs.YtoggmegpodmfnaaGreatDoor.B Go.Proofs.YtoggmegpodmfnaaGreatDoorW.PrintWords Go.Proofs.YtoggmegpodmfnaaGreatDoorW.PrintLast Go.Proofs.YtoggmegpodmfnaaGreatDoorW.PrintMore
attribute [local go_sem] max2_int min2_int max_two min_two max_three min_three max_four min_four   -- for this text's walks alone
set_option linter.unusedVariables false
set_option linter.unusedSimpArgs false
mutual
def sets_without.l0 : Nat → List (S41) → List (S41) → Int → List (S41) → Int → Int → Option ((List (S41)))
 | 0, _, _, _, _, _, _ => none
 | k + 1, x1, x5, x6, x10, x11, x12 => if x12 < x11 then (if 0 ≤ x12 then (if x12 < (x10.length : Int) then (sets_without.l1 k x1 x5 x6 x10 x11 x12 ((rd_T41 x10 x12).f0) ((rd_T41 x10 x12).f1)) else (none)) else (none)) else (some x5)
def sets_without.j2 : Nat → List (S41) → List (S41) → Int → List (S41) → Int → Int → Int → Int → Option ((List (S41)))
 | 0, _, _, _, _, _, _, _, _ => none
 | k + 1, x1, x5, x6, x10, x11, x12, x131000, x131001 => sets_without.l2 k x1 x5 x6 x6 x10 x11 x12 x131000 x131001
def sets_without.l2 : Nat → List (S41) → List (S41) → Int → Int → List (S41) → Int → Int → Int → Int → Option ((List (S41)))
 | 0, _, _, _, _, _, _, _, _, _ => none
 | k + 1, x1, x5, x6, x9, x10, x11, x12, x131000, x131001 => if x9 < (x1.length : Int) then (if 0 ≤ x9 then (sets_without.j4 k x1 x5 x6 x9 x10 x11 x12 (decide (((rd_T41 x1 x9).f0) ≤ x131001)) x131000 x131001) else (none)) else (sets_without.j4 k x1 x5 x6 x9 x10 x11 x12 false x131000 x131001)
def sets_without.j4 : Nat → List (S41) → List (S41) → Int → Int → List (S41) → Int → Int → Bool → Int → Int → Option ((List (S41)))
 | 0, _, _, _, _, _, _, _, _, _, _ => none
 | k + 1, x1, x5, x6, x9, x10, x11, x12, x46, x131000, x131001 => if x46 = true then (if 0 ≤ x9 then (if x9 < (x1.length : Int) then (if ((rd_T41 x1 x9).f0) > x131000 then (if x5.length < 17592186044416 then (sets_without.l2 k x1 (x5 ++ [(⟨x131000, wrap32 (((rd_T41 x1 x9).f0) - 1)⟩ : S41)]) x6 (wrap64 (x9 + 1)) x10 x11 x12 (wrap32 (((rd_T41 x1 x9).f1) + 1)) x131001) else (none)) else (sets_without.l2 k x1 x5 x6 (wrap64 (x9 + 1)) x10 x11 x12 (wrap32 (((rd_T41 x1 x9).f1) + 1)) x131001)) else (none)) else (none)) else (if x131000 ≤ x131001 then (if x5.length < 17592186044416 then (sets_without.l0 k x1 (x5 ++ [(⟨x131000, x131001⟩ : S41)]) x6 x10 x11 (wrap64 (x12 + 1))) else (none)) else (sets_without.l0 k x1 x5 x6 x10 x11 (wrap64 (x12 + 1))))
def sets_without.l1 : Nat → List (S41) → List (S41) → Int → List (S41) → Int → Int → Int → Int → Option ((List (S41)))
 | 0, _, _, _, _, _, _, _, _ => none
 | k + 1, x1, x5, x6, x10, x11, x12, x131000, x131001 => if x6 < (x1.length : Int) then (if 0 ≤ x6 then (if ((rd_T41 x1 x6).f1) < x131000 then (sets_without.l1 k x1 x5 (wrap64 (x6 + 1)) x10 x11 x12 x131000 x131001) else (sets_without.j2 k x1 x5 x6 x10 x11 x12 x131000 x131001)) else (none)) else (sets_without.j2 k x1 x5 x6 x10 x11 x12 x131000 x131001)
end
def sets_without.f (k : Nat) (l0 : List (S41)) (l1 : List (S41)) : Option ((List (S41))) := sets_without.l0 k l1 ([] : List (S41)) 0 l0 (l0.length : Int) 0
theorem sets_without.mono_l : ∀ k, (∀ y0 y1 y2 y3 y4 y5, LeO (sets_without.l0 k y0 y1 y2 y3 y4 y5) (sets_without.l0 (k + 1) y0 y1 y2 y3 y4 y5)) ∧ (∀ y0 y1 y2 y3 y4 y5 y6 y7, LeO (sets_without.j2 k y0 y1 y2 y3 y4 y5 y6 y7) (sets_without.j2 (k + 1) y0 y1 y2 y3 y4 y5 y6 y7)) ∧ (∀ y0 y1 y2 y3 y4 y5 y6 y7 y8, LeO (sets_without.l2 k y0 y1 y2 y3 y4 y5 y6 y7 y8) (sets_without.l2 (k + 1) y0 y1 y2 y3 y4 y5 y6 y7 y8)) ∧ (∀ y0 y1 y2 y3 y4 y5 y6 y7 y8 y9, LeO (sets_without.j4 k y0 y1 y2 y3 y4 y5 y6 y7 y8 y9) (sets_without.j4 (k + 1) y0 y1 y2 y3 y4 y5 y6 y7 y8 y9)) ∧ (∀ y0 y1 y2 y3 y4 y5 y6 y7, LeO (sets_without.l1 k y0 y1 y2 y3 y4 y5 y6 y7) (sets_without.l1 (k + 1) y0 y1 y2 y3 y4 y5 y6 y7))
 | 0 => ⟨fun _ _ _ _ _ _ r h => by simp [sets_without.l0] at h, fun _ _ _ _ _ _ _ _ r h => by simp [sets_without.j2] at h, fun _ _ _ _ _ _ _ _ _ r h => by simp [sets_without.l2] at h, fun _ _ _ _ _ _ _ _ _ _ r h => by simp [sets_without.j4] at h, fun _ _ _ _ _ _ _ _ r h => by simp [sets_without.l1] at h⟩
 | k + 1 => by
  obtain ⟨ih0, ih1, ih2, ih3, ih4⟩ := sets_without.mono_l k; refine ⟨?_, ?_, ?_, ?_, ?_⟩
  ·
   intro y0 y1 y2 y3 y4 y5; unfold sets_without.l0
   repeat' first
   | (with_reducible exact ih0 _ _ _ _ _ _)
   | (with_reducible exact ih1 _ _ _ _ _ _ _ _)
   | (with_reducible exact ih2 _ _ _ _ _ _ _ _ _)
   | (with_reducible exact ih3 _ _ _ _ _ _ _ _ _ _)
   | (with_reducible exact ih4 _ _ _ _ _ _ _ _)
   | (with_reducible exact LeO.refl _)
   | (with_reducible exact LeO.none _)
   | (with_reducible refine LeO.ite ?_ ?_)
   | (with_reducible refine LeO.bind ?_ (fun _ => ?_))
  ·
   intro y0 y1 y2 y3 y4 y5 y6 y7; unfold sets_without.j2
   repeat' first
   | (with_reducible exact ih0 _ _ _ _ _ _)
   | (with_reducible exact ih1 _ _ _ _ _ _ _ _)
   | (with_reducible exact ih2 _ _ _ _ _ _ _ _ _)
   | (with_reducible exact ih3 _ _ _ _ _ _ _ _ _ _)
   | (with_reducible exact ih4 _ _ _ _ _ _ _ _)
   | (with_reducible exact LeO.refl _)
   | (with_reducible exact LeO.none _)
   | (with_reducible refine LeO.ite ?_ ?_)
   | (with_reducible refine LeO.bind ?_ (fun _ => ?_))
  ·
   intro y0 y1 y2 y3 y4 y5 y6 y7 y8; unfold sets_without.l2
   repeat' first
   | (with_reducible exact ih0 _ _ _ _ _ _)
   | (with_reducible exact ih1 _ _ _ _ _ _ _ _)
   | (with_reducible exact ih2 _ _ _ _ _ _ _ _ _)
   | (with_reducible exact ih3 _ _ _ _ _ _ _ _ _ _)
   | (with_reducible exact ih4 _ _ _ _ _ _ _ _)
   | (with_reducible exact LeO.refl _)
   | (with_reducible exact LeO.none _)
   | (with_reducible refine LeO.ite ?_ ?_)
   | (with_reducible refine LeO.bind ?_ (fun _ => ?_))
  ·
   intro y0 y1 y2 y3 y4 y5 y6 y7 y8 y9; unfold sets_without.j4
   repeat' first
   | (with_reducible exact ih0 _ _ _ _ _ _)
   | (with_reducible exact ih1 _ _ _ _ _ _ _ _)
   | (with_reducible exact ih2 _ _ _ _ _ _ _ _ _)
   | (with_reducible exact ih3 _ _ _ _ _ _ _ _ _ _)
   | (with_reducible exact ih4 _ _ _ _ _ _ _ _)
   | (with_reducible exact LeO.refl _)
   | (with_reducible exact LeO.none _)
   | (with_reducible refine LeO.ite ?_ ?_)
   | (with_reducible refine LeO.bind ?_ (fun _ => ?_))
  ·
   intro y0 y1 y2 y3 y4 y5 y6 y7; unfold sets_without.l1
   repeat' first
   | (with_reducible exact ih0 _ _ _ _ _ _)
   | (with_reducible exact ih1 _ _ _ _ _ _ _ _)
   | (with_reducible exact ih2 _ _ _ _ _ _ _ _ _)
   | (with_reducible exact ih3 _ _ _ _ _ _ _ _ _ _)
   | (with_reducible exact ih4 _ _ _ _ _ _ _ _)
   | (with_reducible exact LeO.refl _)
   | (with_reducible exact LeO.none _)
   | (with_reducible refine LeO.ite ?_ ?_)
   | (with_reducible refine LeO.bind ?_ (fun _ => ?_))
theorem sets_without.mono : ∀ a0 a1 k, LeO (sets_without.f k a0 a1) (sets_without.f (k + 1) a0 a1) := by
 intro a0 a1 k; obtain ⟨ih0, ih1, ih2, ih3, ih4⟩ := sets_without.mono_l k; unfold sets_without.f
 repeat' first
   | (with_reducible exact ih0 _ _ _ _ _ _)
   | (with_reducible exact ih1 _ _ _ _ _ _ _ _)
   | (with_reducible exact ih2 _ _ _ _ _ _ _ _ _)
   | (with_reducible exact ih3 _ _ _ _ _ _ _ _ _ _)
   | (with_reducible exact ih4 _ _ _ _ _ _ _ _)
   | (with_reducible exact LeO.refl _)
   | (with_reducible exact LeO.none _)
   | (with_reducible refine LeO.ite ?_ ?_)
   | (with_reducible refine LeO.bind ?_ (fun _ => ?_))
def sets_without.T6 : Bool × List (List Nat × List Nat) := (true, [([], []), ([], []), ([1], [1]), ([0, 2], [0, 2]), ([3], [3]), ([4], [4]), ([4], [4]), ([5, 6, 4], [4, 5, 6]), ([7, 4], [4, 7]), ([8, 4], [4, 8]), ([4], [4]), ([10, 4], [4, 10]), ([9, 11, 4], [4, 9, 11]), ([4, 12], [4, 12])])
def sets_without.B6 : List Nat := [0, 0, 2, 7, 15, 31, 31, 127, 255, 511, 31, 1055, 4095, 8191]
theorem sets_without.tab6 : rtab .any (opsOf Tryz.f53 6) = sets_without.T6 := by kernel_rfl
theorem sets_without.bits6 : waitsOk sets_without.T6.2 sets_without.B6 = true := by kernel_rfl
def sets_without.T9 : Bool × List (List Nat × List Nat) := (true, [([], []), ([], []), ([1], [1]), ([0, 2], [0, 2]), ([3], [3]), ([4], [4]), ([4], [4]), ([5, 6, 4], [4, 5, 6]), ([7, 4], [4, 7]), ([8, 4], [4, 8]), ([4], [4]), ([10, 4], [4, 10]), ([9, 11, 4], [4, 9, 11]), ([4, 12], [4, 12])])
def sets_without.B9 : List Nat := [0, 0, 2, 7, 15, 31, 31, 127, 255, 511, 31, 1055, 4095, 8191]
theorem sets_without.tab9 : rtab .any (opsOf Tryz.f53 9) = sets_without.T9 := by kernel_rfl
theorem sets_without.bits9 : waitsOk sets_without.T9.2 sets_without.B9 = true := by kernel_rfl
def sets_without.T11 : Bool × List (List Nat × List Nat) := (true, [([], []), ([], []), ([0, 1], [0, 1]), ([2], [2]), ([3], [3]), ([], []), ([5], [5]), ([4, 6], [4, 6])])
def sets_without.B11 : List Nat := [0, 0, 3, 7, 15, 0, 32, 127]
theorem sets_without.tab11 : rtab .any (opsOf Tryz.f53 11) = sets_without.T11 := by kernel_rfl
theorem sets_without.bits11 : waitsOk sets_without.T11.2 sets_without.B11 = true := by kernel_rfl
def sets_without.T12 : Bool × List (List Nat × List Nat) := (true, [([], []), ([], []), ([1], [1]), ([], []), ([], []), ([3, 4], [3, 4]), ([5], [5]), ([6], [6]), ([7], [7]), ([2, 8], [2, 8]), ([9], [9]), ([0, 10], [0, 10]), ([11, 11, 0, 1, 2, 3, 4, 5, 6, 7, 8, 9, 10, 11], [0, 11])])
def sets_without.B12 : List Nat := [0, 0, 2, 0, 0, 24, 56, 120, 248, 510, 1022, 2047, 4095]
theorem sets_without.tab12 : rtab .any (opsOf Tryz.f53 12) = sets_without.T12 := by kernel_rfl
theorem sets_without.bits12 : waitsOk sets_without.T12.2 sets_without.B12 = true := by kernel_rfl
set_option maxHeartbeats 8000000 in
set_option maxRecDepth 100000 in
theorem sets_without.calls (k : Nat) (A0 : Option Addr) (c0 : Nat) (l0 : List (S41)) (A1 : Option Addr) (c1 : Nat) (l1 : List (S41)) (r : List (S41)) (w : World) (hr0 : Kd.C k41 w A0 l0.length l0) (hc0 : l0.length ≤ c0) (hr1 : Kd.C k41 w A1 l1.length l1) (hc1 : l1.length ≤ c1) (h : sets_without.f k l0 l1 = some r) :
  Calls Tryz.prog 53 #[.slice A0 l0.length c0, .slice A1 l1.length c1] w fun e w' => ∃ v0_ : Value, e = .returned (v0_) ∧ Kd.R k41 41 w' w.heap.size (fun _ => True) v0_ r ∧ Below w.heap.size w w' := by
 have hu41 := Tryz.underlying41; have HR0 := Aside0.mk hr0; have HC0 := Aside0.mk hc0; clear hr0 hc0; have HR1 := Aside0.mk hr1; have HC1 := Aside0.mk hc1; clear hr1 hc1; have HB : BelC w w := bc0; have H : (sets_without.l0 k l1 ([] : List (S41)) 0 l0 (l0.length : Int) 0) = some r := h; clear h; have H' := Aside0.mk H; clear H; go_enter Tryz.func53, Tryz.ntmps53
 go_wp2
 go_loopg [5, 6, 12] k (fun kq v5 v6 v12 w' => ∃ (x5_1 : List (S41)) (x6_1 : Int) (x12_1 : Int), v6 = .int .i64 x6_1 ∧ v12 = .int .i64 x12_1 ∧ Aside0 (sets_without.l0 kq l1 x5_1 x6_1 l0 (l0.length : Int) x12_1 = some r) ∧ Aside0 (kq ≤ k) ∧ Aside0 (Kd.R k41 41 w' w.heap.size (fun _ => True) v5 x5_1) ∧ BelC w w')
 case atStart => exact ⟨(([] : List (S41))), (0), (0), (by first | rfl | (simp; done) | (simp [*]; done)), (by first | rfl | (simp; done) | (simp [*]; done)), H', ⟨Nat.le_refl _⟩, ⟨by first | exact Kd.R_nil _ _ _ _ _ | exact Kd.N_nil _ _ _ _ _ | exact Kd.V_nil _ _ _ _ _ | exact Kd.Q_nil _ _ _ _ _ | exact Kd.S_nil _ _ _ _ _⟩, ⟨bw⟩⟩
 case round =>
  clear H'
  try clear c1
  try clear p2
  obtain ⟨x5_1, x6_1, x12_1, rfl, rfl, HA, HK1, HO_5, HB⟩ := hrel
  cases gk with
  | zero => exact absurd HA.out (by simp [sets_without.l0])
  | succ k1 =>
   have H := HA.out; clear HA; simp only [sets_without.l0] at H
   by_cases c3 : x12_1 < (l0.length : Int)
   ·
    rw [if_pos c3] at H; have c3b0 : decide (x12_1 < (l0.length : Int)) = true := decide_eq_true c3; clear c3
    by_cases c4 : 0 ≤ x12_1
    ·
     rw [if_pos c4] at H; have c4b0 : decide (0 ≤ x12_1) = true := decide_eq_true c4; clear c4
     by_cases c5 : x12_1 < (l0.length : Int)
     ·
      rw [if_pos c5] at H; have c5b0 : decide (x12_1 < (l0.length : Int)) = true := decide_eq_true c5; clear c5; have HC6 := Aside0.mk H; clear H; have p129 : 0 ≤ (x12_1 : Int) := od (by assumption); have q129 : x12_1 < (l0.length : Int) := od (by assumption); obtain ⟨ad129, e129, hx129_0, hx129_1⟩ := at_T41 HR0.out x12_1 p129 q129
      cases e129
      replace hx129_0 := (HB.out.cell (World.block_lt_of_cell? w _ hx129_0)).trans hx129_0; replace hx129_1 := (HB.out.cell (World.block_lt_of_cell? w _ hx129_1)).trans hx129_1; replace p129 := eq_true p129; replace q129 := eq_true q129
      go_upto_block 2 with (first | ((with_reducible refine gate_dst (N := 8) rfl ?_); refine box_event ?hg (N := 8) ?hd (cs := #[.int .i32 0, .int .i32 0]) (t := 41) ?hr ?_; (case hd => rfl); (case hg => rfl); (case hr => first | (go_simp; done) | (go_simp; rfl)); intro gb130 hg w7 hbox hb; replace HO_5 := Aside0.mk (Kd.R_below (Kd.R_elderB (rl HO_5.out) gb130 (Nat.le_of_eq hg.symm)) hb); have BK130 := Aside0.mk (hbox); have GW130 := Aside0.mk ((by rw [hg]; exact bz : w.heap.size ≤ gb130)); have GE130 := Aside0.mk ((by rw [hg]; exact bz : w.heap.size ≤ gb130)); replace HB : BelC w _ := bs hb; clear hb hbox hg; have hcz8_0 : w7.cell? ⟨gb130, 0, none⟩ = some (.int .i32 0) := (blk_cell BK130.out 0).trans rfl; have hcz8_1 : w7.cell? ⟨gb130, 1, none⟩ = some (.int .i32 0) := (blk_cell BK130.out 1).trans rfl; have hfz8_0 := blk_frozen BK130.out 0; have hfz8_1 := blk_frozen BK130.out 1))
      (try simp only [Act.put, List.setIfInBounds_toArray, List.set_cons_zero, List.set_cons_succ])
      go_cut [6] (fun v6 wc => ∃ (kq : Nat) (x6_5 : Int), v6 = .int .i64 x6_5 ∧ Aside0 (sets_without.j2 kq l1 x5_1 x6_5 l0 (l0.length : Int) x12_1 ((rd_T41 l0 x12_1).f0) ((rd_T41 l0 x12_1).f1) = some r) ∧ Aside0 (kq ≤ k1) ∧ Aside0 (Kd.R k41 41 wc w.heap.size (fun k_ => k_ ≠ gb130) u5 x5_1) ∧ Aside0 (wc.heap[gb130]? = some (.cells #[.int .i32 ((rd_T41 l0 x12_1).f0), .int .i32 ((rd_T41 l0 x12_1).f1)] 41 (0, 0))) ∧ BelC w wc)
      case first =>
       have H := HC6.out; clear HC6; have H' := Aside0.mk H; clear H
       go_wp2
       go_loopg [6] k1 (fun kq v6 w' => ∃ (x6_2 : Int), v6 = .int .i64 x6_2 ∧ Aside0 (sets_without.l1 kq l1 x5_1 x6_2 l0 (l0.length : Int) x12_1 ((rd_T41 l0 x12_1).f0) ((rd_T41 l0 x12_1).f1) = some r) ∧ Aside0 (kq ≤ k1) ∧ Aside0 (Kd.R k41 41 w' w.heap.size (fun k_ => k_ ≠ gb130) u5 x5_1) ∧ Aside0 (w'.heap[gb130]? = some (.cells #[.int .i32 ((rd_T41 l0 x12_1).f0), .int .i32 ((rd_T41 l0 x12_1).f1)] 41 (0, 0))) ∧ BelC w w')
       case atStart => exact ⟨(x6_1), (by first | rfl | (simp; done) | (simp [*]; done)), H', ⟨Nat.le_refl _⟩, ⟨by (with_reducible repeat first | apply Kd.R_alloc | apply Kd.R_drewN | apply Kd.R_drew); exact Kd.R_mono (Kd.R_far (p := ⟨gb130, 1, none⟩) (Kd.R_far (p := ⟨gb130, 0, none⟩) (Kd.R_mono HO_5.out (fun k_ hk => (⟨hk, hk.2⟩ : _ ∧ k_ ≠ gb130))) (fun _ hk => hk.2) (.int .i32 ((rd_T41 l0 x12_1).f0))) (fun _ hk => hk.2) (.int .i32 ((rd_T41 l0 x12_1).f1))) (fun _ hk => hk.1.2)⟩, ⟨by (with_reducible repeat (first | refine blk_drewN ?_ _ | refine blk_drew ?_ | refine blk_alloc ?_ _)); refine blk_put (cs := #[.int .i32 ((rd_T41 l0 x12_1).f0), .int .i32 0]) ?_ 1 _ rfl; (with_reducible repeat (first | refine blk_drewN ?_ _ | refine blk_drew ?_ | refine blk_alloc ?_ _)); refine blk_put (cs := #[.int .i32 0, .int .i32 0]) ?_ 0 _ rfl; (with_reducible repeat (first | refine blk_drewN ?_ _ | refine blk_drew ?_ | refine blk_alloc ?_ _)); exact BK130.out⟩, ⟨by repeat (first | (with_reducible first | exact HB.out | apply below_alloc | apply pw_below_drewN | apply below_drew1 | refine below_set ?_ GE130.out) | exact HB.out)⟩⟩
       case round =>
        clear H'
        try clear c1
        try clear p1
        try clear q1
        try clear hx1
        try clear p2
        try clear c3
        try clear c3b0
        try clear c4
        try clear c4b0
        try clear c5
        try clear c5b0
        try clear hcz8_0
        try clear hcz8_1
        try clear hfz8_0
        try clear hfz8_1
        try clear hx129_0
        try clear hx129_1
        try clear p129
        try clear p2
        try clear q129
        obtain ⟨x6_2, rfl, HA, HK2, HO_5, BK130, HB⟩ := hrel
        cases gk with
        | zero => exact absurd HA.out (by simp [sets_without.l1])
        | succ k2 =>
         have H := HA.out; clear HA; simp only [sets_without.l1] at H
         by_cases c9 : x6_2 < (l1.length : Int)
         ·
          rw [if_pos c9] at H; have c9b0 : decide (x6_2 < (l1.length : Int)) = true := decide_eq_true c9; clear c9
          (first | rw [c9b0] | (simp only [i64_w, i32_w]; rw [c9b0]) | skip)
          by_cases c10 : 0 ≤ x6_2
          ·
           rw [if_pos c10] at H; have c10b0 : decide (0 ≤ x6_2) = true := decide_eq_true c10; clear c10
           by_cases c11 : ((rd_T41 l1 x6_2).f1) < ((rd_T41 l0 x12_1).f0)
           ·
            rw [if_pos c11] at H; have c11b0 : decide (((rd_T41 l1 x6_2).f1) < ((rd_T41 l0 x12_1).f0)) = true := decide_eq_true c11; clear c11; have H' := Aside0.mk H; clear H
            try go_wp2
            replace HO_5 := Aside0.mk (Kd.R_drew HO_5.out); replace BK130 := Aside0.mk (blk_drew BK130.out); replace HB : BelC w _ := ⟨below_drew1 HB.out⟩; have p131 : 0 ≤ (x6_2 : Int) := od (by assumption); have q131 : x6_2 < (l1.length : Int) := od (by assumption); obtain ⟨ad131, e131, hx131_0, hx131_1⟩ := at_T41 HR1.out x6_2 p131 q131; have hw131_1 := hx131_1; have hw131_0 := hx131_0
            cases e131
            replace hx131_0 := (HB.out.cell (World.block_lt_of_cell? w _ hx131_0)).trans hx131_0; replace hx131_1 := (HB.out.cell (World.block_lt_of_cell? w _ hx131_1)).trans hx131_1; replace p131 := eq_true p131; replace q131 := eq_true q131; refine start_ (n := 14) (S := fun w' => w'.cell? ⟨gb130, 0, none⟩ = some (.int .i32 ((rd_T41 l0 x12_1).f0)) ∧ w'.cell? ⟨gb130, 1, none⟩ = some (.int .i32 ((rd_T41 l0 x12_1).f1)) ∧ w'.cell? (ad131.add ((x6_2).toNat * 2)) = some (.int .i32 ((rd_T41 l1 x6_2).f0)) ∧ w'.cell? ⟨(ad131.add ((x6_2).toNat * 2)).block, (ad131.add ((x6_2).toNat * 2)).off + 1, none⟩ = some (.int .i32 ((rd_T41 l1 x6_2).f1))) (ds := []) (bA 14 0) (by kernel_rfl) rfl rfl ⟨(blk_cell BK130.out 0).trans rfl, (blk_cell BK130.out 1).trans rfl, ((HB.out.cell (World.block_lt_of_cell? w _ hw131_0)).trans hw131_0), ((HB.out.cell (World.block_lt_of_cell? w _ hw131_1)).trans hw131_1)⟩ (fun hHeld => ?_); refine with_tabW sets_without.tab6 sets_without.bits6 (fun HT_ HW_ => ?_)
            generalize wr.drew = w12 at HO_5 BK130 HB hx131_0 hx131_1 hHeld ⊢
            refine pure_ (i := 0) (N := some 16) (v := ?_) (a' := ?_) (bA 14 1) rfl rfl (any_of HT_.out (by kernel_rfl)) (fun _ _ _ h => h) (Or.inl ⟨by rfl, ?_⟩) ?_ ?_; rotate_left
            ·
             intro w'; go_simp; (with_reducible rfl)
            rotate_left
            ·
             simp only [Act.put, List.setIfInBounds_toArray, List.set_cons_zero, List.set_cons_succ, i64_w, i32_w]; rfl
            refine pure_ (i := 1) (N := some 17) (v := ?_) (a' := ?_) (bA 14 3) rfl rfl (any_of HT_.out (by kernel_rfl)) (fun _ _ _ h => h) (Or.inl ⟨by rfl, ?_⟩) ?_ ?_; rotate_left
            ·
             intro w'; go_simp; (with_reducible rfl)
            rotate_left
            ·
             simp only [Act.put, List.setIfInBounds_toArray, List.set_cons_zero, List.set_cons_succ, i64_w, i32_w]; rfl
            refine pure_ (i := 2) (N := some 18) (v := ?_) (a' := ?_) (bA 14 7) rfl rfl (any_of HT_.out (by kernel_rfl)) (fun _ _ _ h => h) (Or.inl ⟨by rfl, ?_⟩) ?_ ?_; rotate_left
            ·
             intro w'; go_simp; (with_reducible rfl)
            rotate_left
            ·
             simp only [Act.put, List.setIfInBounds_toArray, List.set_cons_zero, List.set_cons_succ, i64_w, i32_w]; rfl
            refine pure_ (i := 3) (N := some 19) (v := ?_) (a' := ?_) (bA 14 15) rfl rfl (any_of HT_.out (by kernel_rfl)) (fun _ _ _ h => h) (Or.inl ⟨by rfl, ?_⟩) ?_ ?_; rotate_left
            ·
             intro w'; go_simp; (with_reducible rfl)
            rotate_left
            ·
             simp only [Act.put, List.setIfInBounds_toArray, List.set_cons_zero, List.set_cons_succ, i64_w, i32_w]; rfl
            refine pure_ (i := 4) (N := some 20) (v := ?_) (a' := ?_) (bA 14 31) rfl rfl (any_of HT_.out (by kernel_rfl)) (fun _ _ _ h => h) (Or.inl ⟨by rfl, ?_⟩) ?_ ?_; rotate_left
            ·
             intro w'; go_simp; (with_reducible rfl)
            rotate_left
            ·
             simp only [Act.put, List.setIfInBounds_toArray, List.set_cons_zero, List.set_cons_succ, i64_w, i32_w]; rfl
            refine pure_ (i := 5) (N := some 21) (v := ?_) (a' := ?_) (bA 14 63) rfl rfl (any_of HT_.out (by kernel_rfl)) (fun _ _ _ h => h) (Or.inl ⟨by rfl, ?_⟩) ?_ ?_; rotate_left
            ·
             intro w'; go_simp; (with_reducible rfl)
            rotate_left
            ·
             simp only [Act.put, List.setIfInBounds_toArray, List.set_cons_zero, List.set_cons_succ, i64_w, i32_w]; rfl
            refine pure_ (i := 6) (N := some 22) (v := ?_) (a' := ?_) (bA 14 127) rfl rfl (any_of HT_.out (by kernel_rfl)) (fun _ _ _ h => h) (Or.inl ⟨by rfl, ?_⟩) ?_ ?_; rotate_left
            ·
             intro w'; go_simp; (with_reducible rfl)
            rotate_left
            ·
             simp only [Act.put, List.setIfInBounds_toArray, List.set_cons_zero, List.set_cons_succ, i64_w, i32_w]; rfl
            refine pure_ (i := 7) (N := some 23) (v := ?_) (a' := ?_) (bA 14 255) rfl rfl (any_of HT_.out (by kernel_rfl)) (fun _ _ _ h => h) (Or.inl ⟨by rfl, ?_⟩) ?_ ?_; rotate_left
            ·
             intro w'; go_simp; (with_reducible rfl)
            rotate_left
            ·
             simp only [Act.put, List.setIfInBounds_toArray, List.set_cons_zero, List.set_cons_succ, i64_w, i32_w]; rfl
            refine pure_ (i := 8) (N := some 24) (v := ?_) (a' := ?_) (bA 14 511) rfl rfl (any_of HT_.out (by kernel_rfl)) (fun _ _ _ h => h) (Or.inl ⟨by rfl, ?_⟩) ?_ ?_; rotate_left
            ·
             intro w'; go_simp; (with_reducible rfl)
            rotate_left
            ·
             simp only [Act.put, List.setIfInBounds_toArray, List.set_cons_zero, List.set_cons_succ, i64_w, i32_w]; rfl
            refine pure_ (i := 10) (N := some 26) (v := ?_) (a' := ?_) (bA 14 1535) rfl rfl (any_of HT_.out (by kernel_rfl)) (fun _ _ _ h => h) (Or.inl ⟨by rfl, ?_⟩) ?_ ?_; rotate_left
            ·
             intro w'; go_simp; (with_reducible rfl)
            rotate_left
            ·
             simp only [Act.put, List.setIfInBounds_toArray, List.set_cons_zero, List.set_cons_succ, i64_w, i32_w]; rfl
            refine take_ (i := 9) (N := some 25) (v := ?_) (a' := ?_) (bA 14 2047) rfl rfl (take_ofW HT_.out HW_.out (by kernel_rfl)) (fun _ _ _ h => h) (Or.inl ⟨by rfl, ?_⟩) hHeld ?_ ?_; rotate_left
            ·
             rintro w' ⟨s0, s1, s2, s3⟩; go_simp; (with_reducible rfl)
            rotate_left
            ·
             simp only [Act.put, List.setIfInBounds_toArray, List.set_cons_zero, List.set_cons_succ, i64_w, i32_w]; rfl
            refine take_ (i := 11) (N := some 27) (v := ?_) (a' := ?_) (bA 14 4095) rfl rfl (take_ofW HT_.out HW_.out (by kernel_rfl)) (fun _ _ _ h => h) (Or.inl ⟨by rfl, ?_⟩) hHeld ?_ ?_; rotate_left
            ·
             rintro w' ⟨s0, s1, s2, s3⟩; go_simp; (with_reducible rfl)
            rotate_left
            ·
             simp only [Act.put, List.setIfInBounds_toArray, List.set_cons_zero, List.set_cons_succ, i64_w, i32_w]; rfl
            refine pure_ (i := 12) (N := some 28) (v := ?_) (a' := ?_) (bA 14 8191) rfl rfl (any_of HT_.out (by kernel_rfl)) (fun _ _ _ h => h) (Or.inl ⟨by rfl, ?_⟩) ?_ ?_; rotate_left
            ·
             intro w'; go_simp; (with_reducible rfl)
            rotate_left
            ·
             simp only [Act.put, List.setIfInBounds_toArray, List.set_cons_zero, List.set_cons_succ, i64_w, i32_w]; rfl
            refine pure_ (i := 13) (N := some 29) (v := ?_) (a' := ?_) (bA 14 16383) rfl rfl (any_of HT_.out (by kernel_rfl)) (fun _ _ _ h => h) (Or.inl ⟨by rfl, ?_⟩) ?_ ?_; rotate_left
            ·
             intro w'; go_simp; (with_reducible rfl)
            rotate_left
            ·
             simp only [Act.put, List.setIfInBounds_toArray, List.set_cons_zero, List.set_cons_succ, i64_w, i32_w]; rfl
            refine done_ (done_of HT_.out (by kernel_rfl)) ?_
            try go_wp2
            go_roundg k2
            case measure => have := HK1.out; have := HK2.out; omega
            case rel => exact ⟨(wrap64 (x6_2 + 1)), (by first | rfl | (simp; done) | (simp [*]; done)), H', ⟨by have := HK1.out; have := HK2.out; omega⟩, ⟨rl HO_5.out⟩, ⟨by (with_reducible repeat (first | refine blk_drewN ?_ _ | refine blk_drew ?_ | refine blk_alloc ?_ _)); exact BK130.out⟩, ⟨by repeat (first | (with_reducible first | exact HB.out | apply below_alloc | apply pw_below_drewN | apply below_drew1 | refine below_set ?_ GE130.out) | exact HB.out)⟩⟩
           ·
            rw [if_neg c11] at H; have c11b0 : decide (((rd_T41 l1 x6_2).f1) < ((rd_T41 l0 x12_1).f0)) = false := decide_eq_false c11; clear c11; have H' := Aside0.mk H; clear H
            try go_wp2
            replace HO_5 := Aside0.mk (Kd.R_drew HO_5.out); replace BK130 := Aside0.mk (blk_drew BK130.out); replace HB : BelC w _ := ⟨below_drew1 HB.out⟩; have p131 : 0 ≤ (x6_2 : Int) := od (by assumption); have q131 : x6_2 < (l1.length : Int) := od (by assumption); obtain ⟨ad131, e131, hx131_0, hx131_1⟩ := at_T41 HR1.out x6_2 p131 q131; have hw131_1 := hx131_1; have hw131_0 := hx131_0
            cases e131
            replace hx131_0 := (HB.out.cell (World.block_lt_of_cell? w _ hx131_0)).trans hx131_0; replace hx131_1 := (HB.out.cell (World.block_lt_of_cell? w _ hx131_1)).trans hx131_1; replace p131 := eq_true p131; replace q131 := eq_true q131; refine start_ (n := 14) (S := fun w' => w'.cell? ⟨gb130, 0, none⟩ = some (.int .i32 ((rd_T41 l0 x12_1).f0)) ∧ w'.cell? ⟨gb130, 1, none⟩ = some (.int .i32 ((rd_T41 l0 x12_1).f1)) ∧ w'.cell? (ad131.add ((x6_2).toNat * 2)) = some (.int .i32 ((rd_T41 l1 x6_2).f0)) ∧ w'.cell? ⟨(ad131.add ((x6_2).toNat * 2)).block, (ad131.add ((x6_2).toNat * 2)).off + 1, none⟩ = some (.int .i32 ((rd_T41 l1 x6_2).f1))) (ds := []) (bA 14 0) (by kernel_rfl) rfl rfl ⟨(blk_cell BK130.out 0).trans rfl, (blk_cell BK130.out 1).trans rfl, ((HB.out.cell (World.block_lt_of_cell? w _ hw131_0)).trans hw131_0), ((HB.out.cell (World.block_lt_of_cell? w _ hw131_1)).trans hw131_1)⟩ (fun hHeld => ?_); refine with_tabW sets_without.tab6 sets_without.bits6 (fun HT_ HW_ => ?_)
            generalize wr.drew = w13 at HO_5 BK130 HB hx131_0 hx131_1 hHeld ⊢
            refine pure_ (i := 0) (N := some 16) (v := ?_) (a' := ?_) (bA 14 1) rfl rfl (any_of HT_.out (by kernel_rfl)) (fun _ _ _ h => h) (Or.inl ⟨by rfl, ?_⟩) ?_ ?_; rotate_left
            ·
             intro w'; go_simp; (with_reducible rfl)
            rotate_left
            ·
             simp only [Act.put, List.setIfInBounds_toArray, List.set_cons_zero, List.set_cons_succ, i64_w, i32_w]; rfl
            refine pure_ (i := 1) (N := some 17) (v := ?_) (a' := ?_) (bA 14 3) rfl rfl (any_of HT_.out (by kernel_rfl)) (fun _ _ _ h => h) (Or.inl ⟨by rfl, ?_⟩) ?_ ?_; rotate_left
            ·
             intro w'; go_simp; (with_reducible rfl)
            rotate_left
            ·
             simp only [Act.put, List.setIfInBounds_toArray, List.set_cons_zero, List.set_cons_succ, i64_w, i32_w]; rfl
            refine pure_ (i := 2) (N := some 18) (v := ?_) (a' := ?_) (bA 14 7) rfl rfl (any_of HT_.out (by kernel_rfl)) (fun _ _ _ h => h) (Or.inl ⟨by rfl, ?_⟩) ?_ ?_; rotate_left
            ·
             intro w'; go_simp; (with_reducible rfl)
            rotate_left
            ·
             simp only [Act.put, List.setIfInBounds_toArray, List.set_cons_zero, List.set_cons_succ, i64_w, i32_w]; rfl
            refine pure_ (i := 3) (N := some 19) (v := ?_) (a' := ?_) (bA 14 15) rfl rfl (any_of HT_.out (by kernel_rfl)) (fun _ _ _ h => h) (Or.inl ⟨by rfl, ?_⟩) ?_ ?_; rotate_left
            ·
             intro w'; go_simp; (with_reducible rfl)
            rotate_left
            ·
             simp only [Act.put, List.setIfInBounds_toArray, List.set_cons_zero, List.set_cons_succ, i64_w, i32_w]; rfl
            refine pure_ (i := 4) (N := some 20) (v := ?_) (a' := ?_) (bA 14 31) rfl rfl (any_of HT_.out (by kernel_rfl)) (fun _ _ _ h => h) (Or.inl ⟨by rfl, ?_⟩) ?_ ?_; rotate_left
            ·
             intro w'; go_simp; (with_reducible rfl)
            rotate_left
            ·
             simp only [Act.put, List.setIfInBounds_toArray, List.set_cons_zero, List.set_cons_succ, i64_w, i32_w]; rfl
            refine pure_ (i := 5) (N := some 21) (v := ?_) (a' := ?_) (bA 14 63) rfl rfl (any_of HT_.out (by kernel_rfl)) (fun _ _ _ h => h) (Or.inl ⟨by rfl, ?_⟩) ?_ ?_; rotate_left
            ·
             intro w'; go_simp; (with_reducible rfl)
            rotate_left
            ·
             simp only [Act.put, List.setIfInBounds_toArray, List.set_cons_zero, List.set_cons_succ, i64_w, i32_w]; rfl
            refine pure_ (i := 6) (N := some 22) (v := ?_) (a' := ?_) (bA 14 127) rfl rfl (any_of HT_.out (by kernel_rfl)) (fun _ _ _ h => h) (Or.inl ⟨by rfl, ?_⟩) ?_ ?_; rotate_left
            ·
             intro w'; go_simp; (with_reducible rfl)
            rotate_left
            ·
             simp only [Act.put, List.setIfInBounds_toArray, List.set_cons_zero, List.set_cons_succ, i64_w, i32_w]; rfl
            refine pure_ (i := 7) (N := some 23) (v := ?_) (a' := ?_) (bA 14 255) rfl rfl (any_of HT_.out (by kernel_rfl)) (fun _ _ _ h => h) (Or.inl ⟨by rfl, ?_⟩) ?_ ?_; rotate_left
            ·
             intro w'; go_simp; (with_reducible rfl)
            rotate_left
            ·
             simp only [Act.put, List.setIfInBounds_toArray, List.set_cons_zero, List.set_cons_succ, i64_w, i32_w]; rfl
            refine pure_ (i := 8) (N := some 24) (v := ?_) (a' := ?_) (bA 14 511) rfl rfl (any_of HT_.out (by kernel_rfl)) (fun _ _ _ h => h) (Or.inl ⟨by rfl, ?_⟩) ?_ ?_; rotate_left
            ·
             intro w'; go_simp; (with_reducible rfl)
            rotate_left
            ·
             simp only [Act.put, List.setIfInBounds_toArray, List.set_cons_zero, List.set_cons_succ, i64_w, i32_w]; rfl
            refine pure_ (i := 10) (N := some 26) (v := ?_) (a' := ?_) (bA 14 1535) rfl rfl (any_of HT_.out (by kernel_rfl)) (fun _ _ _ h => h) (Or.inl ⟨by rfl, ?_⟩) ?_ ?_; rotate_left
            ·
             intro w'; go_simp; (with_reducible rfl)
            rotate_left
            ·
             simp only [Act.put, List.setIfInBounds_toArray, List.set_cons_zero, List.set_cons_succ, i64_w, i32_w]; rfl
            refine take_ (i := 9) (N := some 25) (v := ?_) (a' := ?_) (bA 14 2047) rfl rfl (take_ofW HT_.out HW_.out (by kernel_rfl)) (fun _ _ _ h => h) (Or.inl ⟨by rfl, ?_⟩) hHeld ?_ ?_; rotate_left
            ·
             rintro w' ⟨s0, s1, s2, s3⟩; go_simp; (with_reducible rfl)
            rotate_left
            ·
             simp only [Act.put, List.setIfInBounds_toArray, List.set_cons_zero, List.set_cons_succ, i64_w, i32_w]; rfl
            refine take_ (i := 11) (N := some 27) (v := ?_) (a' := ?_) (bA 14 4095) rfl rfl (take_ofW HT_.out HW_.out (by kernel_rfl)) (fun _ _ _ h => h) (Or.inl ⟨by rfl, ?_⟩) hHeld ?_ ?_; rotate_left
            ·
             rintro w' ⟨s0, s1, s2, s3⟩; go_simp; (with_reducible rfl)
            rotate_left
            ·
             simp only [Act.put, List.setIfInBounds_toArray, List.set_cons_zero, List.set_cons_succ, i64_w, i32_w]; rfl
            refine pure_ (i := 12) (N := some 28) (v := ?_) (a' := ?_) (bA 14 8191) rfl rfl (any_of HT_.out (by kernel_rfl)) (fun _ _ _ h => h) (Or.inl ⟨by rfl, ?_⟩) ?_ ?_; rotate_left
            ·
             intro w'; go_simp; (with_reducible rfl)
            rotate_left
            ·
             simp only [Act.put, List.setIfInBounds_toArray, List.set_cons_zero, List.set_cons_succ, i64_w, i32_w]; rfl
            refine pure_ (i := 13) (N := some 29) (v := ?_) (a' := ?_) (bA 14 16383) rfl rfl (any_of HT_.out (by kernel_rfl)) (fun _ _ _ h => h) (Or.inl ⟨by rfl, ?_⟩) ?_ ?_; rotate_left
            ·
             intro w'; go_simp; (with_reducible rfl)
            rotate_left
            ·
             simp only [Act.put, List.setIfInBounds_toArray, List.set_cons_zero, List.set_cons_succ, i64_w, i32_w]; rfl
            refine done_ (done_of HT_.out (by kernel_rfl)) ?_
            try go_wp2
            go_meet
            case rel => exact ⟨_, (x6_2), (by first | rfl | (simp; done) | (simp [*]; done)), H', ⟨by have := HK1.out; have := HK2.out; first | omega | exact Nat.le_refl _⟩, ⟨rl HO_5.out⟩, ⟨by (with_reducible repeat (first | refine blk_drewN ?_ _ | refine blk_drew ?_ | refine blk_alloc ?_ _)); exact BK130.out⟩, ⟨by repeat (first | (with_reducible first | exact HB.out | apply below_alloc | apply pw_below_drewN | apply below_drew1 | refine below_set ?_ GE130.out) | exact HB.out)⟩⟩
          ·
           rw [if_neg c10] at H; exact absurd H (by simp)
         ·
          rw [if_neg c9] at H; have c9b0 : decide (x6_2 < (l1.length : Int)) = false := decide_eq_false c9; clear c9
          (first | rw [c9b0] | (simp only [i64_w, i32_w]; rw [c9b0]) | skip)
          have H' := Aside0.mk H; clear H
          try go_wp2
          replace HO_5 := Aside0.mk (Kd.R_drew HO_5.out); replace BK130 := Aside0.mk (blk_drew BK130.out); replace HB : BelC w _ := ⟨below_drew1 HB.out⟩; refine start_ (n := 14) (S := fun w' => True) (ds := []) (bA 14 0) (by kernel_rfl) rfl rfl trivial (fun hHeld => ?_); refine with_tabW sets_without.tab6 sets_without.bits6 (fun HT_ HW_ => ?_)
          generalize wr.drew = w14 at HO_5 BK130 HB hHeld ⊢
          refine pure_ (i := 0) (N := some 16) (v := ?_) (a' := ?_) (bA 14 1) rfl rfl (any_of HT_.out (by kernel_rfl)) (fun _ _ _ h => h) (Or.inl ⟨by rfl, ?_⟩) ?_ ?_; rotate_left
          ·
           intro w'; go_simp; (with_reducible rfl)
          rotate_left
          ·
           simp only [Act.put, List.setIfInBounds_toArray, List.set_cons_zero, List.set_cons_succ, i64_w, i32_w]; rfl
          refine pure_ (i := 1) (N := some 17) (v := ?_) (a' := ?_) (bA 14 3) rfl rfl (any_of HT_.out (by kernel_rfl)) (fun _ _ _ h => h) (Or.inl ⟨by rfl, ?_⟩) ?_ ?_; rotate_left
          ·
           intro w'; go_simp; (with_reducible rfl)
          rotate_left
          ·
           simp only [Act.put, List.setIfInBounds_toArray, List.set_cons_zero, List.set_cons_succ, i64_w, i32_w]; rfl
          refine pure_ (i := 2) (N := some 18) (v := ?_) (a' := ?_) (bA 14 7) rfl rfl (any_of HT_.out (by kernel_rfl)) (fun _ _ _ h => h) (Or.inl ⟨by rfl, ?_⟩) ?_ ?_; rotate_left
          ·
           intro w'; go_simp; (with_reducible rfl)
          rotate_left
          ·
           simp only [Act.put, List.setIfInBounds_toArray, List.set_cons_zero, List.set_cons_succ, i64_w, i32_w]; rfl
          refine pure_ (i := 3) (N := some 19) (v := ?_) (a' := ?_) (bA 14 15) rfl rfl (any_of HT_.out (by kernel_rfl)) (fun _ _ _ h => h) (Or.inl ⟨by rfl, ?_⟩) ?_ ?_; rotate_left
          ·
           intro w'; go_simp; (with_reducible rfl)
          rotate_left
          ·
           simp only [Act.put, List.setIfInBounds_toArray, List.set_cons_zero, List.set_cons_succ, i64_w, i32_w]; rfl
          refine pure_ (i := 4) (N := some 20) (v := ?_) (a' := ?_) (bA 14 31) rfl rfl (any_of HT_.out (by kernel_rfl)) (fun _ _ _ h => h) (Or.inl ⟨by rfl, ?_⟩) ?_ ?_; rotate_left
          ·
           intro w'; go_simp; (with_reducible rfl)
          rotate_left
          ·
           simp only [Act.put, List.setIfInBounds_toArray, List.set_cons_zero, List.set_cons_succ, i64_w, i32_w]; rfl
          refine pure_ (i := 5) (N := some 21) (v := undef) (a' := ?_) (bA 14 63) rfl rfl (any_of HT_.out (by kernel_rfl)) (fun _ _ _ h => h) (Or.inr ⟨by rfl, rfl⟩) ?_ ?_; rotate_left
          ·
           simp only [Act.put, List.setIfInBounds_toArray, List.set_cons_zero, List.set_cons_succ, i64_w, i32_w]; rfl
          refine pure_ (i := 6) (N := some 22) (v := undef) (a' := ?_) (bA 14 127) rfl rfl (any_of HT_.out (by kernel_rfl)) (fun _ _ _ h => h) (Or.inr ⟨by rfl, rfl⟩) ?_ ?_; rotate_left
          ·
           simp only [Act.put, List.setIfInBounds_toArray, List.set_cons_zero, List.set_cons_succ, i64_w, i32_w]; rfl
          refine pure_ (i := 7) (N := some 23) (v := undef) (a' := ?_) (bA 14 255) rfl rfl (any_of HT_.out (by kernel_rfl)) (fun _ _ _ h => h) (Or.inr ⟨by rfl, rfl⟩) ?_ ?_; rotate_left
          ·
           simp only [Act.put, List.setIfInBounds_toArray, List.set_cons_zero, List.set_cons_succ, i64_w, i32_w]; rfl
          refine pure_ (i := 8) (N := some 24) (v := undef) (a' := ?_) (bA 14 511) rfl rfl (any_of HT_.out (by kernel_rfl)) (fun _ _ _ h => h) (Or.inr ⟨by rfl, rfl⟩) ?_ ?_; rotate_left
          ·
           simp only [Act.put, List.setIfInBounds_toArray, List.set_cons_zero, List.set_cons_succ, i64_w, i32_w]; rfl
          refine pure_ (i := 9) (N := some 25) (v := undef) (a' := ?_) (bA 14 1023) rfl rfl (any_of HT_.out (by kernel_rfl)) (fun _ _ _ h => h) (Or.inr ⟨by rfl, rfl⟩) ?_ ?_; rotate_left
          ·
           simp only [Act.put, List.setIfInBounds_toArray, List.set_cons_zero, List.set_cons_succ, i64_w, i32_w]; rfl
          refine pure_ (i := 10) (N := some 26) (v := undef) (a' := ?_) (bA 14 2047) rfl rfl (any_of HT_.out (by kernel_rfl)) (fun _ _ _ h => h) (Or.inr ⟨by rfl, rfl⟩) ?_ ?_; rotate_left
          ·
           simp only [Act.put, List.setIfInBounds_toArray, List.set_cons_zero, List.set_cons_succ, i64_w, i32_w]; rfl
          refine pure_ (i := 11) (N := some 27) (v := undef) (a' := ?_) (bA 14 4095) rfl rfl (any_of HT_.out (by kernel_rfl)) (fun _ _ _ h => h) (Or.inr ⟨by rfl, rfl⟩) ?_ ?_; rotate_left
          ·
           simp only [Act.put, List.setIfInBounds_toArray, List.set_cons_zero, List.set_cons_succ, i64_w, i32_w]; rfl
          refine pure_ (i := 12) (N := some 28) (v := undef) (a' := ?_) (bA 14 8191) rfl rfl (any_of HT_.out (by kernel_rfl)) (fun _ _ _ h => h) (Or.inr ⟨by rfl, rfl⟩) ?_ ?_; rotate_left
          ·
           simp only [Act.put, List.setIfInBounds_toArray, List.set_cons_zero, List.set_cons_succ, i64_w, i32_w]; rfl
          refine pure_ (i := 13) (N := some 29) (v := ?_) (a' := ?_) (bA 14 16383) rfl rfl (any_of HT_.out (by kernel_rfl)) (fun _ _ _ h => h) (Or.inl ⟨by rfl, ?_⟩) ?_ ?_; rotate_left
          ·
           intro w'; go_simp; (with_reducible rfl)
          rotate_left
          ·
           simp only [Act.put, List.setIfInBounds_toArray, List.set_cons_zero, List.set_cons_succ, i64_w, i32_w]; rfl
          refine done_ (done_of HT_.out (by kernel_rfl)) ?_
          try go_wp2
          go_meet
          case rel => exact ⟨_, (x6_2), (by first | rfl | (simp; done) | (simp [*]; done)), H', ⟨by have := HK1.out; have := HK2.out; first | omega | exact Nat.le_refl _⟩, ⟨rl HO_5.out⟩, ⟨by (with_reducible repeat (first | refine blk_drewN ?_ _ | refine blk_drew ?_ | refine blk_alloc ?_ _)); exact BK130.out⟩, ⟨by repeat (first | (with_reducible first | exact HB.out | apply below_alloc | apply pw_below_drewN | apply below_drew1 | refine below_set ?_ GE130.out) | exact HB.out)⟩⟩
      case rest =>
       clear HC6
       try clear c1
       try clear p1
       try clear q1
       try clear hx1
       try clear p2
       try clear c3
       try clear c3b0
       try clear c4
       try clear c4b0
       try clear c5
       try clear c5b0
       try clear p6
       try clear c9
       try clear c9b0
       try clear c10
       try clear c10b0
       try clear c11
       try clear c11b0
       try clear p12
       try clear q12
       try clear hx12
       try clear p13
       try clear q13
       try clear hx13
       try clear hcz8_0
       try clear hcz8_1
       try clear hfz8_0
       try clear hfz8_1
       try clear hx129_0
       try clear hx129_1
       try clear hx131_0
       try clear hx131_1
       try clear p1
       try clear p129
       try clear p131
       try clear p2
       try clear q1
       try clear q129
       try clear q131
       obtain ⟨kq, x6_5, rfl, HA, HJ5, HO_5, BK130, HB⟩ := hcut
       cases kq with
       | zero => exact absurd HA.out (by simp [sets_without.j2])
       | succ kj5 =>
        have H := HA.out; clear HA; simp only [sets_without.j2] at H; have H' := Aside0.mk H; clear H
        go_wp2
        go_loopg [5, 9] kj5 (fun kq v5 v9 w' => ∃ (x5_3 : List (S41)) (x9_3 : Int) (x131000_3 : Int), v9 = .int .i64 x9_3 ∧ Aside0 (sets_without.l2 kq l1 x5_3 x6_5 x9_3 l0 (l0.length : Int) x12_1 x131000_3 ((rd_T41 l0 x12_1).f1) = some r) ∧ Aside0 (kq ≤ kj5) ∧ Aside0 (Kd.R k41 41 w' w.heap.size (fun k_ => k_ ≠ gb130) v5 x5_3) ∧ Aside0 (w'.heap[gb130]? = some (.cells #[.int .i32 x131000_3, .int .i32 ((rd_T41 l0 x12_1).f1)] 41 (0, 0))) ∧ BelC w w')
        case atStart => exact ⟨(x5_1), (x6_5), (((rd_T41 l0 x12_1).f0)), (by first | rfl | (simp; done) | (simp [*]; done)), H', ⟨Nat.le_refl _⟩, ⟨rl HO_5.out⟩, ⟨by (with_reducible repeat (first | refine blk_drewN ?_ _ | refine blk_drew ?_ | refine blk_alloc ?_ _)); exact BK130.out⟩, ⟨by repeat (first | (with_reducible first | exact HB.out | apply below_alloc | apply pw_below_drewN | apply below_drew1 | refine below_set ?_ GE130.out) | exact HB.out)⟩⟩
        case round =>
         clear H'
         try clear c1
         try clear p1
         try clear q1
         try clear hx1
         try clear p2
         try clear c3
         try clear c3b0
         try clear c4
         try clear c4b0
         try clear c5
         try clear c5b0
         try clear p6
         try clear c9
         try clear c9b0
         try clear c10
         try clear c10b0
         try clear c11
         try clear c11b0
         try clear p12
         try clear q12
         try clear hx12
         try clear p13
         try clear q13
         try clear hx13
         try clear hcz8_0
         try clear hcz8_1
         try clear hfz8_0
         try clear hfz8_1
         try clear hx129_0
         try clear hx129_1
         try clear hx131_0
         try clear hx131_1
         try clear p1
         try clear p12
         try clear p129
         try clear p13
         try clear p131
         try clear p2
         try clear p6
         try clear q1
         try clear q12
         try clear q129
         try clear q13
         try clear q131
         obtain ⟨x5_3, x9_3, x131000_3, rfl, HA, HK3, HO_5, BK130, HB⟩ := hrel
         cases gk with
         | zero => exact absurd HA.out (by simp [sets_without.l2])
         | succ k3 =>
          have H := HA.out; clear HA; simp only [sets_without.l2] at H; have HC15 := Aside0.mk H; clear H
          go_upto_region 9 with (fail)
          go_cut [46] (fun v46 wc => ∃ (kq : Nat) (x46_14 : Bool), v46 = .bool x46_14 ∧ Aside0 (sets_without.j4 kq l1 x5_3 x6_5 x9_3 l0 (l0.length : Int) x12_1 x46_14 x131000_3 ((rd_T41 l0 x12_1).f1) = some r) ∧ Aside0 (kq ≤ k3) ∧ Aside0 (Kd.R k41 41 wc w.heap.size (fun k_ => k_ ≠ gb130) u5 x5_3) ∧ Aside0 (wc.heap[gb130]? = some (.cells #[.int .i32 x131000_3, .int .i32 ((rd_T41 l0 x12_1).f1)] 41 (0, 0))) ∧ BelC w wc)
          case first =>
           have H := HC15.out; clear HC15
           by_cases c16 : x9_3 < (l1.length : Int)
           ·
            rw [if_pos c16] at H; have c16b0 : decide (x9_3 < (l1.length : Int)) = true := decide_eq_true c16; clear c16
            (first | rw [c16b0] | (simp only [i64_w, i32_w]; rw [c16b0]) | skip)
            by_cases c17 : 0 ≤ x9_3
            ·
             rw [if_pos c17] at H; have c17b0 : decide (0 ≤ x9_3) = true := decide_eq_true c17; clear c17; have H' := Aside0.mk H; clear H
             try go_wp2
             replace HO_5 := Aside0.mk (Kd.R_drew HO_5.out); replace BK130 := Aside0.mk (blk_drew BK130.out); replace HB : BelC w _ := ⟨below_drew1 HB.out⟩; have p132 : 0 ≤ (x9_3 : Int) := od (by assumption); have q132 : x9_3 < (l1.length : Int) := od (by assumption); obtain ⟨ad132, e132, hx132_0, hx132_1⟩ := at_T41 HR1.out x9_3 p132 q132; have hw132_1 := hx132_1; have hw132_0 := hx132_0
             cases e132
             replace hx132_0 := (HB.out.cell (World.block_lt_of_cell? w _ hx132_0)).trans hx132_0; replace hx132_1 := (HB.out.cell (World.block_lt_of_cell? w _ hx132_1)).trans hx132_1; replace p132 := eq_true p132; replace q132 := eq_true q132; refine start_ (n := 14) (S := fun w' => w'.cell? ⟨gb130, 0, none⟩ = some (.int .i32 x131000_3) ∧ w'.cell? ⟨gb130, 1, none⟩ = some (.int .i32 ((rd_T41 l0 x12_1).f1)) ∧ w'.cell? (ad132.add ((x9_3).toNat * 2)) = some (.int .i32 ((rd_T41 l1 x9_3).f0)) ∧ w'.cell? ⟨(ad132.add ((x9_3).toNat * 2)).block, (ad132.add ((x9_3).toNat * 2)).off + 1, none⟩ = some (.int .i32 ((rd_T41 l1 x9_3).f1))) (ds := []) (bA 14 0) (by kernel_rfl) rfl rfl ⟨(blk_cell BK130.out 0).trans rfl, (blk_cell BK130.out 1).trans rfl, ((HB.out.cell (World.block_lt_of_cell? w _ hw132_0)).trans hw132_0), ((HB.out.cell (World.block_lt_of_cell? w _ hw132_1)).trans hw132_1)⟩ (fun hHeld => ?_); refine with_tabW sets_without.tab9 sets_without.bits9 (fun HT_ HW_ => ?_)
             generalize wr.drew = w18 at HO_5 BK130 HB hx132_0 hx132_1 hHeld ⊢
             refine pure_ (i := 0) (N := some 33) (v := ?_) (a' := ?_) (bA 14 1) rfl rfl (any_of HT_.out (by kernel_rfl)) (fun _ _ _ h => h) (Or.inl ⟨by rfl, ?_⟩) ?_ ?_; rotate_left
             ·
              intro w'; go_simp; (with_reducible rfl)
             rotate_left
             ·
              simp only [Act.put, List.setIfInBounds_toArray, List.set_cons_zero, List.set_cons_succ, i64_w, i32_w]; rfl
             refine pure_ (i := 1) (N := some 34) (v := ?_) (a' := ?_) (bA 14 3) rfl rfl (any_of HT_.out (by kernel_rfl)) (fun _ _ _ h => h) (Or.inl ⟨by rfl, ?_⟩) ?_ ?_; rotate_left
             ·
              intro w'; go_simp; (with_reducible rfl)
             rotate_left
             ·
              simp only [Act.put, List.setIfInBounds_toArray, List.set_cons_zero, List.set_cons_succ, i64_w, i32_w]; rfl
             refine pure_ (i := 2) (N := some 35) (v := ?_) (a' := ?_) (bA 14 7) rfl rfl (any_of HT_.out (by kernel_rfl)) (fun _ _ _ h => h) (Or.inl ⟨by rfl, ?_⟩) ?_ ?_; rotate_left
             ·
              intro w'; go_simp; (with_reducible rfl)
             rotate_left
             ·
              simp only [Act.put, List.setIfInBounds_toArray, List.set_cons_zero, List.set_cons_succ, i64_w, i32_w]; rfl
             refine pure_ (i := 3) (N := some 36) (v := ?_) (a' := ?_) (bA 14 15) rfl rfl (any_of HT_.out (by kernel_rfl)) (fun _ _ _ h => h) (Or.inl ⟨by rfl, ?_⟩) ?_ ?_; rotate_left
             ·
              intro w'; go_simp; (with_reducible rfl)
             rotate_left
             ·
              simp only [Act.put, List.setIfInBounds_toArray, List.set_cons_zero, List.set_cons_succ, i64_w, i32_w]; rfl
             refine pure_ (i := 4) (N := some 37) (v := ?_) (a' := ?_) (bA 14 31) rfl rfl (any_of HT_.out (by kernel_rfl)) (fun _ _ _ h => h) (Or.inl ⟨by rfl, ?_⟩) ?_ ?_; rotate_left
             ·
              intro w'; go_simp; (with_reducible rfl)
             rotate_left
             ·
              simp only [Act.put, List.setIfInBounds_toArray, List.set_cons_zero, List.set_cons_succ, i64_w, i32_w]; rfl
             refine pure_ (i := 5) (N := some 38) (v := ?_) (a' := ?_) (bA 14 63) rfl rfl (any_of HT_.out (by kernel_rfl)) (fun _ _ _ h => h) (Or.inl ⟨by rfl, ?_⟩) ?_ ?_; rotate_left
             ·
              intro w'; go_simp; (with_reducible rfl)
             rotate_left
             ·
              simp only [Act.put, List.setIfInBounds_toArray, List.set_cons_zero, List.set_cons_succ, i64_w, i32_w]; rfl
             refine pure_ (i := 6) (N := some 39) (v := ?_) (a' := ?_) (bA 14 127) rfl rfl (any_of HT_.out (by kernel_rfl)) (fun _ _ _ h => h) (Or.inl ⟨by rfl, ?_⟩) ?_ ?_; rotate_left
             ·
              intro w'; go_simp; (with_reducible rfl)
             rotate_left
             ·
              simp only [Act.put, List.setIfInBounds_toArray, List.set_cons_zero, List.set_cons_succ, i64_w, i32_w]; rfl
             refine pure_ (i := 7) (N := some 40) (v := ?_) (a' := ?_) (bA 14 255) rfl rfl (any_of HT_.out (by kernel_rfl)) (fun _ _ _ h => h) (Or.inl ⟨by rfl, ?_⟩) ?_ ?_; rotate_left
             ·
              intro w'; go_simp; (with_reducible rfl)
             rotate_left
             ·
              simp only [Act.put, List.setIfInBounds_toArray, List.set_cons_zero, List.set_cons_succ, i64_w, i32_w]; rfl
             refine pure_ (i := 8) (N := some 41) (v := ?_) (a' := ?_) (bA 14 511) rfl rfl (any_of HT_.out (by kernel_rfl)) (fun _ _ _ h => h) (Or.inl ⟨by rfl, ?_⟩) ?_ ?_; rotate_left
             ·
              intro w'; go_simp; (with_reducible rfl)
             rotate_left
             ·
              simp only [Act.put, List.setIfInBounds_toArray, List.set_cons_zero, List.set_cons_succ, i64_w, i32_w]; rfl
             refine pure_ (i := 10) (N := some 43) (v := ?_) (a' := ?_) (bA 14 1535) rfl rfl (any_of HT_.out (by kernel_rfl)) (fun _ _ _ h => h) (Or.inl ⟨by rfl, ?_⟩) ?_ ?_; rotate_left
             ·
              intro w'; go_simp; (with_reducible rfl)
             rotate_left
             ·
              simp only [Act.put, List.setIfInBounds_toArray, List.set_cons_zero, List.set_cons_succ, i64_w, i32_w]; rfl
             refine take_ (i := 9) (N := some 42) (v := ?_) (a' := ?_) (bA 14 2047) rfl rfl (take_ofW HT_.out HW_.out (by kernel_rfl)) (fun _ _ _ h => h) (Or.inl ⟨by rfl, ?_⟩) hHeld ?_ ?_; rotate_left
             ·
              rintro w' ⟨s0, s1, s2, s3⟩; go_simp; (with_reducible rfl)
             rotate_left
             ·
              simp only [Act.put, List.setIfInBounds_toArray, List.set_cons_zero, List.set_cons_succ, i64_w, i32_w]; rfl
             refine take_ (i := 11) (N := some 44) (v := ?_) (a' := ?_) (bA 14 4095) rfl rfl (take_ofW HT_.out HW_.out (by kernel_rfl)) (fun _ _ _ h => h) (Or.inl ⟨by rfl, ?_⟩) hHeld ?_ ?_; rotate_left
             ·
              rintro w' ⟨s0, s1, s2, s3⟩; go_simp; (with_reducible rfl)
             rotate_left
             ·
              simp only [Act.put, List.setIfInBounds_toArray, List.set_cons_zero, List.set_cons_succ, i64_w, i32_w]; rfl
             refine pure_ (i := 12) (N := some 45) (v := ?_) (a' := ?_) (bA 14 8191) rfl rfl (any_of HT_.out (by kernel_rfl)) (fun _ _ _ h => h) (Or.inl ⟨by rfl, ?_⟩) ?_ ?_; rotate_left
             ·
              intro w'; go_simp; (with_reducible rfl)
             rotate_left
             ·
              simp only [Act.put, List.setIfInBounds_toArray, List.set_cons_zero, List.set_cons_succ, i64_w, i32_w]; rfl
             refine pure_ (i := 13) (N := some 46) (v := ?_) (a' := ?_) (bA 14 16383) rfl rfl (any_of HT_.out (by kernel_rfl)) (fun _ _ _ h => h) (Or.inl ⟨by rfl, ?_⟩) ?_ ?_; rotate_left
             ·
              intro w'; go_simp; (with_reducible rfl)
             rotate_left
             ·
              simp only [Act.put, List.setIfInBounds_toArray, List.set_cons_zero, List.set_cons_succ, i64_w, i32_w]; rfl
             refine done_ (done_of HT_.out (by kernel_rfl)) ?_
             try go_wp2
             go_meet
             case rel => exact ⟨_, (decide (((rd_T41 l1 x9_3).f0) ≤ ((rd_T41 l0 x12_1).f1))), (by first | rfl | (simp; done) | (simp [*]; done)), H', ⟨by have := HK1.out; have := HJ5.out; have := HK3.out; first | omega | exact Nat.le_refl _⟩, ⟨rl HO_5.out⟩, ⟨by (with_reducible repeat (first | refine blk_drewN ?_ _ | refine blk_drew ?_ | refine blk_alloc ?_ _)); exact BK130.out⟩, ⟨by repeat (first | (with_reducible first | exact HB.out | apply below_alloc | apply pw_below_drewN | apply below_drew1 | refine below_set ?_ GE130.out) | exact HB.out)⟩⟩
            ·
             rw [if_neg c17] at H; exact absurd H (by simp)
           ·
            rw [if_neg c16] at H; have c16b0 : decide (x9_3 < (l1.length : Int)) = false := decide_eq_false c16; clear c16
            (first | rw [c16b0] | (simp only [i64_w, i32_w]; rw [c16b0]) | skip)
            have H' := Aside0.mk H; clear H
            try go_wp2
            replace HO_5 := Aside0.mk (Kd.R_drew HO_5.out); replace BK130 := Aside0.mk (blk_drew BK130.out); replace HB : BelC w _ := ⟨below_drew1 HB.out⟩; refine start_ (n := 14) (S := fun w' => True) (ds := []) (bA 14 0) (by kernel_rfl) rfl rfl trivial (fun hHeld => ?_); refine with_tabW sets_without.tab9 sets_without.bits9 (fun HT_ HW_ => ?_)
            generalize wr.drew = w19 at HO_5 BK130 HB hHeld ⊢
            refine pure_ (i := 0) (N := some 33) (v := ?_) (a' := ?_) (bA 14 1) rfl rfl (any_of HT_.out (by kernel_rfl)) (fun _ _ _ h => h) (Or.inl ⟨by rfl, ?_⟩) ?_ ?_; rotate_left
            ·
             intro w'; go_simp; (with_reducible rfl)
            rotate_left
            ·
             simp only [Act.put, List.setIfInBounds_toArray, List.set_cons_zero, List.set_cons_succ, i64_w, i32_w]; rfl
            refine pure_ (i := 1) (N := some 34) (v := ?_) (a' := ?_) (bA 14 3) rfl rfl (any_of HT_.out (by kernel_rfl)) (fun _ _ _ h => h) (Or.inl ⟨by rfl, ?_⟩) ?_ ?_; rotate_left
            ·
             intro w'; go_simp; (with_reducible rfl)
            rotate_left
            ·
             simp only [Act.put, List.setIfInBounds_toArray, List.set_cons_zero, List.set_cons_succ, i64_w, i32_w]; rfl
            refine pure_ (i := 2) (N := some 35) (v := ?_) (a' := ?_) (bA 14 7) rfl rfl (any_of HT_.out (by kernel_rfl)) (fun _ _ _ h => h) (Or.inl ⟨by rfl, ?_⟩) ?_ ?_; rotate_left
            ·
             intro w'; go_simp; (with_reducible rfl)
            rotate_left
            ·
             simp only [Act.put, List.setIfInBounds_toArray, List.set_cons_zero, List.set_cons_succ, i64_w, i32_w]; rfl
            refine pure_ (i := 3) (N := some 36) (v := ?_) (a' := ?_) (bA 14 15) rfl rfl (any_of HT_.out (by kernel_rfl)) (fun _ _ _ h => h) (Or.inl ⟨by rfl, ?_⟩) ?_ ?_; rotate_left
            ·
             intro w'; go_simp; (with_reducible rfl)
            rotate_left
            ·
             simp only [Act.put, List.setIfInBounds_toArray, List.set_cons_zero, List.set_cons_succ, i64_w, i32_w]; rfl
            refine pure_ (i := 4) (N := some 37) (v := ?_) (a' := ?_) (bA 14 31) rfl rfl (any_of HT_.out (by kernel_rfl)) (fun _ _ _ h => h) (Or.inl ⟨by rfl, ?_⟩) ?_ ?_; rotate_left
            ·
             intro w'; go_simp; (with_reducible rfl)
            rotate_left
            ·
             simp only [Act.put, List.setIfInBounds_toArray, List.set_cons_zero, List.set_cons_succ, i64_w, i32_w]; rfl
            refine pure_ (i := 5) (N := some 38) (v := undef) (a' := ?_) (bA 14 63) rfl rfl (any_of HT_.out (by kernel_rfl)) (fun _ _ _ h => h) (Or.inr ⟨by rfl, rfl⟩) ?_ ?_; rotate_left
            ·
             simp only [Act.put, List.setIfInBounds_toArray, List.set_cons_zero, List.set_cons_succ, i64_w, i32_w]; rfl
            refine pure_ (i := 6) (N := some 39) (v := undef) (a' := ?_) (bA 14 127) rfl rfl (any_of HT_.out (by kernel_rfl)) (fun _ _ _ h => h) (Or.inr ⟨by rfl, rfl⟩) ?_ ?_; rotate_left
            ·
             simp only [Act.put, List.setIfInBounds_toArray, List.set_cons_zero, List.set_cons_succ, i64_w, i32_w]; rfl
            refine pure_ (i := 7) (N := some 40) (v := undef) (a' := ?_) (bA 14 255) rfl rfl (any_of HT_.out (by kernel_rfl)) (fun _ _ _ h => h) (Or.inr ⟨by rfl, rfl⟩) ?_ ?_; rotate_left
            ·
             simp only [Act.put, List.setIfInBounds_toArray, List.set_cons_zero, List.set_cons_succ, i64_w, i32_w]; rfl
            refine pure_ (i := 8) (N := some 41) (v := undef) (a' := ?_) (bA 14 511) rfl rfl (any_of HT_.out (by kernel_rfl)) (fun _ _ _ h => h) (Or.inr ⟨by rfl, rfl⟩) ?_ ?_; rotate_left
            ·
             simp only [Act.put, List.setIfInBounds_toArray, List.set_cons_zero, List.set_cons_succ, i64_w, i32_w]; rfl
            refine pure_ (i := 9) (N := some 42) (v := undef) (a' := ?_) (bA 14 1023) rfl rfl (any_of HT_.out (by kernel_rfl)) (fun _ _ _ h => h) (Or.inr ⟨by rfl, rfl⟩) ?_ ?_; rotate_left
            ·
             simp only [Act.put, List.setIfInBounds_toArray, List.set_cons_zero, List.set_cons_succ, i64_w, i32_w]; rfl
            refine pure_ (i := 10) (N := some 43) (v := undef) (a' := ?_) (bA 14 2047) rfl rfl (any_of HT_.out (by kernel_rfl)) (fun _ _ _ h => h) (Or.inr ⟨by rfl, rfl⟩) ?_ ?_; rotate_left
            ·
             simp only [Act.put, List.setIfInBounds_toArray, List.set_cons_zero, List.set_cons_succ, i64_w, i32_w]; rfl
            refine pure_ (i := 11) (N := some 44) (v := undef) (a' := ?_) (bA 14 4095) rfl rfl (any_of HT_.out (by kernel_rfl)) (fun _ _ _ h => h) (Or.inr ⟨by rfl, rfl⟩) ?_ ?_; rotate_left
            ·
             simp only [Act.put, List.setIfInBounds_toArray, List.set_cons_zero, List.set_cons_succ, i64_w, i32_w]; rfl
            refine pure_ (i := 12) (N := some 45) (v := undef) (a' := ?_) (bA 14 8191) rfl rfl (any_of HT_.out (by kernel_rfl)) (fun _ _ _ h => h) (Or.inr ⟨by rfl, rfl⟩) ?_ ?_; rotate_left
            ·
             simp only [Act.put, List.setIfInBounds_toArray, List.set_cons_zero, List.set_cons_succ, i64_w, i32_w]; rfl
            refine pure_ (i := 13) (N := some 46) (v := ?_) (a' := ?_) (bA 14 16383) rfl rfl (any_of HT_.out (by kernel_rfl)) (fun _ _ _ h => h) (Or.inl ⟨by rfl, ?_⟩) ?_ ?_; rotate_left
            ·
             intro w'; go_simp; (with_reducible rfl)
            rotate_left
            ·
             simp only [Act.put, List.setIfInBounds_toArray, List.set_cons_zero, List.set_cons_succ, i64_w, i32_w]; rfl
            refine done_ (done_of HT_.out (by kernel_rfl)) ?_
            try go_wp2
            go_meet
            case rel => exact ⟨_, (false), (by first | rfl | (simp; done) | (simp [*]; done)), H', ⟨by have := HK1.out; have := HJ5.out; have := HK3.out; first | omega | exact Nat.le_refl _⟩, ⟨rl HO_5.out⟩, ⟨by (with_reducible repeat (first | refine blk_drewN ?_ _ | refine blk_drew ?_ | refine blk_alloc ?_ _)); exact BK130.out⟩, ⟨by repeat (first | (with_reducible first | exact HB.out | apply below_alloc | apply pw_below_drewN | apply below_drew1 | refine below_set ?_ GE130.out) | exact HB.out)⟩⟩
          case rest =>
           clear HC15
           try clear c1
           try clear p1
           try clear q1
           try clear hx1
           try clear p2
           try clear c3
           try clear c3b0
           try clear c4
           try clear c4b0
           try clear c5
           try clear c5b0
           try clear p6
           try clear c9
           try clear c9b0
           try clear c10
           try clear c10b0
           try clear c11
           try clear c11b0
           try clear p12
           try clear q12
           try clear hx12
           try clear p13
           try clear q13
           try clear hx13
           try clear c16
           try clear c16b0
           try clear c17
           try clear c17b0
           try clear hcz8_0
           try clear hcz8_1
           try clear hfz8_0
           try clear hfz8_1
           try clear hx129_0
           try clear hx129_1
           try clear hx131_0
           try clear hx131_1
           try clear hx132_0
           try clear hx132_1
           try clear p1
           try clear p12
           try clear p129
           try clear p13
           try clear p131
           try clear p132
           try clear p2
           try clear p6
           try clear q1
           try clear q12
           try clear q129
           try clear q13
           try clear q131
           try clear q132
           obtain ⟨kq, x46_14, rfl, HA, HJ14, HO_5, BK130, HB⟩ := hcut
           cases kq with
           | zero => exact absurd HA.out (by simp [sets_without.j4])
           | succ kj14 =>
            have H := HA.out; clear HA; simp only [sets_without.j4] at H
            by_cases c20 : x46_14 = true
            ·
             subst c20
             have H1 : (if 0 ≤ x9_3 then (if x9_3 < (l1.length : Int) then (if ((rd_T41 l1 x9_3).f0) > x131000_3 then (if x5_3.length < 17592186044416 then (sets_without.l2 kj14 l1 (x5_3 ++ [(⟨x131000_3, wrap32 (((rd_T41 l1 x9_3).f0) - 1)⟩ : S41)]) x6_5 (wrap64 (x9_3 + 1)) l0 (l0.length : Int) x12_1 (wrap32 (((rd_T41 l1 x9_3).f1) + 1)) ((rd_T41 l0 x12_1).f1)) else (none)) else (sets_without.l2 kj14 l1 x5_3 x6_5 (wrap64 (x9_3 + 1)) l0 (l0.length : Int) x12_1 (wrap32 (((rd_T41 l1 x9_3).f1) + 1)) ((rd_T41 l0 x12_1).f1))) else (none)) else (none)) = some r := by rw [if_pos rfl] at H; exact H
             clear H; have H := H1; clear H1
             by_cases c21 : 0 ≤ x9_3
             ·
              rw [if_pos c21] at H; have c21b0 : decide (0 ≤ x9_3) = true := decide_eq_true c21; clear c21
              by_cases c22 : x9_3 < (l1.length : Int)
              ·
               rw [if_pos c22] at H; have c22b0 : decide (x9_3 < (l1.length : Int)) = true := decide_eq_true c22; clear c22
               by_cases c23 : ((rd_T41 l1 x9_3).f0) > x131000_3
               ·
                rw [if_pos c23] at H; have c23b0 : decide (x131000_3 < ((rd_T41 l1 x9_3).f0)) = true := decide_eq_true c23; clear c23
                by_cases c24 : x5_3.length < 17592186044416
                ·
                 rw [if_pos c24] at H; have LMc24 := Aside0.mk c24; clear c24; obtain ⟨y135, hy135⟩ : ∃ y_ : List (S41), y_ = (x5_3 ++ [(⟨x131000_3, wrap32 (((rd_T41 l1 x9_3).f0) - 1)⟩ : S41)]) := ⟨_, rfl⟩
                 replace H : (sets_without.l2 kj14 l1 y135 x6_5 (wrap64 (x9_3 + 1)) l0 (l0.length : Int) x12_1 (wrap32 (((rd_T41 l1 x9_3).f1) + 1)) ((rd_T41 l0 x12_1).f1)) = some r := by first | (rw [hy135]; with_reducible exact H) | (have H2_ := (Option.bind_some _ _).symm.trans H; rw [hy135]; with_reducible exact H2_) | (have H2_ := (Option.bind_some _ _).symm.trans H; with_reducible exact H2_) | with_reducible exact H | (rw [hy135]; exact H) | exact H
                 have Ny135 := Aside0.mk hy135; clear hy135; have H' := Aside0.mk H; clear H
                 try go_wp2
                 replace HO_5 := Aside0.mk (Kd.R_drew HO_5.out); replace BK130 := Aside0.mk (blk_drew BK130.out); replace HB : BelC w _ := ⟨below_drew1 HB.out⟩; have p133 : 0 ≤ (x9_3 : Int) := od (by assumption); have q133 : x9_3 < (l1.length : Int) := od (by assumption); obtain ⟨ad133, e133, hx133_0, hx133_1⟩ := at_T41 HR1.out x9_3 p133 q133; have hw133_1 := hx133_1; have hw133_0 := hx133_0
                 cases e133
                 replace hx133_0 := (HB.out.cell (World.block_lt_of_cell? w _ hx133_0)).trans hx133_0; replace hx133_1 := (HB.out.cell (World.block_lt_of_cell? w _ hx133_1)).trans hx133_1; replace p133 := eq_true p133; replace q133 := eq_true q133; refine start_ (n := 8) (S := fun w' => w'.cell? ⟨gb130, 0, none⟩ = some (.int .i32 x131000_3) ∧ w'.cell? ⟨gb130, 1, none⟩ = some (.int .i32 ((rd_T41 l0 x12_1).f1)) ∧ w'.cell? (ad133.add ((x9_3).toNat * 2)) = some (.int .i32 ((rd_T41 l1 x9_3).f0)) ∧ w'.cell? ⟨(ad133.add ((x9_3).toNat * 2)).block, (ad133.add ((x9_3).toNat * 2)).off + 1, none⟩ = some (.int .i32 ((rd_T41 l1 x9_3).f1))) (ds := []) (bA 8 0) (by kernel_rfl) rfl rfl ⟨(blk_cell BK130.out 0).trans rfl, (blk_cell BK130.out 1).trans rfl, ((HB.out.cell (World.block_lt_of_cell? w _ hw133_0)).trans hw133_0), ((HB.out.cell (World.block_lt_of_cell? w _ hw133_1)).trans hw133_1)⟩ (fun hHeld => ?_); refine with_tabW sets_without.tab11 sets_without.bits11 (fun HT_ HW_ => ?_)
                 generalize wc.drew = w25 at HO_5 BK130 HB hx133_0 hx133_1 hHeld ⊢
                 refine pure_ (i := 0) (N := some 49) (v := ?_) (a' := ?_) (bA 8 1) rfl rfl (any_of HT_.out (by kernel_rfl)) (fun _ _ _ h => h) (Or.inl ⟨by rfl, ?_⟩) ?_ ?_; rotate_left
                 ·
                  intro w'; go_simp; (with_reducible rfl)
                 rotate_left
                 ·
                  simp only [Act.put, List.setIfInBounds_toArray, List.set_cons_zero, List.set_cons_succ, i64_w, i32_w]; rfl
                 refine pure_ (i := 1) (N := some 50) (v := ?_) (a' := ?_) (bA 8 3) rfl rfl (any_of HT_.out (by kernel_rfl)) (fun _ _ _ h => h) (Or.inl ⟨by rfl, ?_⟩) ?_ ?_; rotate_left
                 ·
                  intro w'; go_simp; (with_reducible rfl)
                 rotate_left
                 ·
                  simp only [Act.put, List.setIfInBounds_toArray, List.set_cons_zero, List.set_cons_succ, i64_w, i32_w]; rfl
                 refine pure_ (i := 2) (N := some 51) (v := ?_) (a' := ?_) (bA 8 7) rfl rfl (any_of HT_.out (by kernel_rfl)) (fun _ _ _ h => h) (Or.inl ⟨by rfl, ?_⟩) ?_ ?_; rotate_left
                 ·
                  intro w'; go_simp; (with_reducible rfl)
                 rotate_left
                 ·
                  simp only [Act.put, List.setIfInBounds_toArray, List.set_cons_zero, List.set_cons_succ, i64_w, i32_w]; rfl
                 refine pure_ (i := 3) (N := some 52) (v := ?_) (a' := ?_) (bA 8 15) rfl rfl (any_of HT_.out (by kernel_rfl)) (fun _ _ _ h => h) (Or.inl ⟨by rfl, ?_⟩) ?_ ?_; rotate_left
                 ·
                  intro w'; go_simp; (with_reducible rfl)
                 rotate_left
                 ·
                  simp only [Act.put, List.setIfInBounds_toArray, List.set_cons_zero, List.set_cons_succ, i64_w, i32_w]; rfl
                 refine pure_ (i := 5) (N := some 54) (v := ?_) (a' := ?_) (bA 8 47) rfl rfl (any_of HT_.out (by kernel_rfl)) (fun _ _ _ h => h) (Or.inl ⟨by rfl, ?_⟩) ?_ ?_; rotate_left
                 ·
                  intro w'; go_simp; (with_reducible rfl)
                 rotate_left
                 ·
                  simp only [Act.put, List.setIfInBounds_toArray, List.set_cons_zero, List.set_cons_succ, i64_w, i32_w]; rfl
                 refine take_ (i := 4) (N := some 53) (v := ?_) (a' := ?_) (bA 8 63) rfl rfl (take_ofW HT_.out HW_.out (by kernel_rfl)) (fun _ _ _ h => h) (Or.inl ⟨by rfl, ?_⟩) hHeld ?_ ?_; rotate_left
                 ·
                  rintro w' ⟨s0, s1, s2, s3⟩; go_simp; (with_reducible rfl)
                 rotate_left
                 ·
                  simp only [Act.put, List.setIfInBounds_toArray, List.set_cons_zero, List.set_cons_succ, i64_w, i32_w]; rfl
                 refine take_ (i := 6) (N := some 55) (v := ?_) (a' := ?_) (bA 8 127) rfl rfl (take_ofW HT_.out HW_.out (by kernel_rfl)) (fun _ _ _ h => h) (Or.inl ⟨by rfl, ?_⟩) hHeld ?_ ?_; rotate_left
                 ·
                  rintro w' ⟨s0, s1, s2, s3⟩; go_simp; (with_reducible rfl)
                 rotate_left
                 ·
                  simp only [Act.put, List.setIfInBounds_toArray, List.set_cons_zero, List.set_cons_succ, i64_w, i32_w]; rfl
                 refine pure_ (i := 7) (N := some 56) (v := ?_) (a' := ?_) (bA 8 255) rfl rfl (any_of HT_.out (by kernel_rfl)) (fun _ _ _ h => h) (Or.inl ⟨by rfl, ?_⟩) ?_ ?_; rotate_left
                 ·
                  intro w'; go_simp; (with_reducible rfl)
                 rotate_left
                 ·
                  simp only [Act.put, List.setIfInBounds_toArray, List.set_cons_zero, List.set_cons_succ, i64_w, i32_w]; rfl
                 refine done_ (done_of HT_.out (by kernel_rfl)) ?_
                 try go_wp2
                 replace HO_5 := Aside0.mk (Kd.R_drew HO_5.out); replace BK130 := Aside0.mk (blk_drew BK130.out); replace HB : BelC w _ := ⟨below_drew1 HB.out⟩; have p134 : 0 ≤ (x9_3 : Int) := od (by assumption); have q134 : x9_3 < (l1.length : Int) := od (by assumption); obtain ⟨ad134, e134, hx134_0, hx134_1⟩ := at_T41 HR1.out x9_3 p134 q134; have hw134_1 := hx134_1; have hw134_0 := hx134_0; obtain rfl : ad133 = ad134 := (by injection e134); replace hx134_0 := (HB.out.cell (World.block_lt_of_cell? w _ hx134_0)).trans hx134_0; replace hx134_1 := (HB.out.cell (World.block_lt_of_cell? w _ hx134_1)).trans hx134_1; replace p134 := eq_true p134; replace q134 := eq_true q134; refine start_ (n := 13) (S := fun w' => w'.cell? ⟨gb130, 0, none⟩ = some (.int .i32 x131000_3) ∧ w'.cell? ⟨gb130, 1, none⟩ = some (.int .i32 ((rd_T41 l0 x12_1).f1)) ∧ w'.cell? (ad133.add ((x9_3).toNat * 2)) = some (.int .i32 ((rd_T41 l1 x9_3).f0)) ∧ w'.cell? ⟨(ad133.add ((x9_3).toNat * 2)).block, (ad133.add ((x9_3).toNat * 2)).off + 1, none⟩ = some (.int .i32 ((rd_T41 l1 x9_3).f1))) (ds := []) (bA 13 0) (by kernel_rfl) rfl rfl ⟨(blk_cell BK130.out 0).trans rfl, (blk_cell BK130.out 1).trans rfl, ((HB.out.cell (World.block_lt_of_cell? w _ hw134_0)).trans hw134_0), ((HB.out.cell (World.block_lt_of_cell? w _ hw134_1)).trans hw134_1)⟩ (fun hHeld => ?_); refine with_tabW sets_without.tab12 sets_without.bits12 (fun HT_ HW_ => ?_)
                 generalize w25.drew = w26 at HO_5 BK130 HB hx134_0 hx134_1 hHeld ⊢
                 refine pure_ (i := 0) (N := some 57) (v := ?_) (a' := ?_) (bA 13 1) rfl rfl (any_of HT_.out (by kernel_rfl)) (fun _ _ _ h => h) (Or.inl ⟨by rfl, ?_⟩) ?_ ?_; rotate_left
                 ·
                  intro w'; go_simp; (with_reducible rfl)
                 rotate_left
                 ·
                  simp only [Act.put, List.setIfInBounds_toArray, List.set_cons_zero, List.set_cons_succ, i64_w, i32_w]; rfl
                 refine pure_ (i := 1) (N := some 58) (v := ?_) (a' := ?_) (bA 13 3) rfl rfl (any_of HT_.out (by kernel_rfl)) (fun _ _ _ h => h) (Or.inl ⟨by rfl, ?_⟩) ?_ ?_; rotate_left
                 ·
                  intro w'; go_simp; (with_reducible rfl)
                 rotate_left
                 ·
                  simp only [Act.put, List.setIfInBounds_toArray, List.set_cons_zero, List.set_cons_succ, i64_w, i32_w]; rfl
                 refine pure_ (i := 3) (N := some 60) (v := ?_) (a' := ?_) (bA 13 11) rfl rfl (any_of HT_.out (by kernel_rfl)) (fun _ _ _ h => h) (Or.inl ⟨by rfl, ?_⟩) ?_ ?_; rotate_left
                 ·
                  intro w'; go_simp; (with_reducible rfl)
                 rotate_left
                 ·
                  simp only [Act.put, List.setIfInBounds_toArray, List.set_cons_zero, List.set_cons_succ, i64_w, i32_w]; rfl
                 refine pure_ (i := 4) (N := some 61) (v := ?_) (a' := ?_) (bA 13 27) rfl rfl (any_of HT_.out (by kernel_rfl)) (fun _ _ _ h => h) (Or.inl ⟨by rfl, ?_⟩) ?_ ?_; rotate_left
                 ·
                  intro w'; go_simp; (with_reducible rfl)
                 rotate_left
                 ·
                  simp only [Act.put, List.setIfInBounds_toArray, List.set_cons_zero, List.set_cons_succ, i64_w, i32_w]; rfl
                 refine pure_ (i := 5) (N := some 62) (v := ?_) (a' := ?_) (bA 13 59) rfl rfl (any_of HT_.out (by kernel_rfl)) (fun _ _ _ h => h) (Or.inl ⟨by rfl, ?_⟩) ?_ ?_; rotate_left
                 ·
                  intro w'; go_simp; (with_reducible rfl)
                 rotate_left
                 ·
                  simp only [Act.put, List.setIfInBounds_toArray, List.set_cons_zero, List.set_cons_succ, i64_w, i32_w]; rfl
                 refine pure_ (i := 6) (N := some 63) (v := ?_) (a' := ?_) (bA 13 123) rfl rfl (any_of HT_.out (by kernel_rfl)) (fun _ _ _ h => h) (Or.inl ⟨by rfl, ?_⟩) ?_ ?_; rotate_left
                 ·
                  intro w'; go_simp; (with_reducible rfl)
                 rotate_left
                 ·
                  simp only [Act.put, List.setIfInBounds_toArray, List.set_cons_zero, List.set_cons_succ, i64_w, i32_w]; rfl
                 refine take_ (i := 2) (N := some 59) (v := ?_) (a' := ?_) (bA 13 127) rfl rfl (take_ofW HT_.out HW_.out (by kernel_rfl)) (fun _ _ _ h => h) (Or.inl ⟨by rfl, ?_⟩) hHeld ?_ ?_; rotate_left
                 ·
                  rintro w' ⟨s0, s1, s2, s3⟩; go_simp; (with_reducible rfl)
                 rotate_left
                 ·
                  simp only [Act.put, List.setIfInBounds_toArray, List.set_cons_zero, List.set_cons_succ, i64_w, i32_w]; rfl
                 refine take_ (i := 7) (N := some 64) (v := ?_) (a' := ?_) (bA 13 255) rfl rfl (take_ofW HT_.out HW_.out (by kernel_rfl)) (fun _ _ _ h => h) (Or.inl ⟨by rfl, ?_⟩) hHeld ?_ ?_; rotate_left
                 ·
                  rintro w' ⟨s0, s1, s2, s3⟩; go_simp; (with_reducible rfl)
                 rotate_left
                 ·
                  simp only [Act.put, List.setIfInBounds_toArray, List.set_cons_zero, List.set_cons_succ, i64_w, i32_w]; rfl
                 refine pure_ (i := 8) (N := some 65) (v := ?_) (a' := ?_) (bA 13 511) rfl rfl (any_of HT_.out (by kernel_rfl)) (fun _ _ _ h => h) (Or.inl ⟨by rfl, ?_⟩) ?_ ?_; rotate_left
                 ·
                  intro w'; go_simp; (with_reducible rfl)
                 rotate_left
                 ·
                  simp only [Act.put, List.setIfInBounds_toArray, List.set_cons_zero, List.set_cons_succ, i64_w, i32_w]; rfl
                 refine pure_ (i := 9) (N := some 66) (v := ?_) (a' := ?_) (bA 13 1023) rfl rfl (any_of HT_.out (by kernel_rfl)) (fun _ _ _ h => h) (Or.inl ⟨by rfl, ?_⟩) ?_ ?_; rotate_left
                 ·
                  intro w'; go_simp; (with_reducible rfl)
                 rotate_left
                 ·
                  simp only [Act.put, List.setIfInBounds_toArray, List.set_cons_zero, List.set_cons_succ, i64_w, i32_w]; rfl
                 refine one_ (i := 10) (N := some 67) (bA 13 2047) rfl rfl (one_of HT_.out (by kernel_rfl)) (by decide) (fun K hK => ?_); refine value_ (w1 := ?_) (v := ?_) (by rfl) rfl ?_ ?_; rotate_left 2
                 ·
                  go_simp; constructor
                  ·
                   rfl
                  ·
                   rfl
                 refine hK.out _ _ ⟨(blk_cell (blk_alloc BK130.out _) 0).trans rfl, (blk_cell (blk_alloc BK130.out _) 1).trans rfl, (World.cell?_alloc_lt _ _ _ (World.block_lt_of_cell? _ _ (((HB.out.cell (World.block_lt_of_cell? w _ hw134_0)).trans hw134_0)))).trans (((HB.out.cell (World.block_lt_of_cell? w _ hw134_0)).trans hw134_0)), (World.cell?_alloc_lt _ _ _ (World.block_lt_of_cell? _ _ (((HB.out.cell (World.block_lt_of_cell? w _ hw134_1)).trans hw134_1)))).trans (((HB.out.cell (World.block_lt_of_cell? w _ hw134_1)).trans hw134_1))⟩ (fun hHeld => ?_); clear hK K; refine norm_ (a' := ?_) ?_ ?_; rotate_left
                 ·
                  show Act.put _ (some 67) _ = _; simp only [Act.put, List.setIfInBounds_toArray, List.set_cons_zero, List.set_cons_succ, i64_w, i32_w]; rfl
                 refine one_ (i := 11) (N := some 68) (bA 13 4095) rfl rfl (one_of HT_.out (by kernel_rfl)) (by decide) (fun K hK => ?_); refine Kd.R_append_step k41 (w0 := w) w.heap.size (by rfl) (.tmp 57) (.tmp 67) 24 41 (.agg #[(.int .i32 0), (.int .i32 0)]) 8 rfl Tryz.underlying24 info41 rfl (by decide) (by omega) u5 x5_3 (⟨x131000_3, wrap32 (((rd_T41 l1 x9_3).f0) - 1)⟩ : S41) [.int .i32 x131000_3, .int .i32 (wrap32 (((rd_T41 l1 x9_3).f0) - 1))] (fun k_ => k_ ≠ gb130) (fun _ => False) rfl rfl ?aP (fun _ hk => hk.elim) ?aF ?aO ?aB ?aS ?aL ?_
                 (case aP => exact k41_mkM _ _ _ (⟨x131000_3, wrap32 (((rd_T41 l1 x9_3).f0) - 1)⟩ : S41))
                 (case aB => exact (by repeat (first | (with_reducible first | exact HB.out | apply below_alloc | apply pw_below_drewN | apply below_drew1 | refine below_set ?_ GE130.out) | exact HB.out)))
                 (case aF => exact (fun k_ hk => Kd.freshB (g := gb130) (o := .cells #[.int .i32 x131000_3, .int .i32 ((rd_T41 l0 x12_1).f1)] 41 (0, 0)) (by (with_reducible repeat (first | refine blk_drewN ?_ _ | refine blk_drew ?_ | refine blk_alloc ?_ _)); exact BK130.out) k_ hk))
                 (case aO => exact (rl HO_5.out))
                 (case aS => exact (below_size (by repeat (first | (with_reducible first | exact HB.out | apply below_alloc | apply pw_below_drewN | apply below_drew1 | refine below_set ?_ GE130.out) | exact HB.out))))
                 (case aL => have := LMc24.out; omega)
                 intro v136 w27 ho hb hg hat; rw [← Ny135.out] at ho; have n0_ := Aside0.mk (blk_grown (g := gb130) (o := .cells #[.int .i32 x131000_3, .int .i32 ((rd_T41 l0 x12_1).f1)] 41 (0, 0)) (by (with_reducible repeat (first | refine blk_drewN ?_ _ | refine blk_drew ?_ | refine blk_alloc ?_ _)); exact BK130.out) hg (Kd.R_away HO_5.out (fun _ hk => hk))); have n1_ : BelC w _ := ⟨hb⟩; have n2_ := Aside0.mk (ho); clear BK130; clear HB; clear HO_5; have BK130 := n0_; have HB := n1_; have HO137 := n2_; clear n0_ n1_ n2_; clear ho hb hg hat; refine hK.out _ _ ⟨(blk_cell BK130.out 0).trans rfl, (blk_cell BK130.out 1).trans rfl, ((HB.out.cell (World.block_lt_of_cell? w _ hw134_0)).trans hw134_0), ((HB.out.cell (World.block_lt_of_cell? w _ hw134_1)).trans hw134_1)⟩ (fun hHeld => ?_); clear hK K; refine norm_ (a' := ?_) ?_ ?_; rotate_left
                 ·
                  show Act.put _ (some 68) _ = _; simp only [Act.put, List.setIfInBounds_toArray, List.set_cons_zero, List.set_cons_succ, i64_w, i32_w]; rfl
                 refine pure_ (i := 12) (N := some 5) (v := ?_) (a' := ?_) (bA 13 8191) rfl rfl (any_of HT_.out (by kernel_rfl)) (fun _ _ _ h => h) (Or.inl ⟨by rfl, ?_⟩) ?_ ?_; rotate_left
                 ·
                  intro w'; go_simp; (with_reducible rfl)
                 rotate_left
                 ·
                  simp only [Act.put, List.setIfInBounds_toArray, List.set_cons_zero, List.set_cons_succ, i64_w, i32_w]; rfl
                 refine done_ (done_of HT_.out (by kernel_rfl)) ?_; have p138 : 0 ≤ (x9_3 : Int) := od (by assumption); have q138 : x9_3 < (l1.length : Int) := od (by assumption); obtain ⟨ad138, e138, hx138_0, hx138_1⟩ := at_T41 HR1.out x9_3 p138 q138; obtain rfl : ad133 = ad138 := (by injection e138); replace hx138_0 := (HB.out.cell (World.block_lt_of_cell? w _ hx138_0)).trans hx138_0; replace hx138_1 := (HB.out.cell (World.block_lt_of_cell? w _ hx138_1)).trans hx138_1; replace p138 := eq_true p138; replace q138 := eq_true q138; have hcz28_0 : w27.cell? ⟨gb130, 0, none⟩ = some (.int .i32 x131000_3) := (blk_cell BK130.out 0).trans rfl; have hcz28_1 : w27.cell? ⟨gb130, 1, none⟩ = some (.int .i32 ((rd_T41 l0 x12_1).f1)) := (blk_cell BK130.out 1).trans rfl; have hfz28_0 := blk_frozen BK130.out 0; have hfz28_1 := blk_frozen BK130.out 1
                 try go_wp2
                 go_roundg kj14
                 case measure => have := HK1.out; have := HJ5.out; have := HK3.out; have := HJ14.out; omega
                 case rel => exact ⟨(y135), (wrap64 (x9_3 + 1)), (wrap32 (((rd_T41 l1 x9_3).f1) + 1)), (by first | rfl | (simp; done) | (simp [*]; done)), H', ⟨by have := HK1.out; have := HJ5.out; have := HK3.out; have := HJ14.out; omega⟩, ⟨by (with_reducible repeat first | apply Kd.R_alloc | apply Kd.R_drewN | apply Kd.R_drew); exact Kd.R_mono (Kd.R_far (p := ⟨gb130, 0, none⟩) (Kd.R_mono HO137.out (fun k_ hk => (⟨hk, hk⟩ : _ ∧ k_ ≠ gb130))) (fun _ hk => hk.2) (.int .i32 (wrap32 (((rd_T41 l1 x9_3).f1) + 1)))) (fun _ hk => hk.1)⟩, ⟨by (with_reducible repeat (first | refine blk_drewN ?_ _ | refine blk_drew ?_ | refine blk_alloc ?_ _)); refine blk_put (cs := #[.int .i32 x131000_3, .int .i32 ((rd_T41 l0 x12_1).f1)]) ?_ 0 _ rfl; (with_reducible repeat (first | refine blk_drewN ?_ _ | refine blk_drew ?_ | refine blk_alloc ?_ _)); exact BK130.out⟩, ⟨by repeat (first | (with_reducible first | exact HB.out | apply below_alloc | apply pw_below_drewN | apply below_drew1 | refine below_set ?_ GE130.out) | exact HB.out)⟩⟩
                ·
                 rw [if_neg c24] at H; exact absurd H (by simp)
               ·
                rw [if_neg c23] at H; have c23b0 : decide (x131000_3 < ((rd_T41 l1 x9_3).f0)) = false := decide_eq_false c23; clear c23; have H' := Aside0.mk H; clear H
                try go_wp2
                replace HO_5 := Aside0.mk (Kd.R_drew HO_5.out); replace BK130 := Aside0.mk (blk_drew BK130.out); replace HB : BelC w _ := ⟨below_drew1 HB.out⟩; have p133 : 0 ≤ (x9_3 : Int) := od (by assumption); have q133 : x9_3 < (l1.length : Int) := od (by assumption); obtain ⟨ad133, e133, hx133_0, hx133_1⟩ := at_T41 HR1.out x9_3 p133 q133; have hw133_1 := hx133_1; have hw133_0 := hx133_0
                cases e133
                replace hx133_0 := (HB.out.cell (World.block_lt_of_cell? w _ hx133_0)).trans hx133_0; replace hx133_1 := (HB.out.cell (World.block_lt_of_cell? w _ hx133_1)).trans hx133_1; replace p133 := eq_true p133; replace q133 := eq_true q133; refine start_ (n := 8) (S := fun w' => w'.cell? ⟨gb130, 0, none⟩ = some (.int .i32 x131000_3) ∧ w'.cell? ⟨gb130, 1, none⟩ = some (.int .i32 ((rd_T41 l0 x12_1).f1)) ∧ w'.cell? (ad133.add ((x9_3).toNat * 2)) = some (.int .i32 ((rd_T41 l1 x9_3).f0)) ∧ w'.cell? ⟨(ad133.add ((x9_3).toNat * 2)).block, (ad133.add ((x9_3).toNat * 2)).off + 1, none⟩ = some (.int .i32 ((rd_T41 l1 x9_3).f1))) (ds := []) (bA 8 0) (by kernel_rfl) rfl rfl ⟨(blk_cell BK130.out 0).trans rfl, (blk_cell BK130.out 1).trans rfl, ((HB.out.cell (World.block_lt_of_cell? w _ hw133_0)).trans hw133_0), ((HB.out.cell (World.block_lt_of_cell? w _ hw133_1)).trans hw133_1)⟩ (fun hHeld => ?_); refine with_tabW sets_without.tab11 sets_without.bits11 (fun HT_ HW_ => ?_)
                generalize wc.drew = w29 at HO_5 BK130 HB hx133_0 hx133_1 hHeld ⊢
                refine pure_ (i := 0) (N := some 49) (v := ?_) (a' := ?_) (bA 8 1) rfl rfl (any_of HT_.out (by kernel_rfl)) (fun _ _ _ h => h) (Or.inl ⟨by rfl, ?_⟩) ?_ ?_; rotate_left
                ·
                 intro w'; go_simp; (with_reducible rfl)
                rotate_left
                ·
                 simp only [Act.put, List.setIfInBounds_toArray, List.set_cons_zero, List.set_cons_succ, i64_w, i32_w]; rfl
                refine pure_ (i := 1) (N := some 50) (v := ?_) (a' := ?_) (bA 8 3) rfl rfl (any_of HT_.out (by kernel_rfl)) (fun _ _ _ h => h) (Or.inl ⟨by rfl, ?_⟩) ?_ ?_; rotate_left
                ·
                 intro w'; go_simp; (with_reducible rfl)
                rotate_left
                ·
                 simp only [Act.put, List.setIfInBounds_toArray, List.set_cons_zero, List.set_cons_succ, i64_w, i32_w]; rfl
                refine pure_ (i := 2) (N := some 51) (v := ?_) (a' := ?_) (bA 8 7) rfl rfl (any_of HT_.out (by kernel_rfl)) (fun _ _ _ h => h) (Or.inl ⟨by rfl, ?_⟩) ?_ ?_; rotate_left
                ·
                 intro w'; go_simp; (with_reducible rfl)
                rotate_left
                ·
                 simp only [Act.put, List.setIfInBounds_toArray, List.set_cons_zero, List.set_cons_succ, i64_w, i32_w]; rfl
                refine pure_ (i := 3) (N := some 52) (v := ?_) (a' := ?_) (bA 8 15) rfl rfl (any_of HT_.out (by kernel_rfl)) (fun _ _ _ h => h) (Or.inl ⟨by rfl, ?_⟩) ?_ ?_; rotate_left
                ·
                 intro w'; go_simp; (with_reducible rfl)
                rotate_left
                ·
                 simp only [Act.put, List.setIfInBounds_toArray, List.set_cons_zero, List.set_cons_succ, i64_w, i32_w]; rfl
                refine pure_ (i := 5) (N := some 54) (v := ?_) (a' := ?_) (bA 8 47) rfl rfl (any_of HT_.out (by kernel_rfl)) (fun _ _ _ h => h) (Or.inl ⟨by rfl, ?_⟩) ?_ ?_; rotate_left
                ·
                 intro w'; go_simp; (with_reducible rfl)
                rotate_left
                ·
                 simp only [Act.put, List.setIfInBounds_toArray, List.set_cons_zero, List.set_cons_succ, i64_w, i32_w]; rfl
                refine take_ (i := 4) (N := some 53) (v := ?_) (a' := ?_) (bA 8 63) rfl rfl (take_ofW HT_.out HW_.out (by kernel_rfl)) (fun _ _ _ h => h) (Or.inl ⟨by rfl, ?_⟩) hHeld ?_ ?_; rotate_left
                ·
                 rintro w' ⟨s0, s1, s2, s3⟩; go_simp; (with_reducible rfl)
                rotate_left
                ·
                 simp only [Act.put, List.setIfInBounds_toArray, List.set_cons_zero, List.set_cons_succ, i64_w, i32_w]; rfl
                refine take_ (i := 6) (N := some 55) (v := ?_) (a' := ?_) (bA 8 127) rfl rfl (take_ofW HT_.out HW_.out (by kernel_rfl)) (fun _ _ _ h => h) (Or.inl ⟨by rfl, ?_⟩) hHeld ?_ ?_; rotate_left
                ·
                 rintro w' ⟨s0, s1, s2, s3⟩; go_simp; (with_reducible rfl)
                rotate_left
                ·
                 simp only [Act.put, List.setIfInBounds_toArray, List.set_cons_zero, List.set_cons_succ, i64_w, i32_w]; rfl
                refine pure_ (i := 7) (N := some 56) (v := ?_) (a' := ?_) (bA 8 255) rfl rfl (any_of HT_.out (by kernel_rfl)) (fun _ _ _ h => h) (Or.inl ⟨by rfl, ?_⟩) ?_ ?_; rotate_left
                ·
                 intro w'; go_simp; (with_reducible rfl)
                rotate_left
                ·
                 simp only [Act.put, List.setIfInBounds_toArray, List.set_cons_zero, List.set_cons_succ, i64_w, i32_w]; rfl
                refine done_ (done_of HT_.out (by kernel_rfl)) ?_; have p139 : 0 ≤ (x9_3 : Int) := od (by assumption); have q139 : x9_3 < (l1.length : Int) := od (by assumption); obtain ⟨ad139, e139, hx139_0, hx139_1⟩ := at_T41 HR1.out x9_3 p139 q139; obtain rfl : ad133 = ad139 := (by injection e139); replace hx139_0 := (HB.out.cell (World.block_lt_of_cell? w _ hx139_0)).trans hx139_0; replace hx139_1 := (HB.out.cell (World.block_lt_of_cell? w _ hx139_1)).trans hx139_1; replace p139 := eq_true p139; replace q139 := eq_true q139; have hcz30_0 : w29.cell? ⟨gb130, 0, none⟩ = some (.int .i32 x131000_3) := (blk_cell BK130.out 0).trans rfl; have hcz30_1 : w29.cell? ⟨gb130, 1, none⟩ = some (.int .i32 ((rd_T41 l0 x12_1).f1)) := (blk_cell BK130.out 1).trans rfl; have hfz30_0 := blk_frozen BK130.out 0; have hfz30_1 := blk_frozen BK130.out 1
                try go_wp2
                go_roundg kj14
                case measure => have := HK1.out; have := HJ5.out; have := HK3.out; have := HJ14.out; omega
                case rel => exact ⟨(x5_3), (wrap64 (x9_3 + 1)), (wrap32 (((rd_T41 l1 x9_3).f1) + 1)), (by first | rfl | (simp; done) | (simp [*]; done)), H', ⟨by have := HK1.out; have := HJ5.out; have := HK3.out; have := HJ14.out; omega⟩, ⟨by (with_reducible repeat first | apply Kd.R_alloc | apply Kd.R_drewN | apply Kd.R_drew); exact Kd.R_mono (Kd.R_far (p := ⟨gb130, 0, none⟩) (Kd.R_mono HO_5.out (fun k_ hk => (⟨hk, hk⟩ : _ ∧ k_ ≠ gb130))) (fun _ hk => hk.2) (.int .i32 (wrap32 (((rd_T41 l1 x9_3).f1) + 1)))) (fun _ hk => hk.1)⟩, ⟨by (with_reducible repeat (first | refine blk_drewN ?_ _ | refine blk_drew ?_ | refine blk_alloc ?_ _)); refine blk_put (cs := #[.int .i32 x131000_3, .int .i32 ((rd_T41 l0 x12_1).f1)]) ?_ 0 _ rfl; (with_reducible repeat (first | refine blk_drewN ?_ _ | refine blk_drew ?_ | refine blk_alloc ?_ _)); exact BK130.out⟩, ⟨by repeat (first | (with_reducible first | exact HB.out | apply below_alloc | apply pw_below_drewN | apply below_drew1 | refine below_set ?_ GE130.out) | exact HB.out)⟩⟩
              ·
               rw [if_neg c22] at H; exact absurd H (by simp)
             ·
              rw [if_neg c21] at H; exact absurd H (by simp)
            ·
             replace c20 := Bool.eq_false_iff.mpr c20; subst c20
             have H1 : (if x131000_3 ≤ ((rd_T41 l0 x12_1).f1) then (if x5_3.length < 17592186044416 then (sets_without.l0 kj14 l1 (x5_3 ++ [(⟨x131000_3, ((rd_T41 l0 x12_1).f1)⟩ : S41)]) x6_5 l0 (l0.length : Int) (wrap64 (x12_1 + 1))) else (none)) else (sets_without.l0 kj14 l1 x5_3 x6_5 l0 (l0.length : Int) (wrap64 (x12_1 + 1)))) = some r := by rw [if_neg (show ¬ (false = true) by decide)] at H; exact H
             clear H; have H := H1; clear H1
             by_cases c31 : x131000_3 ≤ ((rd_T41 l0 x12_1).f1)
             ·
              rw [if_pos c31] at H; have c31b0 : decide (x131000_3 ≤ ((rd_T41 l0 x12_1).f1)) = true := decide_eq_true c31; clear c31
              by_cases c32 : x5_3.length < 17592186044416
              ·
               rw [if_pos c32] at H; have LMc32 := Aside0.mk c32; clear c32; obtain ⟨y140, hy140⟩ : ∃ y_ : List (S41), y_ = (x5_3 ++ [(⟨x131000_3, ((rd_T41 l0 x12_1).f1)⟩ : S41)]) := ⟨_, rfl⟩
               replace H : (sets_without.l0 kj14 l1 y140 x6_5 l0 (l0.length : Int) (wrap64 (x12_1 + 1))) = some r := by first | (rw [hy140]; with_reducible exact H) | (have H2_ := (Option.bind_some _ _).symm.trans H; rw [hy140]; with_reducible exact H2_) | (have H2_ := (Option.bind_some _ _).symm.trans H; with_reducible exact H2_) | with_reducible exact H | (rw [hy140]; exact H) | exact H
               have Ny140 := Aside0.mk hy140; clear hy140; have H' := Aside0.mk H; clear H; have hcz33_0 : wc.cell? ⟨gb130, 0, none⟩ = some (.int .i32 x131000_3) := (blk_cell BK130.out 0).trans rfl; have hcz33_1 : wc.cell? ⟨gb130, 1, none⟩ = some (.int .i32 ((rd_T41 l0 x12_1).f1)) := (blk_cell BK130.out 1).trans rfl; have hfz33_0 := blk_frozen BK130.out 0; have hfz33_1 := blk_frozen BK130.out 1
               go_wp2_with (first | ((with_reducible refine gate_builtin (b := .append) (xs := #[.tmp 81, .tmp 83]) rfl ?_); at_builtin; refine Kd.R_append k41 (w0 := w) w.heap.size rfl (.tmp 81) (.tmp 83) 24 41 (.agg #[(.int .i32 0), (.int .i32 0)]) 8 rfl Tryz.underlying24 info41 rfl (by decide) (by omega) u5 x5_3 (⟨x131000_3, ((rd_T41 l0 x12_1).f1)⟩ : S41) [.int .i32 x131000_3, .int .i32 ((rd_T41 l0 x12_1).f1)] (fun k_ => k_ ≠ gb130) (fun _ => False) rfl rfl ?aP (fun _ hk => hk.elim) ?aF ?aO ?aB ?aS ?aL ?_; (case aP => exact k41_mkM _ _ _ (⟨x131000_3, ((rd_T41 l0 x12_1).f1)⟩ : S41)); (case aB => exact (by repeat (first | (with_reducible first | exact HB.out | apply below_alloc | apply pw_below_drewN | apply below_drew1 | refine below_set ?_ GE130.out) | exact HB.out))); (case aF => exact (fun k_ hk => Kd.freshB (g := gb130) (o := .cells #[.int .i32 x131000_3, .int .i32 ((rd_T41 l0 x12_1).f1)] 41 (0, 0)) (by (with_reducible repeat (first | refine blk_drewN ?_ _ | refine blk_drew ?_ | refine blk_alloc ?_ _)); exact BK130.out) k_ hk)); (case aO => exact (rl HO_5.out)); (case aS => exact (below_size (by repeat (first | (with_reducible first | exact HB.out | apply below_alloc | apply pw_below_drewN | apply below_drew1 | refine below_set ?_ GE130.out) | exact HB.out)))); (case aL => have := LMc32.out; omega); intro v141 w34 ho hb hg hat; rw [← Ny140.out] at ho; replace BK130 := Aside0.mk (blk_grown (g := gb130) (o := .cells #[.int .i32 x131000_3, .int .i32 ((rd_T41 l0 x12_1).f1)] 41 (0, 0)) (by (with_reducible repeat (first | refine blk_drewN ?_ _ | refine blk_drew ?_ | refine blk_alloc ?_ _)); exact BK130.out) hg (Kd.R_away HO_5.out (fun _ hk => hk))); replace HB : BelC w _ := ⟨hb⟩; have HO142 := Aside0.mk (ho); clear HO_5; clear ho hb hg hat))
               go_roundg kj14
               case measure => have := HK1.out; have := HJ5.out; have := HK3.out; have := HJ14.out; omega
               case rel => exact ⟨(y140), (x6_5), (wrap64 (x12_1 + 1)), (by first | rfl | (simp; done) | (simp [*]; done)), (by first | rfl | (simp; done) | (simp [*]; done)), H', ⟨by have := HK1.out; have := HJ5.out; have := HK3.out; have := HJ14.out; omega⟩, ⟨by (with_reducible repeat first | apply Kd.R_alloc | apply Kd.R_drewN | apply Kd.R_drew); exact Kd.R_mono HO142.out (fun _ hk => trivial)⟩, ⟨by repeat (first | (with_reducible first | exact HB.out | apply below_alloc | apply pw_below_drewN | apply below_drew1 | refine below_set ?_ GE130.out) | exact HB.out)⟩⟩
              ·
               rw [if_neg c32] at H; exact absurd H (by simp)
             ·
              rw [if_neg c31] at H; have c31b0 : decide (x131000_3 ≤ ((rd_T41 l0 x12_1).f1)) = false := decide_eq_false c31; clear c31; have H' := Aside0.mk H; clear H; have hcz35_0 : wc.cell? ⟨gb130, 0, none⟩ = some (.int .i32 x131000_3) := (blk_cell BK130.out 0).trans rfl; have hcz35_1 : wc.cell? ⟨gb130, 1, none⟩ = some (.int .i32 ((rd_T41 l0 x12_1).f1)) := (blk_cell BK130.out 1).trans rfl; have hfz35_0 := blk_frozen BK130.out 0; have hfz35_1 := blk_frozen BK130.out 1
              go_wp2
              go_roundg kj14
              case measure => have := HK1.out; have := HJ5.out; have := HK3.out; have := HJ14.out; omega
              case rel => exact ⟨(x5_3), (x6_5), (wrap64 (x12_1 + 1)), (by first | rfl | (simp; done) | (simp [*]; done)), (by first | rfl | (simp; done) | (simp [*]; done)), H', ⟨by have := HK1.out; have := HJ5.out; have := HK3.out; have := HJ14.out; omega⟩, ⟨by (with_reducible repeat first | apply Kd.R_alloc | apply Kd.R_drewN | apply Kd.R_drew); exact Kd.R_mono HO_5.out (fun _ hk => trivial)⟩, ⟨by repeat (first | (with_reducible first | exact HB.out | apply below_alloc | apply pw_below_drewN | apply below_drew1 | refine below_set ?_ GE130.out) | exact HB.out)⟩⟩
     ·
      rw [if_neg c5] at H; exact absurd H (by simp)
    ·
     rw [if_neg c4] at H; exact absurd H (by simp)
   ·
    rw [if_neg c3] at H; have c3b0 : decide (x12_1 < (l0.length : Int)) = false := decide_eq_false c3; clear c3; obtain rfl := Option.some.inj H
    go_wp2
    go_ret; exact ⟨_, by first | rfl | (simp [errW_none, errW_some] <;> rfl) | (simp [*, errW_none, errW_some] <;> rfl), rl HO_5.out, bw⟩
end Go.Proofs.YtoggmegpodmfnaaGreatDoor.PS
