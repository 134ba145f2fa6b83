/- Contracts of functions that the law reaches: what each call answers, as a plain function of what it reads; on condition that the function answers there. Printed by this session's own tool. -/
import Derived.Test.YtoggmegpodmfnaaGreatDoorPSx01
import Derived.Test.YtoggmegpodmfnaaGreatDoorBSq
namespace Go.Proofs.YtoggmegpodmfnaaGreatDoor.PS
open Go.RowKit Go.Proofs.YtoggmegpodmfnaaGreatDoor.B Go.Proofs.YtoggmegpodmfnaaGreatDoorW.PrintWords Go.Proofs.YtoggmegpodmfnaaGreatDoorW.PrintLast Go.Proofs.YtoggmegpodmfnaaGreatDoorW.PrintMore
attribute [local go_sem] max2_int min2_int max_two min_two max_three min_three max_four min_four   -- for this text's walks alone
set_option linter.unusedVariables false
set_option linter.unusedSimpArgs false
def sets_has_1.f (a0_0 : Int) (a0_1 : Int) (a1 : Int) : Option (Int) := if a0_1 < a1 then (some (-1)) else (if a0_0 > a1 then (some 1) else (some 0))
set_option maxHeartbeats 8000000 in
set_option maxRecDepth 100000 in
theorem sets_has_1.calls (a0_0 : Int) (a0_1 : Int) (a1 : Int) (r : Int) (w : World) (h : sets_has_1.f a0_0 a0_1 a1 = some r) :
  Calls Tryz.prog 83 #[.agg #[.int .i32 a0_0, .int .i32 a0_1], .int .i32 a1] w fun e w' => e = .returned (.int .i64 r) ∧ Below w.heap.size w w' := by
 have hu41 := Tryz.underlying41; have HB : BelC w w := bc0; have H : (if a0_1 < a1 then (some (-1)) else (if a0_0 > a1 then (some 1) else (some 0))) = some r := h; clear h
 by_cases c3 : a0_1 < a1
 ·
  rw [if_pos c3] at H; have c3b0 : decide (a0_1 < a1) = true := decide_eq_true c3; clear c3; obtain rfl := Option.some.inj H; go_enter Tryz.func83, Tryz.ntmps83
  go_wp2_with (first | ((with_reducible refine gate_dst (N := 2) rfl ?_); refine box_event ?hg (N := 2) ?hd (cs := #[.int .i32 a0_0, .int .i32 a0_1]) (t := 41) ?hr ?_; (case hd => rfl); (case hg => rfl); (case hr => first | (go_simp; done) | (go_simp; rfl)); intro gb101 hg w4 hbox hb; have BK101 := Aside0.mk (hbox); have GW101 := Aside0.mk ((by rw [hg]; exact bz : w.heap.size ≤ gb101)); have GE101 := Aside0.mk ((by rw [hg]; exact bz : w.heap.size ≤ gb101)); replace HB : BelC w _ := bs hb; clear hb hbox hg; have hcz5_0 : w4.cell? ⟨gb101, 0, none⟩ = some (.int .i32 a0_0) := (blk_cell BK101.out 0).trans rfl; have hcz5_1 : w4.cell? ⟨gb101, 1, none⟩ = some (.int .i32 a0_1) := (blk_cell BK101.out 1).trans rfl; have hfz5_0 := blk_frozen BK101.out 0; have hfz5_1 := blk_frozen BK101.out 1))
  go_ret; exact ⟨by first | rfl | (simp [errW_none, errW_some] <;> rfl) | (simp [*, errW_none, errW_some] <;> rfl), by repeat (first | (with_reducible first | exact HB.out | apply below_alloc | apply pw_below_drewN | apply below_drew1 | refine below_set ?_ GE101.out) | exact HB.out)⟩
 ·
  rw [if_neg c3] at H; have c3b0 : decide (a0_1 < a1) = false := decide_eq_false c3; clear c3
  by_cases c6 : a0_0 > a1
  ·
   rw [if_pos c6] at H; have c6b0 : decide (a1 < a0_0) = true := decide_eq_true c6; clear c6; obtain rfl := Option.some.inj H; go_enter Tryz.func83, Tryz.ntmps83
   go_wp2_with (first | ((with_reducible refine gate_dst (N := 2) rfl ?_); refine box_event ?hg (N := 2) ?hd (cs := #[.int .i32 a0_0, .int .i32 a0_1]) (t := 41) ?hr ?_; (case hd => rfl); (case hg => rfl); (case hr => first | (go_simp; done) | (go_simp; rfl)); intro gb101 hg w7 hbox hb; have BK101 := Aside0.mk (hbox); have GW101 := Aside0.mk ((by rw [hg]; exact bz : w.heap.size ≤ gb101)); have GE101 := Aside0.mk ((by rw [hg]; exact bz : w.heap.size ≤ gb101)); replace HB : BelC w _ := bs hb; clear hb hbox hg; have hcz8_0 : w7.cell? ⟨gb101, 0, none⟩ = some (.int .i32 a0_0) := (blk_cell BK101.out 0).trans rfl; have hcz8_1 : w7.cell? ⟨gb101, 1, none⟩ = some (.int .i32 a0_1) := (blk_cell BK101.out 1).trans rfl; have hfz8_0 := blk_frozen BK101.out 0; have hfz8_1 := blk_frozen BK101.out 1))
   go_ret; exact ⟨by first | rfl | (simp [errW_none, errW_some] <;> rfl) | (simp [*, errW_none, errW_some] <;> rfl), by repeat (first | (with_reducible first | exact HB.out | apply below_alloc | apply pw_below_drewN | apply below_drew1 | refine below_set ?_ GE101.out) | exact HB.out)⟩
  ·
   rw [if_neg c6] at H; have c6b0 : decide (a1 < a0_0) = false := decide_eq_false c6; clear c6; obtain rfl := Option.some.inj H; go_enter Tryz.func83, Tryz.ntmps83
   go_wp2_with (first | ((with_reducible refine gate_dst (N := 2) rfl ?_); refine box_event ?hg (N := 2) ?hd (cs := #[.int .i32 a0_0, .int .i32 a0_1]) (t := 41) ?hr ?_; (case hd => rfl); (case hg => rfl); (case hr => first | (go_simp; done) | (go_simp; rfl)); intro gb101 hg w9 hbox hb; have BK101 := Aside0.mk (hbox); have GW101 := Aside0.mk ((by rw [hg]; exact bz : w.heap.size ≤ gb101)); have GE101 := Aside0.mk ((by rw [hg]; exact bz : w.heap.size ≤ gb101)); replace HB : BelC w _ := bs hb; clear hb hbox hg; have hcz10_0 : w9.cell? ⟨gb101, 0, none⟩ = some (.int .i32 a0_0) := (blk_cell BK101.out 0).trans rfl; have hcz10_1 : w9.cell? ⟨gb101, 1, none⟩ = some (.int .i32 a0_1) := (blk_cell BK101.out 1).trans rfl; have hfz10_0 := blk_frozen BK101.out 0; have hfz10_1 := blk_frozen BK101.out 1))
   go_ret; exact ⟨by first | rfl | (simp [errW_none, errW_some] <;> rfl) | (simp [*, errW_none, errW_some] <;> rfl), by repeat (first | (with_reducible first | exact HB.out | apply below_alloc | apply pw_below_drewN | apply below_drew1 | refine below_set ?_ GE101.out) | exact HB.out)⟩
def thistleref02_blocks.f  : Option ((List (S63))) := some (([(⟨0, 55295⟩ : S63), (⟨57344, 1114111⟩ : S63), (⟨1114240, 1114367⟩ : S63)] : List (S63)))
set_option maxHeartbeats 8000000 in
set_option maxRecDepth 100000 in
theorem thistleref02_blocks.calls  (r : List (S63)) (w : World) (h : thistleref02_blocks.f  = some r) :
    Calls Tryz.prog 61 #[] w fun e w' => ∃ v0_ : Value, e = .returned (v0_) ∧ Kd.R k63 63 w' w.heap.size (fun _ => True) v0_ r ∧ Below w.heap.size w w' := by
  have hu63 := Tryz.underlying63; have HB := Aside0.mk (Below.refl w.heap.size w); have H : (some (([(⟨0, 55295⟩ : S63), (⟨57344, 1114111⟩ : S63), (⟨1114240, 1114367⟩ : S63)] : List (S63)))) = some r := h; clear h; obtain ⟨y102, hy102⟩ : ∃ y_ : List (S63), y_ = (([(⟨0, 55295⟩ : S63), (⟨57344, 1114111⟩ : S63), (⟨1114240, 1114367⟩ : S63)] : List (S63))) := ⟨_, rfl⟩
  replace H : (some y102) = some r := by first | (rw [hy102]; with_reducible exact H) | (have H2_ := (Option.bind_some _ _).symm.trans H; rw [hy102]; with_reducible exact H2_) | (have H2_ := (Option.bind_some _ _).symm.trans H; with_reducible exact H2_) | with_reducible exact H | (rw [hy102]; exact H) | exact H
  have Ny102 := Aside0.mk hy102; clear hy102; obtain rfl := Option.some.inj H; go_enter Tryz.func61, Tryz.ntmps61
  go_wp2_with (first | ((with_reducible refine gate_dst (N := 4) rfl ?_); refine Kd.R_lit k63 _ 63 ?hg (N := 4) ?hd (xs := ([(⟨0, 55295⟩ : S63), (⟨57344, 1114111⟩ : S63), (⟨1114240, 1114367⟩ : S63)] : List (S63))) (inner := [.int .i64 0, .int .i64 55295, .int .i64 57344, .int .i64 1114111, .int .i64 1114240, .int .i64 1114367]) (ok := fun _ => True) (okp := fun _ => True) ?hr ?hp (fun _ hk => hk) trivial (Below.refl _ _) (Nat.le_refl _) (by simp) ?_; (case hd => rfl); (case hg => rfl); (case hr => first | (go_simp; done) | (go_simp; rfl)); (case hp => exact (Reps.c2 (show Kd.M k63 _ _ _ (⟨0, 55295⟩ : S63) [.int .i64 0, .int .i64 55295] from (k63_mkM _ _ _ (⟨0, 55295⟩ : S63) )) (Reps.c2 (show Kd.M k63 _ _ _ (⟨57344, 1114111⟩ : S63) [.int .i64 57344, .int .i64 1114111] from (k63_mkM _ _ _ (⟨57344, 1114111⟩ : S63) )) (Reps.c2 (show Kd.M k63 _ _ _ (⟨1114240, 1114367⟩ : S63) [.int .i64 1114240, .int .i64 1114367] from (k63_mkM _ _ _ (⟨1114240, 1114367⟩ : S63) )) (Reps.none _ _))))); intro v103 w1 ho2 hb hg_ hnew_; clear hg_ hnew_; (first | rw [← Ny102.out] at ho2 | (simp only [Int.reduceToNat] at ho2; rw [← Ny102.out] at ho2)); have n0_ := Aside0.mk (Kd.R_lower ho2 (below_size (by repeat (first | (with_reducible first | exact HB.out | apply below_alloc | apply pw_below_drewN | apply below_drew1) | exact HB.out)))); have n1_ := Aside0.mk (below_step (by repeat (first | (with_reducible first | exact HB.out | apply below_alloc | apply pw_below_drewN | apply below_drew1) | exact HB.out)) hb); clear HB; have HO104 := n0_; have HB := n1_; clear n0_ n1_; clear hb ho2))
  go_ret; exact ⟨_, by first | rfl | (simp [errW_none, errW_some] <;> rfl) | (simp [*, errW_none, errW_some] <;> rfl), by (with_reducible repeat (first | apply Kd.R_alloc | apply Kd.R_drewN | apply Kd.R_drew)); exact HO104.out, by repeat (first | (with_reducible first | exact HB.out | apply below_alloc | apply pw_below_drewN | apply below_drew1) | exact HB.out)⟩
def thistleref02_block.l0 : Nat → Int → List (S63) → Int → Option (Int)
  | 0, _, _, _ => none
  | k + 1, x0, x3, x4 => if x4 < (x3.length : Int) then (if 0 ≤ x4 then (if (wrap64 (x0)) ≥ ((rd_T63 x3 x4).f0) then (if (wrap64 (x0)) ≤ ((rd_T63 x3 x4).f1) then (some x4) else (thistleref02_block.l0 k x0 x3 (wrap64 (x4 + 1)))) else (thistleref02_block.l0 k x0 x3 (wrap64 (x4 + 1)))) else (none)) else (some (-1))
def thistleref02_block.f (k : Nat) (a0 : Int) : Option (Int) := (thistleref02_blocks.f).bind fun t105 => (thistleref02_block.l0 k a0 t105 0)
theorem thistleref02_block.mono_l : ∀ k, (∀ y0 y1 y2, LeO (thistleref02_block.l0 k y0 y1 y2) (thistleref02_block.l0 (k + 1) y0 y1 y2))
  | 0 => fun _ _ _ r h => by simp [thistleref02_block.l0] at h
  | k + 1 => by
    have ih0 := thistleref02_block.mono_l k
    · intro y0 y1 y2
      unfold thistleref02_block.l0
      repeat' first
      | (with_reducible exact ih0 _ _ _)
      | (with_reducible exact LeO.refl _)
      | (with_reducible exact LeO.none _)
      | (with_reducible refine LeO.ite ?_ ?_)
      | (with_reducible refine LeO.bind ?_ (fun _ => ?_))
      | exact ih0 _ _ _
      | exact LeO.none _
      | refine LeO.ite ?_ ?_
      | refine LeO.bind ?_ (fun _ => ?_)
theorem thistleref02_block.mono : ∀ a0 k, LeO (thistleref02_block.f k a0) (thistleref02_block.f (k + 1) a0) := by
  intro a0 k; have ih0 := thistleref02_block.mono_l k; unfold thistleref02_block.f
  repeat' first
      | (with_reducible exact ih0 _ _ _)
      | (with_reducible exact LeO.refl _)
      | (with_reducible exact LeO.none _)
      | (with_reducible refine LeO.ite ?_ ?_)
      | (with_reducible refine LeO.bind ?_ (fun _ => ?_))
      | exact ih0 _ _ _
      | exact LeO.none _
      | refine LeO.ite ?_ ?_
      | refine LeO.bind ?_ (fun _ => ?_)
set_option maxHeartbeats 8000000 in
set_option maxRecDepth 100000 in
theorem thistleref02_block.calls (k : Nat) (a0 : Int) (r : Int) (w : World) (h : thistleref02_block.f k a0 = some r) :
    Calls Tryz.prog 46 #[.int .i32 a0] w fun e w' => e = .returned (.int .i64 r) ∧ Below w.heap.size w w' := by
  have HB := Aside0.mk (Below.refl w.heap.size w); have H : ((thistleref02_blocks.f).bind fun t105 => (thistleref02_block.l0 k a0 t105 0)) = some r := h; clear h; replace H := Option.bind_eq_some_iff.mp H; obtain ⟨t105, A20, H⟩ := H; replace H : (thistleref02_block.l0 k a0 t105 0) = some r := H; have A2 := Aside0.mk A20; clear A20; have H' := Aside0.mk H; clear H; go_enter Tryz.func46, Tryz.ntmps46
  go_wp2_with (first | ((with_reducible refine gate_callee (f := 61) rfl ?_); refine goesL_ (some 5) rfl rfl Tryz.func61 (by kernel_rfl) rfl #[] rfl (by (try simp only [List.map_toArray, List.map_cons, List.map_nil]); first | done | rfl | (simp only [List.length_drop, List.length_take]; rfl)) ?_; (with_reducible refine (thistleref02_blocks.calls  t105 _ A2.out).mono ?_); rintro e w3 ⟨v106, rfl, ho0, hb⟩; refine ⟨_, rfl, ?_⟩; have n0_ := Aside0.mk (Kd.R_lower ho0 (below_size (by repeat (first | (with_reducible first | exact HB.out | apply below_alloc | apply pw_below_drewN | apply below_drew1) | exact HB.out)))); have n1_ := Aside0.mk (below_step (by repeat (first | (with_reducible first | exact HB.out | apply below_alloc | apply pw_below_drewN | apply below_drew1) | exact HB.out)) hb); clear HB; have HO107 := n0_; have HB := n1_; clear n0_ n1_; (try clear hb); (try clear hb2); (try clear hk); (try clear hi); (try clear ho0)))
  go_loopg [4] k (fun kq v4 w' => ∃ (x4_1 : Int), v4 = .int .i64 x4_1 ∧ Aside0 (thistleref02_block.l0 kq a0 t105 x4_1 = some r) ∧ Aside0 (kq ≤ k) ∧ Aside0 (Kd.R k63 63 w' w.heap.size (fun _ => True) v106 t105) ∧ Aside0 (Below w.heap.size w w'))
  case atStart => exact ⟨(0), (by first | rfl | (simp; done) | (simp [*]; done)), H', ⟨Nat.le_refl _⟩, ⟨by (with_reducible repeat (first | apply Kd.R_alloc | apply Kd.R_drewN | apply Kd.R_drew)); exact HO107.out⟩, ⟨by repeat (first | (with_reducible first | exact HB.out | apply below_alloc | apply pw_below_drewN | apply below_drew1) | exact HB.out)⟩⟩
  case round =>
    clear H'
    try clear p2
    obtain ⟨x4_1, rfl, HA, HK1, HO_3, HB⟩ := hrel
    cases gk with
    | zero => exact absurd HA.out (by simp [thistleref02_block.l0])
    | succ k1 =>
      have H := HA.out; clear HA; simp only [thistleref02_block.l0] at H
      by_cases c4 : x4_1 < (t105.length : Int)
      · rw [if_pos c4] at H
        have c4b0 : decide (x4_1 < (t105.length : Int)) = true := decide_eq_true c4; clear c4
        by_cases c5 : 0 ≤ x4_1
        · rw [if_pos c5] at H
          have c5b0 : decide (0 ≤ x4_1) = true := decide_eq_true c5; clear c5
          by_cases c6 : (wrap64 (a0)) ≥ ((rd_T63 t105 x4_1).f0)
          · rw [if_pos c6] at H
            have c6b0 : decide (((rd_T63 t105 x4_1).f0) ≤ (wrap64 (a0))) = true := decide_eq_true c6; clear c6
            by_cases c7 : (wrap64 (a0)) ≤ ((rd_T63 t105 x4_1).f1)
            · rw [if_pos c7] at H
              have c7b0 : decide ((wrap64 (a0)) ≤ ((rd_T63 t105 x4_1).f1)) = true := decide_eq_true c7; clear c7; obtain rfl := Option.some.inj H; obtain ⟨Ao8, co8, eo8⟩ := Kd.R_slice HO_3.out; subst eo8; have p108 : 0 ≤ (x4_1 : Int) := of_decide_eq_true (by first | (with_reducible assumption) | assumption); have q108 : x4_1 < (t105.length : Int) := of_decide_eq_true (by first | (with_reducible assumption) | assumption); obtain ⟨ad108, e108, hx108_0, hx108_1⟩ := at_T63 (Kd.R_reads' HO_3.out).2.2 x4_1 p108 q108
              cases e108
              replace p108 := eq_true p108; replace q108 := eq_true q108; have p109 : 0 ≤ (x4_1 : Int) := of_decide_eq_true (by first | (with_reducible assumption) | assumption); have q109 : x4_1 < (t105.length : Int) := of_decide_eq_true (by first | (with_reducible assumption) | assumption); obtain ⟨ad109, e109, hx109_0, hx109_1⟩ := at_T63 (Kd.R_reads' HO_3.out).2.2 x4_1 p109 q109; obtain rfl : ad108 = ad109 := (by injection e109); replace p109 := eq_true p109; replace q109 := eq_true q109
              go_wp2
              go_ret; exact ⟨by first | rfl | (simp [errW_none, errW_some] <;> rfl) | (simp [*, errW_none, errW_some] <;> rfl), by repeat (first | (with_reducible first | exact HB.out | apply below_alloc | apply pw_below_drewN | apply below_drew1) | exact HB.out)⟩
            · rw [if_neg c7] at H
              have c7b0 : decide ((wrap64 (a0)) ≤ ((rd_T63 t105 x4_1).f1)) = false := decide_eq_false c7; clear c7; have H' := Aside0.mk H; clear H; obtain ⟨Ao9, co9, eo9⟩ := Kd.R_slice HO_3.out; subst eo9; have p108 : 0 ≤ (x4_1 : Int) := of_decide_eq_true (by first | (with_reducible assumption) | assumption); have q108 : x4_1 < (t105.length : Int) := of_decide_eq_true (by first | (with_reducible assumption) | assumption); obtain ⟨ad108, e108, hx108_0, hx108_1⟩ := at_T63 (Kd.R_reads' HO_3.out).2.2 x4_1 p108 q108
              cases e108
              replace p108 := eq_true p108; replace q108 := eq_true q108; have p109 : 0 ≤ (x4_1 : Int) := of_decide_eq_true (by first | (with_reducible assumption) | assumption); have q109 : x4_1 < (t105.length : Int) := of_decide_eq_true (by first | (with_reducible assumption) | assumption); obtain ⟨ad109, e109, hx109_0, hx109_1⟩ := at_T63 (Kd.R_reads' HO_3.out).2.2 x4_1 p109 q109; obtain rfl : ad108 = ad109 := (by injection e109); replace p109 := eq_true p109; replace q109 := eq_true q109
              go_wp2
              go_roundg k1
              case measure => have := HK1.out; omega
              case rel => exact ⟨(wrap64 (x4_1 + 1)), (by first | rfl | (simp; done) | (simp [*]; done)), H', ⟨by have := HK1.out; omega⟩, ⟨by (with_reducible repeat (first | apply Kd.R_alloc | apply Kd.R_drewN | apply Kd.R_drew)); exact HO_3.out⟩, ⟨by repeat (first | (with_reducible first | exact HB.out | apply below_alloc | apply pw_below_drewN | apply below_drew1) | exact HB.out)⟩⟩
          · rw [if_neg c6] at H
            have c6b0 : decide (((rd_T63 t105 x4_1).f0) ≤ (wrap64 (a0))) = false := decide_eq_false c6; clear c6; have H' := Aside0.mk H; clear H; obtain ⟨Ao10, co10, eo10⟩ := Kd.R_slice HO_3.out; subst eo10; have p108 : 0 ≤ (x4_1 : Int) := of_decide_eq_true (by first | (with_reducible assumption) | assumption); have q108 : x4_1 < (t105.length : Int) := of_decide_eq_true (by first | (with_reducible assumption) | assumption); obtain ⟨ad108, e108, hx108_0, hx108_1⟩ := at_T63 (Kd.R_reads' HO_3.out).2.2 x4_1 p108 q108
            cases e108
            replace p108 := eq_true p108; replace q108 := eq_true q108
            go_wp2
            go_roundg k1
            case measure => have := HK1.out; omega
            case rel => exact ⟨(wrap64 (x4_1 + 1)), (by first | rfl | (simp; done) | (simp [*]; done)), H', ⟨by have := HK1.out; omega⟩, ⟨by (with_reducible repeat (first | apply Kd.R_alloc | apply Kd.R_drewN | apply Kd.R_drew)); exact HO_3.out⟩, ⟨by repeat (first | (with_reducible first | exact HB.out | apply below_alloc | apply pw_below_drewN | apply below_drew1) | exact HB.out)⟩⟩
        · rw [if_neg c5] at H; exact absurd H (by simp)
      · rw [if_neg c4] at H
        have c4b0 : decide (x4_1 < (t105.length : Int)) = false := decide_eq_false c4; clear c4; obtain rfl := Option.some.inj H; obtain ⟨Ao11, co11, eo11⟩ := Kd.R_slice HO_3.out; subst eo11
        go_wp2
        go_ret; exact ⟨by first | rfl | (simp [errW_none, errW_some] <;> rfl) | (simp [*, errW_none, errW_some] <;> rfl), by repeat (first | (with_reducible first | exact HB.out | apply below_alloc | apply pw_below_drewN | apply below_drew1) | exact HB.out)⟩
def thistleref02_least.f (a0 : Int) (a1 : Int) : Option (Int) := if a0 < a1 then (some a0) else (some a1)
set_option maxHeartbeats 8000000 in
set_option maxRecDepth 100000 in
theorem thistleref02_least.calls (a0 : Int) (a1 : Int) (r : Int) (w : World) (h : thistleref02_least.f a0 a1 = some r) :
  Calls Tryz.prog 90 #[.int .i64 a0, .int .i64 a1] w fun e w' => e = .returned (.int .i64 r) ∧ Drawn0 w w' := by
 have H : (if a0 < a1 then (some a0) else (some a1)) = some r := h; clear h
 by_cases c3 : a0 < a1
 ·
  rw [if_pos c3] at H; have c3b0 : decide (a0 < a1) = true := decide_eq_true c3; clear c3; obtain rfl := Option.some.inj H; go_enter Tryz.func90, Tryz.ntmps90
  go_wp2
  go_ret; exact ⟨by first | rfl | (simp; done) | (simp [*]; done), by repeat (first | exact Drawn0.refl _ | apply Drawn0.step)⟩
 ·
  rw [if_neg c3] at H; have c3b0 : decide (a0 < a1) = false := decide_eq_false c3; clear c3; obtain rfl := Option.some.inj H; go_enter Tryz.func90, Tryz.ntmps90
  go_wp2
  go_ret; exact ⟨by first | rfl | (simp; done) | (simp [*]; done), by repeat (first | exact Drawn0.refl _ | apply Drawn0.step)⟩
def sets_band.f (a0 : Int) : Option Int := some (bandOf a0)
theorem sets_band.calls (a0 : Int) (r : Int) (w : World) (hG : Glob w) (h : sets_band.f a0 = some r) :
    Calls Tryz.prog 50 #[.int .i32 a0] w fun e w' => e = .returned (.int .i64 r) ∧ Below w.heap.size w w' := by
  obtain rfl := Option.some.inj h; exact bandCalls a0 w hG
mutual
def sets_Check.l0 : Nat → List (S41) → List (S41) → Int → Int → Option (Int)
 | 0, _, _, _, _ => none
 | k + 1, x0, x6, x7, x8 => if x8 < x7 then (if 0 ≤ x8 then (if x8 < (x6.length : Int) then ((sets_band.f ((rd_T41 x6 x8).f0)).bind fun t112 => (if t112 < 0 then (sets_Check.j1 k x0 x8 x6 x7 x8 true ((rd_T41 x6 x8).f0) ((rd_T41 x6 x8).f1)) else ((sets_band.f ((rd_T41 x6 x8).f1)).bind fun t113 => (if t112 = t113 then (sets_Check.j1 k x0 x8 x6 x7 x8 (decide (((rd_T41 x6 x8).f0) > ((rd_T41 x6 x8).f1))) ((rd_T41 x6 x8).f0) ((rd_T41 x6 x8).f1)) else (sets_Check.j1 k x0 x8 x6 x7 x8 true ((rd_T41 x6 x8).f0) ((rd_T41 x6 x8).f1)))))) else (none)) else (none)) else (some 0)
def sets_Check.j1 : Nat → List (S41) → Int → List (S41) → Int → Int → Bool → Int → Int → Option (Int)
 | 0, _, _, _, _, _, _, _, _ => none
 | k + 1, x0, x3, x6, x7, x8, x31, x112000, x112001 => if x31 = true then (some 1) else (if x3 > 0 then (if 0 ≤ (wrap64 (x3 - 1)) then (if (wrap64 (x3 - 1)) < (x0.length : Int) then (if x112000 ≤ ((rd_T41 x0 (wrap64 (x3 - 1))).f1) then (some 1) else (if x112000 = (wrap32 (((rd_T41 x0 (wrap64 (x3 - 1))).f1) + 1)) then (some 1) else (sets_Check.l0 k x0 x6 x7 (wrap64 (x8 + 1))))) else (none)) else (none)) else (sets_Check.l0 k x0 x6 x7 (wrap64 (x8 + 1))))
end
def sets_Check.f (k : Nat) (l0 : List (S41)) : Option (Int) := sets_Check.l0 k l0 l0 (l0.length : Int) 0
theorem sets_Check.mono_l : ∀ k, (∀ y0 y1 y2 y3, LeO (sets_Check.l0 k y0 y1 y2 y3) (sets_Check.l0 (k + 1) y0 y1 y2 y3)) ∧ (∀ y0 y1 y2 y3 y4 y5 y6 y7, LeO (sets_Check.j1 k y0 y1 y2 y3 y4 y5 y6 y7) (sets_Check.j1 (k + 1) y0 y1 y2 y3 y4 y5 y6 y7))
 | 0 => ⟨fun _ _ _ _ r h => by simp [sets_Check.l0] at h, fun _ _ _ _ _ _ _ _ r h => by simp [sets_Check.j1] at h⟩
 | k + 1 => by
  obtain ⟨ih0, ih1⟩ := sets_Check.mono_l k; refine ⟨?_, ?_⟩
  ·
   intro y0 y1 y2 y3; unfold sets_Check.l0
   repeat' first
   | (with_reducible exact ih0 _ _ _ _)
   | (with_reducible exact ih1 _ _ _ _ _ _ _ _)
   | (with_reducible exact LeO.refl _)
   | (with_reducible exact LeO.none _)
   | (with_reducible refine LeO.ite ?_ ?_)
   | (with_reducible refine LeO.bind ?_ (fun _ => ?_))
  ·
   intro y0 y1 y2 y3 y4 y5 y6 y7; unfold sets_Check.j1
   repeat' first
   | (with_reducible exact ih0 _ _ _ _)
   | (with_reducible exact ih1 _ _ _ _ _ _ _ _)
   | (with_reducible exact LeO.refl _)
   | (with_reducible exact LeO.none _)
   | (with_reducible refine LeO.ite ?_ ?_)
   | (with_reducible refine LeO.bind ?_ (fun _ => ?_))
theorem sets_Check.mono : ∀ a0 k, LeO (sets_Check.f k a0) (sets_Check.f (k + 1) a0) := by
 intro a0 k; obtain ⟨ih0, ih1⟩ := sets_Check.mono_l k; unfold sets_Check.f
 repeat' first
   | (with_reducible exact ih0 _ _ _ _)
   | (with_reducible exact ih1 _ _ _ _ _ _ _ _)
   | (with_reducible exact LeO.refl _)
   | (with_reducible exact LeO.none _)
   | (with_reducible refine LeO.ite ?_ ?_)
   | (with_reducible refine LeO.bind ?_ (fun _ => ?_))
set_option maxHeartbeats 8000000 in
set_option maxRecDepth 100000 in
theorem sets_Check.calls (k : Nat) (A0 : Option Addr) (c0 : Nat) (l0 : List (S41)) (r : Int) (w : World) (hr0 : Kd.C k41 w A0 l0.length l0) (hc0 : l0.length ≤ c0) (hG : Glob w) (h : sets_Check.f k l0 = some r) :
  Calls Tryz.prog 24 #[.slice A0 l0.length c0] w fun e w' => e = .returned (.int .i64 r) ∧ Below w.heap.size w w' := by
 have hu41 := Tryz.underlying41; have HR0 := Aside0.mk hr0; have HC0 := Aside0.mk hc0; clear hr0 hc0; have HB : BelC w w := bc0; have H : (sets_Check.l0 k l0 l0 (l0.length : Int) 0) = some r := h; clear h; have H' := Aside0.mk H; clear H; go_enter Tryz.func24, Tryz.ntmps24
 go_wp2
 repeat (go_quiet (fail); try go_wp2)
 go_loopg [8] k (fun kq v8 w' => ∃ (x8_1 : Int), v8 = .int .i64 x8_1 ∧ Aside0 (sets_Check.l0 kq l0 l0 (l0.length : Int) x8_1 = some r) ∧ Aside0 (kq ≤ k) ∧ BelC w w')
 case atStart => exact ⟨(0), (by first | rfl | (simp; done) | (simp [*]; done)), H', ⟨Nat.le_refl _⟩, ⟨bw⟩⟩
 case round =>
  clear H'; obtain ⟨x8_1, rfl, HA, HK1, HB⟩ := hrel
  cases gk with
  | zero => exact absurd HA.out (by simp [sets_Check.l0])
  | succ k1 =>
   have H := HA.out; clear HA; simp only [sets_Check.l0] at H
   by_cases c2 : x8_1 < (l0.length : Int)
   ·
    rw [if_pos c2] at H; have c2b0 : decide (x8_1 < (l0.length : Int)) = true := decide_eq_true c2; clear c2
    by_cases c3 : 0 ≤ x8_1
    ·
     rw [if_pos c3] at H; have c3b0 : decide (0 ≤ x8_1) = true := decide_eq_true c3; clear c3
     by_cases c4 : x8_1 < (l0.length : Int)
     ·
      rw [if_pos c4] at H; have c4b0 : decide (x8_1 < (l0.length : Int)) = true := decide_eq_true c4; clear c4; replace H := Option.bind_eq_some_iff.mp H; obtain ⟨t112, A50, H⟩ := H; replace H : (if t112 < 0 then (sets_Check.j1 k1 l0 x8_1 l0 (l0.length : Int) x8_1 true ((rd_T41 l0 x8_1).f0) ((rd_T41 l0 x8_1).f1)) else ((sets_band.f ((rd_T41 l0 x8_1).f1)).bind fun t113 => (if t112 = t113 then (sets_Check.j1 k1 l0 x8_1 l0 (l0.length : Int) x8_1 (decide (((rd_T41 l0 x8_1).f0) > ((rd_T41 l0 x8_1).f1))) ((rd_T41 l0 x8_1).f0) ((rd_T41 l0 x8_1).f1)) else (sets_Check.j1 k1 l0 x8_1 l0 (l0.length : Int) x8_1 true ((rd_T41 l0 x8_1).f0) ((rd_T41 l0 x8_1).f1))))) = some r := H; have A5 := Aside0.mk A50; clear A50; have HC6 := Aside0.mk H; clear H; have p110 : 0 ≤ (x8_1 : Int) := od (by assumption); have q110 : x8_1 < (l0.length : Int) := od (by assumption); obtain ⟨ad110, e110, hx110_0, hx110_1⟩ := at_T41 HR0.out x8_1 p110 q110
      cases e110
      replace hx110_0 := (HB.out.cell (World.block_lt_of_cell? w _ hx110_0)).trans hx110_0; replace hx110_1 := (HB.out.cell (World.block_lt_of_cell? w _ hx110_1)).trans hx110_1; replace p110 := eq_true p110; replace q110 := eq_true q110
      go_upto_region 5 with (first | ((with_reducible refine gate_dst (N := 4) rfl ?_); refine box_event ?hg (N := 4) ?hd (cs := #[.int .i32 0, .int .i32 0]) (t := 41) ?hr ?_; (case hd => rfl); (case hg => rfl); (case hr => first | (go_simp; done) | (go_simp; rfl)); intro gb111 hg w7 hbox hb; have BK111 := Aside0.mk (hbox); have GW111 := Aside0.mk ((by rw [hg]; exact bz : w.heap.size ≤ gb111)); have GE111 := Aside0.mk ((by rw [hg]; exact bz : w.heap.size ≤ gb111)); replace HB : BelC w _ := bs hb; clear hb hbox hg; have hcz8_0 : w7.cell? ⟨gb111, 0, none⟩ = some (.int .i32 0) := (blk_cell BK111.out 0).trans rfl; have hcz8_1 : w7.cell? ⟨gb111, 1, none⟩ = some (.int .i32 0) := (blk_cell BK111.out 1).trans rfl; have hfz8_0 := blk_frozen BK111.out 0; have hfz8_1 := blk_frozen BK111.out 1) | (go_at_call 50; (with_reducible refine (sets_band.calls ((rd_T41 l0 x8_1).f0) t112 _ ?side1 A5.out).mono ?_); (case side1 => first | exact hG | exact Glob.of_below hG (by repeat (first | (with_reducible first | exact HB.out | apply below_alloc | apply pw_below_drewN | apply below_drew1 | refine below_set ?_ GE111.out) | exact HB.out)) | exact Glob.of_below hG HB.out | exact Glob.drewN hG _ | exact Glob.drew hG | (with_reducible repeat (first | exact hG | apply Glob.drewN | apply Glob.drew | apply Glob.alloc))); rintro e w9 ⟨rfl, hb⟩; replace BK111 := Aside0.mk (blk_below (g := gb111) (o := .cells #[.int .i32 ((rd_T41 l0 x8_1).f0), .int .i32 ((rd_T41 l0 x8_1).f1)] 41 (0, 0)) (by (with_reducible repeat (first | refine blk_drewN ?_ _ | refine blk_drew ?_ | refine blk_alloc ?_ _)); refine blk_put (cs := #[.int .i32 ((rd_T41 l0 x8_1).f0), .int .i32 0]) ?_ 1 _ rfl; (with_reducible repeat (first | refine blk_drewN ?_ _ | refine blk_drew ?_ | refine blk_alloc ?_ _)); refine blk_put (cs := #[.int .i32 0, .int .i32 0]) ?_ 0 _ rfl; (with_reducible repeat (first | refine blk_drewN ?_ _ | refine blk_drew ?_ | refine blk_alloc ?_ _)); exact BK111.out) hb); replace HB : BelC w _ := ⟨below_step (by repeat (first | (with_reducible first | exact HB.out | apply below_alloc | apply pw_below_drewN | apply below_drew1 | refine below_set ?_ GE111.out) | exact HB.out)) hb⟩; (try clear hb); (try clear hb2); (try clear hk); (try clear hi)))
      repeat (go_quiet (fail); try go_wp2)
      (try simp only [Act.put, List.setIfInBounds_toArray, List.set_cons_zero, List.set_cons_succ])
      go_cut [31] (fun v31 wc => ∃ (kq : Nat) (x31_5 : Bool), v31 = .bool x31_5 ∧ Aside0 (sets_Check.j1 kq l0 x8_1 l0 (l0.length : Int) x8_1 x31_5 ((rd_T41 l0 x8_1).f0) ((rd_T41 l0 x8_1).f1) = some r) ∧ Aside0 (kq ≤ k1) ∧ Aside0 (wc.heap[gb111]? = some (.cells #[.int .i32 ((rd_T41 l0 x8_1).f0), .int .i32 ((rd_T41 l0 x8_1).f1)] 41 (0, 0))) ∧ BelC w wc)
      case first =>
       have H := HC6.out; clear HC6
       by_cases c10 : t112 < 0
       ·
        rw [if_pos c10] at H; have c10b0 : decide (t112 < 0) = true := decide_eq_true c10; clear c10
        (first | rw [c10b0] | (simp only [i64_w, i32_w]; rw [c10b0]) | skip)
        have H' := Aside0.mk H; clear H
        go_wp2
        repeat (go_quiet (fail); try go_wp2)
        go_meet
        case rel => exact ⟨_, (true), (by first | rfl | (simp; done) | (simp [*]; done)), H', ⟨by have := HK1.out; first | omega | exact Nat.le_refl _⟩, ⟨by (with_reducible repeat (first | refine blk_drewN ?_ _ | refine blk_drew ?_ | refine blk_alloc ?_ _)); exact BK111.out⟩, ⟨by repeat (first | (with_reducible first | exact HB.out | apply below_alloc | apply pw_below_drewN | apply below_drew1 | refine below_set ?_ GE111.out) | exact HB.out)⟩⟩
       ·
        rw [if_neg c10] at H; have c10b0 : decide (t112 < 0) = false := decide_eq_false c10; clear c10
        (first | rw [c10b0] | (simp only [i64_w, i32_w]; rw [c10b0]) | skip)
        replace H := Option.bind_eq_some_iff.mp H; obtain ⟨t113, A110, H⟩ := H; replace H : (if t112 = t113 then (sets_Check.j1 k1 l0 x8_1 l0 (l0.length : Int) x8_1 (decide (((rd_T41 l0 x8_1).f0) > ((rd_T41 l0 x8_1).f1))) ((rd_T41 l0 x8_1).f0) ((rd_T41 l0 x8_1).f1)) else (sets_Check.j1 k1 l0 x8_1 l0 (l0.length : Int) x8_1 true ((rd_T41 l0 x8_1).f0) ((rd_T41 l0 x8_1).f1))) = some r := H; have A11 := Aside0.mk A110; clear A110
        by_cases c12 : t112 = t113
        ·
         rw [if_pos c12] at H; have c12b0 : (t112 == t113) = true := beq_iff_eq.mpr c12; have c12b1 : (t112 != t113) = false := bne_eq_false_iff_eq.mpr c12; clear c12; have H' := Aside0.mk H; clear H; have hcz13_0 : w9.cell? ⟨gb111, 0, none⟩ = some (.int .i32 ((rd_T41 l0 x8_1).f0)) := (blk_cell BK111.out 0).trans rfl; have hcz13_1 : w9.cell? ⟨gb111, 1, none⟩ = some (.int .i32 ((rd_T41 l0 x8_1).f1)) := (blk_cell BK111.out 1).trans rfl; have hfz13_0 := blk_frozen BK111.out 0; have hfz13_1 := blk_frozen BK111.out 1
         go_wp2_with (first | (go_at_call 50; (with_reducible refine (sets_band.calls ((rd_T41 l0 x8_1).f1) t113 _ ?side1 A11.out).mono ?_); (case side1 => first | exact hG | exact Glob.of_below hG (by repeat (first | (with_reducible first | exact HB.out | apply below_alloc | apply pw_below_drewN | apply below_drew1 | refine below_set ?_ GE111.out) | exact HB.out)) | exact Glob.of_below hG HB.out | exact Glob.drewN hG _ | exact Glob.drew hG | (with_reducible repeat (first | exact hG | apply Glob.drewN | apply Glob.drew | apply Glob.alloc))); rintro e w14 ⟨rfl, hb⟩; replace BK111 := Aside0.mk (blk_below (g := gb111) (o := .cells #[.int .i32 ((rd_T41 l0 x8_1).f0), .int .i32 ((rd_T41 l0 x8_1).f1)] 41 (0, 0)) (by (with_reducible repeat (first | refine blk_drewN ?_ _ | refine blk_drew ?_ | refine blk_alloc ?_ _)); exact BK111.out) hb); replace HB : BelC w _ := ⟨below_step (by repeat (first | (with_reducible first | exact HB.out | apply below_alloc | apply pw_below_drewN | apply below_drew1 | refine below_set ?_ GE111.out) | exact HB.out)) hb⟩; (try clear hb); (try clear hb2); (try clear hk); (try clear hi); have hcz15_0 : w14.cell? ⟨gb111, 0, none⟩ = some (.int .i32 ((rd_T41 l0 x8_1).f0)) := (blk_cell BK111.out 0).trans rfl; have hcz15_1 : w14.cell? ⟨gb111, 1, none⟩ = some (.int .i32 ((rd_T41 l0 x8_1).f1)) := (blk_cell BK111.out 1).trans rfl; have hfz15_0 := blk_frozen BK111.out 0; have hfz15_1 := blk_frozen BK111.out 1))
         repeat (go_quiet (fail); try go_wp2)
         go_meet
         case rel => exact ⟨_, (decide (((rd_T41 l0 x8_1).f0) > ((rd_T41 l0 x8_1).f1))), (by first | rfl | (simp; done) | (simp [*]; done)), H', ⟨by have := HK1.out; first | omega | exact Nat.le_refl _⟩, ⟨by (with_reducible repeat (first | refine blk_drewN ?_ _ | refine blk_drew ?_ | refine blk_alloc ?_ _)); exact BK111.out⟩, ⟨by repeat (first | (with_reducible first | exact HB.out | apply below_alloc | apply pw_below_drewN | apply below_drew1 | refine below_set ?_ GE111.out) | exact HB.out)⟩⟩
        ·
         rw [if_neg c12] at H; have c12b0 : (t112 == t113) = false := beq_eq_false_iff_ne.mpr c12; have c12b1 : (t112 != t113) = true := bne_iff_ne.mpr c12; have H' := Aside0.mk H; clear H; have hcz16_0 : w9.cell? ⟨gb111, 0, none⟩ = some (.int .i32 ((rd_T41 l0 x8_1).f0)) := (blk_cell BK111.out 0).trans rfl; have hcz16_1 : w9.cell? ⟨gb111, 1, none⟩ = some (.int .i32 ((rd_T41 l0 x8_1).f1)) := (blk_cell BK111.out 1).trans rfl; have hfz16_0 := blk_frozen BK111.out 0; have hfz16_1 := blk_frozen BK111.out 1
         go_wp2_with (first | (go_at_call 50; (with_reducible refine (sets_band.calls ((rd_T41 l0 x8_1).f1) t113 _ ?side1 A11.out).mono ?_); (case side1 => first | exact hG | exact Glob.of_below hG (by repeat (first | (with_reducible first | exact HB.out | apply below_alloc | apply pw_below_drewN | apply below_drew1 | refine below_set ?_ GE111.out) | exact HB.out)) | exact Glob.of_below hG HB.out | exact Glob.drewN hG _ | exact Glob.drew hG | (with_reducible repeat (first | exact hG | apply Glob.drewN | apply Glob.drew | apply Glob.alloc))); rintro e w17 ⟨rfl, hb⟩; replace BK111 := Aside0.mk (blk_below (g := gb111) (o := .cells #[.int .i32 ((rd_T41 l0 x8_1).f0), .int .i32 ((rd_T41 l0 x8_1).f1)] 41 (0, 0)) (by (with_reducible repeat (first | refine blk_drewN ?_ _ | refine blk_drew ?_ | refine blk_alloc ?_ _)); exact BK111.out) hb); replace HB : BelC w _ := ⟨below_step (by repeat (first | (with_reducible first | exact HB.out | apply below_alloc | apply pw_below_drewN | apply below_drew1 | refine below_set ?_ GE111.out) | exact HB.out)) hb⟩; (try clear hb); (try clear hb2); (try clear hk); (try clear hi)))
         repeat (go_quiet (fail); try go_wp2)
         go_meet
         case rel => exact ⟨_, (true), (by first | rfl | (simp; done) | (simp [*]; done)), H', ⟨by have := HK1.out; first | omega | exact Nat.le_refl _⟩, ⟨by (with_reducible repeat (first | refine blk_drewN ?_ _ | refine blk_drew ?_ | refine blk_alloc ?_ _)); exact BK111.out⟩, ⟨by repeat (first | (with_reducible first | exact HB.out | apply below_alloc | apply pw_below_drewN | apply below_drew1 | refine below_set ?_ GE111.out) | exact HB.out)⟩⟩
      case rest =>
       clear HC6
       try clear c1
       try clear p1
       try clear q1
       try clear hx1
       try clear c2
       try clear c2b0
       try clear p2
       try clear c3
       try clear c3b0
       try clear c4
       try clear c4b0
       try clear c10
       try clear c10b0
       try clear p11
       try clear q11
       try clear hx11
       try clear c12
       try clear c12b0
       try clear c12b1
       try clear hcz13_0
       try clear hcz13_1
       try clear hcz15_0
       try clear hcz15_1
       try clear hcz16_0
       try clear hcz16_1
       try clear hcz8_0
       try clear hcz8_1
       try clear hfz13_0
       try clear hfz13_1
       try clear hfz15_0
       try clear hfz15_1
       try clear hfz16_0
       try clear hfz16_1
       try clear hfz8_0
       try clear hfz8_1
       try clear hx110_0
       try clear hx110_1
       try clear p110
       try clear q110
       obtain ⟨kq, x31_5, rfl, HA, HJ5, BK111, HB⟩ := hcut
       cases kq with
       | zero => exact absurd HA.out (by simp [sets_Check.j1])
       | succ kj5 =>
        have H := HA.out; clear HA; simp only [sets_Check.j1] at H
        by_cases c18 : x31_5 = true
        ·
         subst c18
         have H1 : (some 1) = some r := by rw [if_pos rfl] at H; exact H
         clear H; have H := H1; clear H1; obtain rfl := Option.some.inj H
         go_wp2
         repeat (go_quiet (fail); try go_wp2)
         go_ret; exact ⟨by first | rfl | (simp [errW_none, errW_some] <;> rfl) | (simp [*, errW_none, errW_some] <;> rfl), by repeat (first | (with_reducible first | exact HB.out | apply below_alloc | apply pw_below_drewN | apply below_drew1 | refine below_set ?_ GE111.out) | exact HB.out)⟩
        ·
         replace c18 := Bool.eq_false_iff.mpr c18; subst c18
         have H1 : (if x8_1 > 0 then (if 0 ≤ (wrap64 (x8_1 - 1)) then (if (wrap64 (x8_1 - 1)) < (l0.length : Int) then (if ((rd_T41 l0 x8_1).f0) ≤ ((rd_T41 l0 (wrap64 (x8_1 - 1))).f1) then (some 1) else (if ((rd_T41 l0 x8_1).f0) = (wrap32 (((rd_T41 l0 (wrap64 (x8_1 - 1))).f1) + 1)) then (some 1) else (sets_Check.l0 kj5 l0 l0 (l0.length : Int) (wrap64 (x8_1 + 1))))) else (none)) else (none)) else (sets_Check.l0 kj5 l0 l0 (l0.length : Int) (wrap64 (x8_1 + 1)))) = some r := by rw [if_neg (show ¬ (false = true) by decide)] at H; exact H
         clear H; have H := H1; clear H1
         by_cases c19 : x8_1 > 0
         ·
          rw [if_pos c19] at H; have c19b0 : decide (0 < x8_1) = true := decide_eq_true c19; clear c19; obtain ⟨ji20, hji20⟩ : ∃ j_ : Int, (wrap64 (x8_1 - 1)) = j_ := ⟨_, rfl⟩
          replace H : (if 0 ≤ (ji20) then (if (ji20) < (l0.length : Int) then (if ((rd_T41 l0 x8_1).f0) ≤ ((rd_T41 l0 (ji20)).f1) then (some 1) else (if ((rd_T41 l0 x8_1).f0) = (wrap32 (((rd_T41 l0 (ji20)).f1) + 1)) then (some 1) else (sets_Check.l0 kj5 l0 l0 (l0.length : Int) (wrap64 (x8_1 + 1))))) else (none)) else (none)) = some r := by first | (rw [hji20] at H; exact H) | (simp only [hji20] at H ⊢; exact H)
          have hji20w : (IntKind.i64.wrap (x8_1 - 1)) = ji20 := (i64_w _).trans hji20
          by_cases c21 : 0 ≤ (ji20)
          ·
           rw [if_pos c21] at H; have c21b0 : decide (0 ≤ (ji20)) = true := decide_eq_true c21; clear c21
           by_cases c22 : (ji20) < (l0.length : Int)
           ·
            rw [if_pos c22] at H; have c22b0 : decide ((ji20) < (l0.length : Int)) = true := decide_eq_true c22; clear c22
            by_cases c23 : ((rd_T41 l0 x8_1).f0) ≤ ((rd_T41 l0 (ji20)).f1)
            ·
             rw [if_pos c23] at H; have c23b0 : decide (((rd_T41 l0 x8_1).f0) ≤ ((rd_T41 l0 (ji20)).f1)) = true := decide_eq_true c23; clear c23; obtain rfl := Option.some.inj H; have hcz24_0 : wc.cell? ⟨gb111, 0, none⟩ = some (.int .i32 ((rd_T41 l0 x8_1).f0)) := (blk_cell BK111.out 0).trans rfl; have hcz24_1 : wc.cell? ⟨gb111, 1, none⟩ = some (.int .i32 ((rd_T41 l0 x8_1).f1)) := (blk_cell BK111.out 1).trans rfl; have hfz24_0 := blk_frozen BK111.out 0; have hfz24_1 := blk_frozen BK111.out 1; have p114 : 0 ≤ ((ji20) : Int) := od (by assumption); have q114 : (ji20) < (l0.length : Int) := od (by assumption); obtain ⟨ad114, e114, hx114_0, hx114_1⟩ := at_T41 HR0.out (ji20) p114 q114; obtain rfl : ad110 = ad114 := (by injection e114); replace hx114_0 := (HB.out.cell (World.block_lt_of_cell? w _ hx114_0)).trans hx114_0; replace hx114_1 := (HB.out.cell (World.block_lt_of_cell? w _ hx114_1)).trans hx114_1; replace p114 := eq_true p114; replace q114 := eq_true q114
             go_wp2
             repeat (go_quiet (fail); try go_wp2)
             go_ret; exact ⟨by first | rfl | (simp [errW_none, errW_some] <;> rfl) | (simp only [← hji20]; first | rfl | (simp [errW_none, errW_some] <;> rfl)) | (simp [*, errW_none, errW_some] <;> rfl), by repeat (first | (with_reducible first | exact HB.out | apply below_alloc | apply pw_below_drewN | apply below_drew1 | refine below_set ?_ GE111.out) | exact HB.out)⟩
            ·
             rw [if_neg c23] at H; have c23b0 : decide (((rd_T41 l0 x8_1).f0) ≤ ((rd_T41 l0 (ji20)).f1)) = false := decide_eq_false c23; clear c23
             by_cases c25 : ((rd_T41 l0 x8_1).f0) = (wrap32 (((rd_T41 l0 (ji20)).f1) + 1))
             ·
              rw [if_pos c25] at H; have c25b0 : (((rd_T41 l0 x8_1).f0) == (wrap32 (((rd_T41 l0 (ji20)).f1) + 1))) = true := beq_iff_eq.mpr c25; have c25b1 : (((rd_T41 l0 x8_1).f0) != (wrap32 (((rd_T41 l0 (ji20)).f1) + 1))) = false := bne_eq_false_iff_eq.mpr c25; clear c25; obtain rfl := Option.some.inj H; have hcz26_0 : wc.cell? ⟨gb111, 0, none⟩ = some (.int .i32 ((rd_T41 l0 x8_1).f0)) := (blk_cell BK111.out 0).trans rfl; have hcz26_1 : wc.cell? ⟨gb111, 1, none⟩ = some (.int .i32 ((rd_T41 l0 x8_1).f1)) := (blk_cell BK111.out 1).trans rfl; have hfz26_0 := blk_frozen BK111.out 0; have hfz26_1 := blk_frozen BK111.out 1; have p114 : 0 ≤ ((ji20) : Int) := od (by assumption); have q114 : (ji20) < (l0.length : Int) := od (by assumption); obtain ⟨ad114, e114, hx114_0, hx114_1⟩ := at_T41 HR0.out (ji20) p114 q114; obtain rfl : ad110 = ad114 := (by injection e114); replace hx114_0 := (HB.out.cell (World.block_lt_of_cell? w _ hx114_0)).trans hx114_0; replace hx114_1 := (HB.out.cell (World.block_lt_of_cell? w _ hx114_1)).trans hx114_1; replace p114 := eq_true p114; replace q114 := eq_true q114; have p115 : 0 ≤ ((ji20) : Int) := od (by assumption); have q115 : (ji20) < (l0.length : Int) := od (by assumption); obtain ⟨ad115, e115, hx115_0, hx115_1⟩ := at_T41 HR0.out (ji20) p115 q115; obtain rfl : ad110 = ad115 := (by injection e115); replace hx115_0 := (HB.out.cell (World.block_lt_of_cell? w _ hx115_0)).trans hx115_0; replace hx115_1 := (HB.out.cell (World.block_lt_of_cell? w _ hx115_1)).trans hx115_1
              replace p115 := eq_true p115; replace q115 := eq_true q115
              go_wp2
              repeat (go_quiet (fail); try go_wp2)
              go_ret; exact ⟨by first | rfl | (simp [errW_none, errW_some] <;> rfl) | (simp only [← hji20]; first | rfl | (simp [errW_none, errW_some] <;> rfl)) | (simp [*, errW_none, errW_some] <;> rfl), by repeat (first | (with_reducible first | exact HB.out | apply below_alloc | apply pw_below_drewN | apply below_drew1 | refine below_set ?_ GE111.out) | exact HB.out)⟩
             ·
              rw [if_neg c25] at H; have c25b0 : (((rd_T41 l0 x8_1).f0) == (wrap32 (((rd_T41 l0 (ji20)).f1) + 1))) = false := beq_eq_false_iff_ne.mpr c25; have c25b1 : (((rd_T41 l0 x8_1).f0) != (wrap32 (((rd_T41 l0 (ji20)).f1) + 1))) = true := bne_iff_ne.mpr c25; have H' := Aside0.mk H; clear H; have hcz27_0 : wc.cell? ⟨gb111, 0, none⟩ = some (.int .i32 ((rd_T41 l0 x8_1).f0)) := (blk_cell BK111.out 0).trans rfl; have hcz27_1 : wc.cell? ⟨gb111, 1, none⟩ = some (.int .i32 ((rd_T41 l0 x8_1).f1)) := (blk_cell BK111.out 1).trans rfl; have hfz27_0 := blk_frozen BK111.out 0; have hfz27_1 := blk_frozen BK111.out 1; have p114 : 0 ≤ ((ji20) : Int) := od (by assumption); have q114 : (ji20) < (l0.length : Int) := od (by assumption); obtain ⟨ad114, e114, hx114_0, hx114_1⟩ := at_T41 HR0.out (ji20) p114 q114; obtain rfl : ad110 = ad114 := (by injection e114); replace hx114_0 := (HB.out.cell (World.block_lt_of_cell? w _ hx114_0)).trans hx114_0; replace hx114_1 := (HB.out.cell (World.block_lt_of_cell? w _ hx114_1)).trans hx114_1; replace p114 := eq_true p114; replace q114 := eq_true q114; have p115 : 0 ≤ ((ji20) : Int) := od (by assumption); have q115 : (ji20) < (l0.length : Int) := od (by assumption); obtain ⟨ad115, e115, hx115_0, hx115_1⟩ := at_T41 HR0.out (ji20) p115 q115; obtain rfl : ad110 = ad115 := (by injection e115); replace hx115_0 := (HB.out.cell (World.block_lt_of_cell? w _ hx115_0)).trans hx115_0; replace hx115_1 := (HB.out.cell (World.block_lt_of_cell? w _ hx115_1)).trans hx115_1; replace p115 := eq_true p115
              replace q115 := eq_true q115
              go_wp2
              repeat (go_quiet (fail); try go_wp2)
              go_roundg kj5
              case measure => have := HK1.out; have := HJ5.out; omega
              case rel => exact ⟨(wrap64 (x8_1 + 1)), (by first | rfl | (simp; done) | (simp [*]; done)), H', ⟨by have := HK1.out; have := HJ5.out; omega⟩, ⟨by repeat (first | (with_reducible first | exact HB.out | apply below_alloc | apply pw_below_drewN | apply below_drew1 | refine below_set ?_ GE111.out) | exact HB.out)⟩⟩
           ·
            rw [if_neg c22] at H; exact absurd H (by simp)
          ·
           rw [if_neg c21] at H; exact absurd H (by simp)
         ·
          rw [if_neg c19] at H; have c19b0 : decide (0 < x8_1) = false := decide_eq_false c19; clear c19; have H' := Aside0.mk H; clear H
          go_wp2
          repeat (go_quiet (fail); try go_wp2)
          go_roundg kj5
          case measure => have := HK1.out; have := HJ5.out; omega
          case rel => exact ⟨(wrap64 (x8_1 + 1)), (by first | rfl | (simp; done) | (simp [*]; done)), H', ⟨by have := HK1.out; have := HJ5.out; omega⟩, ⟨by repeat (first | (with_reducible first | exact HB.out | apply below_alloc | apply pw_below_drewN | apply below_drew1 | refine below_set ?_ GE111.out) | exact HB.out)⟩⟩
     ·
      rw [if_neg c4] at H; exact absurd H (by simp)
    ·
     rw [if_neg c3] at H; exact absurd H (by simp)
   ·
    rw [if_neg c2] at H; have c2b0 : decide (x8_1 < (l0.length : Int)) = false := decide_eq_false c2; clear c2; obtain rfl := Option.some.inj H
    go_wp2
    repeat (go_quiet (fail); try go_wp2)
    go_ret; exact ⟨by first | rfl | (simp [errW_none, errW_some] <;> rfl) | (simp [*, errW_none, errW_some] <;> rfl), bw⟩
instance : Inhabited S41 := ⟨z41⟩
def rangeCells (x : S41) : List Value := [.int .i32 x.f0, .int .i32 x.f1]
def rangeCmp (x y : S41) : Int := cmpInt x.f0 y.f0
theorem rangeLt (x y : S41) : ltOf rangeCmp x y = decide (x.f0 < y.f0) := by
  unfold ltOf rangeCmp cmpInt
  by_cases h1 : x.f0 < y.f0
  · simp [h1]
  · by_cases h2 : y.f0 < x.f0 <;> simp [h1, h2]
theorem rangeSwo : Sort.SWO (ltOf rangeCmp) where
  irrefl x := by rw [rangeLt]; simp
  trans x y z h1 h2 := by rw [rangeLt] at *; simp at *; omega
  ntrans x y z h1 h2 := by rw [rangeLt] at *; simp at *; omega
def sortRanges (l : List S41) : List S41 := (Sort.pdq (ltOf rangeCmp) l.toArray 0 l.toArray.size (Lib.bitLen l.toArray.size) true true).toList
theorem sortRanges_facts (l : List S41) : Sort.PermIn 0 l.toArray.size l.toArray (sortRanges l).toArray ∧ Sort.SortedIn (ltOf rangeCmp) 0 l.toArray.size (sortRanges l).toArray := by
  have h := Sort.pdq_sorts (ltOf rangeCmp) rangeSwo l.toArray 0 l.toArray.size (Lib.bitLen l.toArray.size) true true (Nat.zero_le _) (Nat.le_refl _) (Or.inl rfl); unfold sortRanges; rw [Array.toArray_toList]; exact h
theorem sortRanges_length (l : List S41) : (sortRanges l).length = l.length := by
  have := (sortRanges_facts l).1.1
  simpa using this
theorem sortRanges_perm (l : List S41) : (sortRanges l).Perm l := by
  have h := (sortRanges_facts l).1; have h2 := h.2.2
  have e1 : ((sortRanges l).toArray.extract 0 l.toArray.size).toList = sortRanges l := by
    have := sortRanges_length l
    simp [← this]
  have e2 : (l.toArray.extract 0 l.toArray.size).toList = l := by simp
  rwa [e1, e2] at h2
theorem sortRanges_sorted (l : List S41) : (sortRanges l).Pairwise (fun a b => a.f0 ≤ b.f0) := by
  have h := (sortRanges_facts l).2; have hl := sortRanges_length l; rw [List.pairwise_iff_getElem]; intro i j hi hj hij; have := h i j (Nat.zero_le _) hij (by simpa [hl] using hj); rw [rangeLt] at this; have e := of_decide_eq_false this; simp only [hi, hj, List.getElem!_toArray, getElem!_pos] at e; omega
theorem gatherCl (x y : S41) (W : World) : Calls Tryz.prog 77 #[.agg #[.int .i32 x.f0, .int .i32 x.f1], .agg #[.int .i32 y.f0, .int .i32 y.f1]] W fun e w' => e = .returned (.int .i64 (rangeCmp x y)) ∧ ∃ q os', w' = Sort.grow (W.drewN q) os' := by
  have hcon := fun W' => compareCalls x.f0 y.f0 W'; unfold rangeCmp
  generalize cmpInt x.f0 y.f0 = r at hcon ⊢
  go_enter Tryz.func77, Tryz.ntmps77
  go_wp2_with (go_at_call 78; refine (hcon _).mono ?_; rintro e w' ⟨rfl, rfl⟩)
  go_ret; exact ⟨rfl, 0, _, by rw [Sort.alloc_eq_grow, Sort.alloc_eq_grow, Sort.grow_grow]; rfl⟩
def api_Range_76.f (a0 : List S41) : Option (List S41) := if a0.length ≤ 4294967296 then some (sortRanges a0) else none
theorem api_Range_76.calls (P0_ : Nat → Prop) (u9000_ : Value) (l0 : List S41) (r : List S41) (w0 w : World) (hB : Below w0.heap.size w0 w) (ho0 : Kd.R k41 41 w w0.heap.size P0_ u9000_ l0) (h : api_Range_76.f l0 = some r) :
    Calls Tryz.prog 76 #[u9000_, .func (.func 77) #[] #[]] w fun e w' => e = .returned (.tuple #[]) ∧ Kd.R k41 41 w' w0.heap.size (fun k_ => (P0_ k_ ∨ w.heap.size ≤ k_)) u9000_ r ∧ Below w0.heap.size w0 w' ∧ Kept w w' (fun k_ => P0_ k_) := by
  unfold api_Range_76.f at h
  by_cases hs : l0.length ≤ 4294967296
  case neg => rw [if_neg hs] at h; exact absurd h (by simp)
  rw [if_pos hs] at h; obtain rfl := Option.some.inj h
  by_cases hp : 0 < l0.length
  · obtain ⟨g, cap, rfl, hbg, hgl, _⟩ := Kd.R_form ho0 hp
    have hok : P0_ g := ho0.1 g rfl; obtain ⟨hH, hblk, hK⟩ := R_sorted (d := k41) rangeCells (fun _ => rfl) (by decide) (fun _ _ _ x _ hm => k41_openM hm) (fun w b ok x => k41_mkM w b ok x) ho0; have eg : ∀ args w, (callFunc 77 args).run Tryz.prog w = .ok (.enter 77 args) w := enters_of Tryz.func77 (by kernel_rfl) rfl; have hcon := AnyQ.slices_SortFunc_eq Tryz.sortRange 2 Tryz.isAgg41 Tryz.sizeOf41 rangeCells (fun _ => rfl) (fun x v hv => by simp [rangeCells] at hv; rcases hv with rfl | rfl <;> rfl) rangeCmp rangeSwo 77 #[] g 0 cap l0.toArray w eg (fun _ _ _ _ x y => gatherCl x y _) hH hblk (by simpa using Nat.lt_of_le_of_lt hs (by decide))
    change Calls Tryz.prog 76 _ _ _ at hcon
    refine hcon.mono ?_; rintro e w' ⟨rfl, n, os, rfl⟩
    obtain ⟨hR, hgr⟩ := hK (Sort.pdq (ltOf rangeCmp) l0.toArray 0 l0.toArray.size (Lib.bitLen l0.toArray.size) true true) n os (by
      have := sortRanges_length l0; unfold sortRanges at this
      simpa using this)
    have hP : Kd.R k41 41 _ w0.heap.size (fun k_ => (P0_ k_ ∨ w.heap.size ≤ k_)) (.slice (some ⟨g, 0, none⟩) l0.length cap) (sortRanges l0) := Kd.R_mono hR (fun k hk => .inl hk); exact ⟨rfl, hP, hB.grown hgr hB.size (fun k hk => by injection hk with hk; omega), Kept.of_grown hgr (Kept.refl _ _) (fun k hk => by injection hk with hk; subst hk; exact .inl hok)⟩
  · have h0 : l0 = [] := List.length_eq_zero_iff.1 (by omega); subst h0; obtain ⟨A, c, rfl, _, _⟩ := Kd.R_reads ho0; have e0 : sortRanges [] = [] := List.length_eq_zero_iff.1 (sortRanges_length []); rw [e0]; refine (show Calls Tryz.prog 76 _ _ _ from AnyF.slices_SortFunc_none Tryz.sortRange A c _ w).mono ?_; rintro e w' ⟨rfl, rfl⟩; exact ⟨rfl, Kd.R_mono ho0 (fun k hk => .inl hk), hB, Kept.refl _ _⟩
end Go.Proofs.YtoggmegpodmfnaaGreatDoor.PS
