/- Contracts of functions that the law reaches: what each call answers, as a plain function of what it reads; on condition that the function answers there. Printed by this session's own tool. -/
import Derived.Test.YtoggmegpodmfnaaDoorPYx0
import Derived.Test.YtoggmegpodmfnaaDoorPYx2
import Derived.Test.YtoggmegpodmfnaaDoorPYx3
namespace Go.Proofs.YtoggmegpodmfnaaDoor.PY
open Go.RowKit Go.Proofs.YtoggmegpodmfnaaDoor.B Go.Proofs.YtoggmegpodmfnaaDoorW.PrintWords Go.Proofs.YtoggmegpodmfnaaDoorW.PrintLast Go.Proofs.YtoggmegpodmfnaaDoorW.PrintMore
attribute [local go_sem] max2_int min2_int max_two min_two max_three min_three max_four min_four   -- for this text's walks alone
set_option linter.unusedVariables false
set_option linter.unusedSimpArgs false

/-! ### sets_check: function 40 -/
def sets_check.l0 : Nat → List (List (S29)) → Int → Int → Option (Int)
  | 0, _, _, _ => none
  | k + 1, x5, x6, x7 => if x7 < x6 then (if 0 ≤ x7 then (if x7 < (x5.length : Int) then ((sets_Check.f k (rd_L2 x5 x7)).bind fun t150 => (if t150 = 0 then (sets_check.l0 k x5 x6 (wrap64 (x7 + 1))) else (some 1))) else (none)) else (none)) else (some 0)
def sets_check.f (k : Nat) (l0 : List (List (S29))) : Option (Int) := sets_check.l0 k l0 (l0.length : Int) 0
theorem sets_check.mono_l : ∀ k, (∀ y0 y1 y2, LeO (sets_check.l0 k y0 y1 y2) (sets_check.l0 (k + 1) y0 y1 y2))
  | 0 => fun _ _ _ r h => by simp [sets_check.l0] at h
  | k + 1 => by
    have ih0 := sets_check.mono_l k
    · intro y0 y1 y2
      unfold sets_check.l0
      repeat' first
      | (with_reducible exact ih0 _ _ _)
      | (with_reducible exact sets_Check.mono _ _)
      | (with_reducible exact LeO.refl _)
      | (with_reducible exact LeO.none _)
      | (with_reducible refine LeO.ite ?_ ?_)
      | (with_reducible refine LeO.bind ?_ (fun _ => ?_))
      | exact ih0 _ _ _
      | exact sets_Check.mono _ _
      | exact LeO.none _
      | refine LeO.ite ?_ ?_
      | refine LeO.bind ?_ (fun _ => ?_)
theorem sets_check.mono : ∀ a0 k, LeO (sets_check.f k a0) (sets_check.f (k + 1) a0) := by
  intro a0 k
  have ih0 := sets_check.mono_l k
  unfold sets_check.f
  repeat' first
      | (with_reducible exact ih0 _ _ _)
      | (with_reducible exact sets_Check.mono _ _)
      | (with_reducible exact LeO.refl _)
      | (with_reducible exact LeO.none _)
      | (with_reducible refine LeO.ite ?_ ?_)
      | (with_reducible refine LeO.bind ?_ (fun _ => ?_))
      | exact ih0 _ _ _
      | exact sets_Check.mono _ _
      | exact LeO.none _
      | refine LeO.ite ?_ ?_
      | refine LeO.bind ?_ (fun _ => ?_)
set_option maxHeartbeats 8000000 in
set_option maxRecDepth 100000 in
theorem sets_check.calls (k : Nat) (A0 : Option Addr) (c0 : Nat) (l0 : List (List (S29))) (r : Int) (w : World) (hr0 : Kd.C (Kd.slice 29 k29) w A0 l0.length l0) (hc0 : l0.length ≤ c0) (hG : Glob w) (h : sets_check.f k l0 = some r) :
    Calls Tryd.prog 40 #[.slice A0 l0.length c0] w fun e w' => e = .returned (.int .i64 r) ∧ Below w.heap.size w w' := by
  have HR0 := Aside0.mk hr0
  have HC0 := Aside0.mk hc0
  clear hr0 hc0
  have HB := Aside0.mk (Below.refl w.heap.size w)
  have H : (sets_check.l0 k l0 (l0.length : Int) 0) = some r := h
  clear h
  have H' := Aside0.mk H
  clear H
  go_enter Tryd.func40, Tryd.ntmps40
  go_wp2
  go_loopg [7] k (fun kq v7 w' => ∃ (x7_1 : Int), v7 = .int .i64 x7_1 ∧ Aside0 (sets_check.l0 kq l0 (l0.length : Int) x7_1 = some r) ∧ Aside0 (kq ≤ k) ∧ Aside0 (Below w.heap.size w w'))
  case atStart => exact ⟨(0), (by first | rfl | (simp; done) | (simp [*]; done)), H', ⟨Nat.le_refl _⟩, ⟨by repeat (first | (with_reducible first | exact HB.out | apply below_alloc | apply pw_below_drewN | apply below_drew1) | exact HB.out)⟩⟩
  case round =>
    clear H'
    obtain ⟨x7_1, rfl, HA, HK1, HB⟩ := hrel
    cases gk with
    | zero => exact absurd HA.out (by simp [sets_check.l0])
    | succ k1 =>
      have H := HA.out
      clear HA
      simp only [sets_check.l0] at H
      by_cases c2 : x7_1 < (l0.length : Int)
      · rw [if_pos c2] at H
        have c2b0 : decide (x7_1 < (l0.length : Int)) = true := decide_eq_true c2
        clear c2
        by_cases c3 : 0 ≤ x7_1
        · rw [if_pos c3] at H
          have c3b0 : decide (0 ≤ x7_1) = true := decide_eq_true c3
          clear c3
          by_cases c4 : x7_1 < (l0.length : Int)
          · rw [if_pos c4] at H
            have c4b0 : decide (x7_1 < (l0.length : Int)) = true := decide_eq_true c4
            clear c4
            replace H := Option.bind_eq_some_iff.mp H
            obtain ⟨t150, A50, H⟩ := H
            replace H : (if t150 = 0 then (sets_check.l0 k1 l0 (l0.length : Int) (wrap64 (x7_1 + 1))) else (some 1)) = some r := H
            have A5 := Aside0.mk A50
            clear A50
            by_cases c6 : t150 = 0
            · rw [if_pos c6] at H
              have c6b0 : (t150 == 0) = true := beq_iff_eq.mpr c6
              have c6b1 : (t150 != 0) = false := bne_eq_false_iff_eq.mpr c6
              clear c6
              have H' := Aside0.mk H
              clear H
              have p149 : 0 ≤ (x7_1 : Int) := of_decide_eq_true (by first | (with_reducible assumption) | assumption)
              have q149 : x7_1 < (l0.length : Int) := of_decide_eq_true (by first | (with_reducible assumption) | assumption)
              obtain ⟨ad149, A149_0, c149_0, e149, hx149_0, hl149_0, hi149_0⟩ := at_L2 HR0.out x7_1 p149 q149
              cases e149
              replace hx149_0 := (HB.out.cell (World.block_lt_of_cell? w _ hx149_0)).trans hx149_0
              have HR149_0 := Aside0.mk hi149_0
              have HC149_0 := Aside0.mk hl149_0
              clear hi149_0 hl149_0
              replace p149 := eq_true p149
              replace q149 := eq_true q149
              go_wp2_with (first | ((with_reducible refine gate_callee (f := 10) rfl ?_); refine goesL_ (some 12) rfl rfl Tryd.func10 (by kernel_rfl) rfl #[.slice A149_0 (rd_L2 l0 x7_1).length c149_0] rfl (by (try simp only [List.map_toArray, List.map_cons, List.map_nil]); first | done | rfl | (simp only [List.length_drop, List.length_take]; rfl)) ?_; (with_reducible refine (sets_Check.calls k1 _ _ (rd_L2 l0 x7_1) t150 _ ?side1 ?side2 ?side3 A5.out).mono ?_); (case side1 => repeat (first | exact (Kd.C_below HR149_0.out HB.out) | (with_reducible refine Kd.C_alloc ?_ _) | (with_reducible refine Kd.C_drewN ?_ _) | (with_reducible refine Kd.C_drew ?_))); (case side2 => exact HC149_0.out); (case side3 => first | exact hG | exact Glob.of_below hG (by repeat (first | (with_reducible first | exact HB.out | apply below_alloc | apply pw_below_drewN | apply below_drew1) | exact HB.out)) | exact Glob.of_below hG HB.out | exact Glob.drewN hG _ | exact Glob.drew hG | (with_reducible repeat (first | exact hG | apply Glob.drewN | apply Glob.drew | apply Glob.alloc))); rintro e w7 ⟨rfl, hb⟩; refine ⟨_, rfl, ?_⟩; have n0_ := Aside0.mk (below_step (by repeat (first | (with_reducible first | exact HB.out | apply below_alloc | apply pw_below_drewN | apply below_drew1) | exact HB.out)) hb); clear HB; have HB := n0_; clear n0_; (try clear hb); (try clear hb2); (try clear hk); (try clear hi)))
              go_roundg k1
              case measure => have := HK1.out; omega
              case rel => exact ⟨(wrap64 (x7_1 + 1)), (by first | rfl | (simp; done) | (simp [*]; done)), H', ⟨by have := HK1.out; omega⟩, ⟨by repeat (first | (with_reducible first | exact HB.out | apply below_alloc | apply pw_below_drewN | apply below_drew1) | exact HB.out)⟩⟩
            · rw [if_neg c6] at H
              have c6b0 : (t150 == 0) = false := beq_eq_false_iff_ne.mpr c6
              have c6b1 : (t150 != 0) = true := bne_iff_ne.mpr c6
              obtain rfl := Option.some.inj H
              have p149 : 0 ≤ (x7_1 : Int) := of_decide_eq_true (by first | (with_reducible assumption) | assumption)
              have q149 : x7_1 < (l0.length : Int) := of_decide_eq_true (by first | (with_reducible assumption) | assumption)
              obtain ⟨ad149, A149_0, c149_0, e149, hx149_0, hl149_0, hi149_0⟩ := at_L2 HR0.out x7_1 p149 q149
              cases e149
              replace hx149_0 := (HB.out.cell (World.block_lt_of_cell? w _ hx149_0)).trans hx149_0
              have HR149_0 := Aside0.mk hi149_0
              have HC149_0 := Aside0.mk hl149_0
              clear hi149_0 hl149_0
              replace p149 := eq_true p149
              replace q149 := eq_true q149
              go_wp2_with (first | ((with_reducible refine gate_callee (f := 10) rfl ?_); refine goesL_ (some 12) rfl rfl Tryd.func10 (by kernel_rfl) rfl #[.slice A149_0 (rd_L2 l0 x7_1).length c149_0] rfl (by (try simp only [List.map_toArray, List.map_cons, List.map_nil]); first | done | rfl | (simp only [List.length_drop, List.length_take]; rfl)) ?_; (with_reducible refine (sets_Check.calls k1 _ _ (rd_L2 l0 x7_1) t150 _ ?side1 ?side2 ?side3 A5.out).mono ?_); (case side1 => repeat (first | exact (Kd.C_below HR149_0.out HB.out) | (with_reducible refine Kd.C_alloc ?_ _) | (with_reducible refine Kd.C_drewN ?_ _) | (with_reducible refine Kd.C_drew ?_))); (case side2 => exact HC149_0.out); (case side3 => first | exact hG | exact Glob.of_below hG (by repeat (first | (with_reducible first | exact HB.out | apply below_alloc | apply pw_below_drewN | apply below_drew1) | exact HB.out)) | exact Glob.of_below hG HB.out | exact Glob.drewN hG _ | exact Glob.drew hG | (with_reducible repeat (first | exact hG | apply Glob.drewN | apply Glob.drew | apply Glob.alloc))); rintro e w8 ⟨rfl, hb⟩; refine ⟨_, rfl, ?_⟩; have n0_ := Aside0.mk (below_step (by repeat (first | (with_reducible first | exact HB.out | apply below_alloc | apply pw_below_drewN | apply below_drew1) | exact HB.out)) hb); clear HB; have HB := n0_; clear n0_; (try clear hb); (try clear hb2); (try clear hk); (try clear hi)))
              go_ret
              exact ⟨by first | rfl | (simp [errW_none, errW_some] <;> rfl) | (simp [*, errW_none, errW_some] <;> rfl), by repeat (first | (with_reducible first | exact HB.out | apply below_alloc | apply pw_below_drewN | apply below_drew1) | exact HB.out)⟩
          · rw [if_neg c4] at H
            exact absurd H (by simp)
        · rw [if_neg c3] at H
          exact absurd H (by simp)
      · rw [if_neg c2] at H
        have c2b0 : decide (x7_1 < (l0.length : Int)) = false := decide_eq_false c2
        clear c2
        obtain rfl := Option.some.inj H
        go_wp2
        go_ret
        exact ⟨by first | rfl | (simp [errW_none, errW_some] <;> rfl) | (simp [*, errW_none, errW_some] <;> rfl), by repeat (first | (with_reducible first | exact HB.out | apply below_alloc | apply pw_below_drewN | apply below_drew1) | exact HB.out)⟩

/-! ### api_Range_41: function 41 -/
theorem growNil (n : Nat) (hn : n ≤ 4294967296) (w : World) : Calls Tryd.prog 57 #[.slice none 0 0, .int .i64 (n : Int)] w fun e w' => ∃ v : Value, e = .returned v ∧ Kd.R k29 29 w' w.heap.size (fun _ => True) v [] ∧ Below w.heap.size w w' := by
  by_cases h0 : n = 0
  · subst h0
    refine (show Calls Tryd.prog 57 _ w _ from Any8.slices_Grow_room Tryd.growR none 0 0 0 w (by omega) (by omega) (by omega) (by omega)).mono ?_
    rintro e w' ⟨rfl, rfl⟩
    exact ⟨_, rfl, Kd.R_nil _ _ _ _ _, Below.refl _ _⟩
  · obtain ⟨i0, hi, hzz⟩ := Option.map_eq_some_iff.1 info29
    simp only [Prod.mk.injEq] at hzz
    obtain ⟨hz0, hz1, hz2⟩ := hzz
    have hcap := grownCap_ge w (0 + n) 0 (Tryd.growR_ren.t 25)
    have hcm := grownCap_le_maxLen w (0 + n) 0 (Tryd.growR_ren.t 25) (by unfold maxLen; omega)
    refine (show Calls Tryd.prog 57 _ w _ from Any8.slices_Grow_grow Tryd.growR i0 _ hi hz0 (by omega) none 0 0 n [] w (by omega) (by omega) (by rw [hz2]; omega) (by omega) (by simp) (fun _ => rfl) (fun _ h => by cases h)).mono ?_
    rintro e w' ⟨rfl, rfl⟩
    refine ⟨_, rfl, ?_, (Below.refl _ w).drew.alloc (Nat.le_refl _) _⟩
    refine ⟨fun _ _ => trivial, [], ⟨by simp, .inr ⟨w.heap.size, _, _, rfl, Nat.le_refl _, heap_alloc_new w.drew _, Nat.zero_le _, hcm, ?_, by simp⟩⟩, Reps.none _ _⟩
    change _ = grownCap w (0 + n) 0 (Tryd.growR_ren.t 25) * 2
    simp only [Array.size_append, size_zeroCells, List.size_toArray, List.length_nil, List.length_cons, Value.cells]
    generalize grownCap w (0 + n) 0 (Tryd.growR_ren.t 25) = c at *
    omega
def api_Range_41.f (l0 : List (List S29)) : Option (List S29) := if l0.flatten.length ≤ 4294967296 then some l0.flatten else none
theorem flat_step {α : Type} (l : List (List α)) (i : Nat) (h : i < l.length) : (l.take (i + 1)).flatten = (l.take i).flatten ++ l[i] := by
  rw [List.take_succ_eq_append_getElem h, List.flatten_append, List.flatten_singleton]
theorem flat_le {α : Type} (l : List (List α)) (i : Nat) : (l.take i).flatten.length ≤ l.flatten.length := by
  have := congrArg (fun x => x.flatten.length) (List.take_append_drop i l)
  simp only [List.flatten_append, List.length_append] at this
  omega
theorem rdL (l : List (List S29)) (i : Nat) (h : i < l.length) : rd_L2 l (i : Int) = l[i] := by
  unfold rd_L2; rw [Int.toNat_natCast, List.getD_eq_getElem?_getD, List.getElem?_eq_getElem h]; rfl
set_option maxHeartbeats 4000000 in
set_option maxRecDepth 100000 in
theorem api_Range_41.calls (A0 : Option Addr) (c0 : Nat) (l0 : List (List S29)) (r : List S29) (w : World) (hr0 : Kd.C (Kd.slice 29 k29) w A0 l0.length l0) (hc0 : l0.length ≤ c0) (h : api_Range_41.f l0 = some r) :
    Calls Tryd.prog 41 #[.slice A0 l0.length c0] w fun e w' => ∃ v0_ : Value, e = .returned v0_ ∧ Kd.R k29 29 w' w.heap.size (fun _ => True) v0_ r ∧ Below w.heap.size w w' := by
  unfold api_Range_41.f at h
  by_cases hs : l0.flatten.length ≤ 4294967296
  case neg => rw [if_neg hs] at h; exact absurd h (by simp)
  rw [if_pos hs] at h
  obtain rfl := Option.some.inj h
  clear h
  have hmx := Kd.C_max hr0
  have HR0 := Aside0.mk hr0
  have HS := Aside0.mk hs
  have HMX := Aside0.mk hmx
  clear hr0 hs hmx
  go_enter Tryd.func41, Tryd.ntmps41
  go_wp2
  go_loop [3, 11] (fun vs vi => ∃ (i n : Nat), vs = .int .i64 (n : Int) ∧ vi = .int .i64 (i : Int) ∧ i ≤ l0.length ∧ Aside0 (n = (l0.take i).flatten.length)) (fun _ vi => l0.length - (intOf vi).toNat)
  case atStart => exact ⟨0, 0, rfl, rfl, by omega, ⟨by simp⟩⟩
  case round =>
    obtain ⟨i, n, rfl, rfl, hi, HN⟩ := hrel
    by_cases hlt : i < l0.length
    · have hd1 : decide (i < l0.length) = true := decide_eq_true hlt
      obtain ⟨ad, A1, c1, e, hx, hl, hC⟩ := at_L2 HR0.out (i : Int) (by omega) (by omega)
      cases e
      have hfs := congrArg List.length (flat_step l0 i hlt)
      have hfl := flat_le l0 (i + 1)
      rw [List.length_append] at hfs
      rw [rdL l0 i hlt] at hx
      simp only [Int.toNat_natCast] at hx
      obtain ⟨m, hm⟩ : ∃ m, m = l0[i].length := ⟨_, rfl⟩
      rw [← hm] at hx hfs
      have hn := HN.out
      have hss := HS.out
      have hb : n + m ≤ 4294967296 := by omega
      have hn2 : n + m = (l0.take (i + 1)).flatten.length := by omega
      have hmx := HMX.out
      have hil : (i : Int) + 1 ≤ 9223372036854775807 := by omega
      have HNM := Aside0.mk hn2
      have hp := eq_true (show (0 : Int) ≤ (i : Int) by omega)
      have hq := eq_true (show (i : Int) < (l0.length : Int) by omega)
      have hneg : decide (n + m < 0) = false := decide_eq_false (by omega)
      have hneg2 : decide ((n : Int) + (m : Int) < 0) = false := decide_eq_false (by omega)
      have HLT := Aside0.mk hlt
      clear hl hC hfs hfl hm hn hss hn2 HN hlt hmx
      go_wp2
      go_round
      case rel => exact ⟨i + 1, n + m, by go_num, by go_num, by have := HLT.out; omega, HNM⟩
      case measure => have := HLT.out; simp [intOf]; omega
    · have hd1 : decide (i < l0.length) = false := decide_eq_false hlt
      obtain rfl : i = l0.length := by omega
      have hn := HN.out
      rw [List.take_of_length_le (Nat.le_refl _)] at hn
      have hnb : n ≤ 4294967296 := by have := HS.out; omega
      have HNB := Aside0.mk hnb
      have HNF := Aside0.mk hn
      clear hn hlt hnb
      go_wp2_with (go_at_call 57; (with_reducible refine (growNil n HNB.out _).mono ?_); rintro e w1 ⟨v1, rfl, hR1, hb1⟩; have HO1 := Aside0.mk hR1; have HB1 := Aside0.mk hb1; clear hR1 hb1 hd1)
      go_loopw [6, 27] (fun vo vj wr => ∃ (j : Nat), vj = .int .i64 (j : Int) ∧ j ≤ l0.length ∧ Aside0 (Kd.R k29 29 wr w.heap.size (fun _ => True) vo (l0.take j).flatten) ∧ Aside0 (Below w.heap.size w wr)) (fun _ vj _ => l0.length - (intOf vj).toNat)
      case atStart => exact ⟨0, rfl, by omega, HO1, HB1⟩
      case round =>
        obtain ⟨j, rfl, hj, HO, HB⟩ := hrel
        by_cases hlt : j < l0.length
        · have hd1 : decide (j < l0.length) = true := decide_eq_true hlt
          obtain ⟨ad, A1, c1, e, hx, hl, hC⟩ := at_L2 (Kd.C_below HR0.out HB.out) (j : Int) (by omega) (by omega)
          cases e
          rw [rdL l0 j hlt] at hx hl hC
          simp only [Int.toNat_natCast] at hx
          have hfs := flat_step l0 j hlt
          have hfl := flat_le l0 (j + 1)
          have hb8 : ((l0.take j).flatten.length + l0[j].length) * 8 ≤ 140737488355328 := by
            have := congrArg List.length hfs
            rw [List.length_append] at this
            have := HS.out
            omega
          obtain ⟨xs, hxs⟩ : ∃ x, x = l0[j] := ⟨_, rfl⟩
          obtain ⟨acc, hacc⟩ : ∃ x, x = (l0.take j).flatten := ⟨_, rfl⟩
          rw [← hxs] at hx hl hC hfs hb8
          rw [← hacc] at hfs hb8 HO
          have HC := Aside0.mk hC
          have HFS := Aside0.mk hfs
          have HB8 := Aside0.mk hb8
          have HLT := Aside0.mk hlt
          have hmx := HMX.out
          have hil : (j : Int) + 1 ≤ 9223372036854775807 := by omega
          have hp := eq_true (show (0 : Int) ≤ (j : Int) by omega)
          have hq := eq_true (show (j : Int) < (l0.length : Int) by omega)
          clear hC hfs hb8 hfl hxs hacc hlt hmx
          go_wp2_with (at_builtin; refine Kd.R_append_rows k29 (w0 := w) w.heap.size rfl (.tmp 31) (.tmp 32) 22 29 (.agg #[(.int .i32 0), (.int .i32 0)]) 8 rfl Tryd.underlying22 info29 rfl (by decide) (by omega) _ acc xs _ _ _ (fun _ => True) (fun _ => False) rfl rfl HO.out HC.out (fun x cs hcs => by rw [k29_open hcs]; exact k29_mkM _ _ _ x) (fun _ hk => hk.elim) (fun _ _ => trivial) HB.out (below_size HB.out) HB8.out ?_; intro v2 w2 ho hb hg hat; have HO2 := Aside0.mk ho; have HB2 := Aside0.mk hb; clear ho hb hg hat)
          go_roundw
          case rel => exact ⟨j + 1, by go_num, by have := HLT.out; omega, ⟨by rw [HFS.out]; exact HO2.out⟩, HB2⟩
          case measure => have := HLT.out; simp [intOf]; omega
        · have hd1 : decide (j < l0.length) = false := decide_eq_false hlt
          obtain rfl : j = l0.length := by omega
          have ho := HO.out
          rw [List.take_of_length_le (Nat.le_refl _)] at ho
          have HO3 := Aside0.mk ho
          clear ho hlt
          go_wp2
          go_ret
          exact ⟨_, rfl, HO3.out, HB.out⟩

/-! ### sets_Or: function 22 -/
def sets_Or.f (k : Nat) (l0 : List (S29)) (l1 : List (S29)) : Option ((List (S29)) × Int) := (sets_check.f k (([l0, l1] : List (List (S29))))).bind fun t154 => (if t154 = 0 then ((api_Range_41.f (([l0, l1] : List (List (S29))))).bind fun t158 => ((sets_gather.f k t158).bind fun t161 => (some (t161, 0)))) else (some (([] : List (S29)), t154)))
theorem sets_Or.mono : ∀ a0 a1 k, LeO (sets_Or.f k a0 a1) (sets_Or.f (k + 1) a0 a1) := by
  intro a0 a1 k
  unfold sets_Or.f
  repeat' first
      | (with_reducible exact sets_check.mono _ _)
      | (with_reducible exact sets_gather.mono _ _)
      | (with_reducible exact LeO.refl _)
      | (with_reducible exact LeO.none _)
      | (with_reducible refine LeO.ite ?_ ?_)
      | (with_reducible refine LeO.bind ?_ (fun _ => ?_))
      | exact sets_check.mono _ _
      | exact sets_gather.mono _ _
      | exact LeO.none _
      | refine LeO.ite ?_ ?_
      | refine LeO.bind ?_ (fun _ => ?_)
set_option maxHeartbeats 8000000 in
set_option maxRecDepth 100000 in
theorem sets_Or.calls (k : Nat) (P0_ : Nat → Prop) (A0 : Option Addr) (c0 : Nat) (l0 : List (S29)) (P1_ : Nat → Prop) (A1 : Option Addr) (c1 : Nat) (l1 : List (S29)) (r1 : List (S29)) (r2 : Int) (w : World) (hs0 : Kd.V k29 29 w w.heap.size (fun k_ => P0_ k_) (.slice A0 l0.length c0) l0) (hs1 : Kd.V k29 29 w w.heap.size (fun k_ => P1_ k_) (.slice A1 l1.length c1) l1) (hG : Glob w) (h : sets_Or.f k l0 l1 = some (r1, r2)) :
    Calls Tryd.prog 22 #[.slice A0 l0.length c0, .slice A1 l1.length c1] w fun e w' => ∃ v0_ : Value, e = .returned (.tuple #[v0_, .int .i64 r2]) ∧ Kd.R k29 29 w' w.heap.size (fun k_ => (w.heap.size ≤ k_)) v0_ r1 ∧ Below w.heap.size w w' := by
  have HO0 := Aside0.mk (show Kd.V k29 29 w w.heap.size (fun k_ => ((P0_ k_ ∨ P1_ k_) ∨ w.heap.size ≤ k_)) (.slice A0 l0.length c0) l0 from Kd.V_mono hs0 (fun k_ hk => .inl (.inl hk)))
  have HO1 := Aside0.mk (show Kd.V k29 29 w w.heap.size (fun k_ => ((P0_ k_ ∨ P1_ k_) ∨ w.heap.size ≤ k_)) (.slice A1 l1.length c1) l1 from Kd.V_mono hs1 (fun k_ hk => .inl (.inr hk)))
  have HB := Aside0.mk (Below.refl w.heap.size w)
  have H : ((sets_check.f k (([l0, l1] : List (List (S29))))).bind fun t154 => (if t154 = 0 then ((api_Range_41.f (([l0, l1] : List (List (S29))))).bind fun t158 => ((sets_gather.f k t158).bind fun t161 => (some (t161, 0)))) else (some (([] : List (S29)), t154)))) = some (r1, r2) := h
  clear h
  obtain ⟨y151, hy151⟩ : ∃ y_ : List (List (S29)), y_ = (([l0, l1] : List (List (S29)))) := ⟨_, rfl⟩
  replace H : ((sets_check.f k y151).bind fun t154 => (if t154 = 0 then ((api_Range_41.f (([l0, l1] : List (List (S29))))).bind fun t158 => ((sets_gather.f k t158).bind fun t161 => (some (t161, 0)))) else (some (([] : List (S29)), t154)))) = some (r1, r2) := by first | (rw [hy151]; with_reducible exact H) | (have H2_ := (Option.bind_some _ _).symm.trans H; rw [hy151]; with_reducible exact H2_) | (have H2_ := (Option.bind_some _ _).symm.trans H; with_reducible exact H2_) | with_reducible exact H | (rw [hy151]; exact H) | exact H
  have Ny151 := Aside0.mk hy151
  clear hy151
  replace H := Option.bind_eq_some_iff.mp H
  obtain ⟨t154, A30, H⟩ := H
  replace H : (if t154 = 0 then ((api_Range_41.f (([l0, l1] : List (List (S29))))).bind fun t158 => ((sets_gather.f k t158).bind fun t161 => (some (t161, 0)))) else (some (([] : List (S29)), t154))) = some (r1, r2) := H
  have A3 := Aside0.mk A30
  clear A30
  by_cases c4 : t154 = 0
  · rw [if_pos c4] at H
    have c4b0 : (t154 == 0) = true := beq_iff_eq.mpr c4
    have c4b1 : (t154 != 0) = false := bne_eq_false_iff_eq.mpr c4
    clear c4
    obtain ⟨y155, hy155⟩ : ∃ y_ : List (List (S29)), y_ = (([l0, l1] : List (List (S29)))) := ⟨_, rfl⟩
    replace H : ((api_Range_41.f y155).bind fun t158 => ((sets_gather.f k t158).bind fun t161 => (some (t161, 0)))) = some (r1, r2) := by first | (rw [hy155]; with_reducible exact H) | (have H2_ := (Option.bind_some _ _).symm.trans H; rw [hy155]; with_reducible exact H2_) | (have H2_ := (Option.bind_some _ _).symm.trans H; with_reducible exact H2_) | with_reducible exact H | (rw [hy155]; exact H) | exact H
    have Ny155 := Aside0.mk hy155
    clear hy155
    replace H := Option.bind_eq_some_iff.mp H
    obtain ⟨t158, A50, H⟩ := H
    replace H : ((sets_gather.f k t158).bind fun t161 => (some (t161, 0))) = some (r1, r2) := H
    have A5 := Aside0.mk A50
    clear A50
    replace H := Option.bind_eq_some_iff.mp H
    obtain ⟨t161, A60, H⟩ := H
    replace H : (some (t161, 0)) = some (r1, r2) := H
    have A6 := Aside0.mk A60
    clear A60
    simp only [Option.some.injEq, Prod.mk.injEq] at H
    obtain ⟨rfl, rfl⟩ := H
    go_enter Tryd.func22, Tryd.ntmps22
    go_wp2_with (first | ((with_reducible refine gate_dst (N := 9) rfl ?_); refine Kd.N_lit (Kd.slice 29 k29) _ 22 ?hg (N' := 9) ?hd (xs := ([l0, l1] : List (List (S29)))) (inner := [.slice A0 l0.length c0, .slice A1 l1.length c1]) (ok := (fun k_ => ((P0_ k_ ∨ P1_ k_) ∨ w.heap.size ≤ k_))) (okp := (fun k_ => ((P0_ k_ ∨ P1_ k_) ∨ w.heap.size ≤ k_))) ?hr ?hp (fun _ hk => hk) ((show ∀ k_, w.heap.size ≤ k_ → (fun k_ => ((P0_ k_ ∨ P1_ k_) ∨ w.heap.size ≤ k_)) k_ from fun k_ hk => (.inr (Nat.le_trans (below_size (by repeat (first | (with_reducible first | exact HB.out | apply below_alloc | apply pw_below_drewN | apply below_drew1) | exact HB.out))) hk))) _ (Nat.le_refl _)) (Below.refl _ _) (Nat.le_refl _) (by simp) ?_; (case hd => rfl); (case hg => rfl); (case hr => first | (go_simp; done) | (go_simp; rfl)); (case hp => exact (Reps.one (show Kd.FK (Kd.slice 29 k29) _ _ l0 [.slice A0 l0.length c0] from (Kd.FK_slice_mk (Kd.V_reads' (Kd.V_mono (ok' := (fun k_ => ((P0_ k_ ∨ P1_ k_) ∨ w.heap.size ≤ k_))) (HO0.out) (fun k_ hk => hk))).2.1 (Kd.V_F (Kd.V_mono (ok' := (fun k_ => ((P0_ k_ ∨ P1_ k_) ∨ w.heap.size ≤ k_))) (HO0.out) (fun k_ hk => hk))))) (Reps.one (show Kd.FK (Kd.slice 29 k29) _ _ l1 [.slice A1 l1.length c1] from (Kd.FK_slice_mk (Kd.V_reads' (Kd.V_mono (ok' := (fun k_ => ((P0_ k_ ∨ P1_ k_) ∨ w.heap.size ≤ k_))) (HO1.out) (fun k_ hk => hk))).2.1 (Kd.V_F (Kd.V_mono (ok' := (fun k_ => ((P0_ k_ ∨ P1_ k_) ∨ w.heap.size ≤ k_))) (HO1.out) (fun k_ hk => hk))))) (Reps.none _ _)))); intro v152 w7 ho8 hb hg_ hnew_; clear hg_ hnew_; (first | rw [← Ny151.out] at ho8 | (simp only [Int.reduceToNat] at ho8; rw [← Ny151.out] at ho8)); have n0_ := Aside0.mk (Kd.V_elder' (by (with_reducible repeat (first | apply Kd.V_alloc | apply Kd.V_drewN | apply Kd.V_drew)); exact HO0.out) (Kd.N_base ho8) hb); have n1_ := Aside0.mk (Kd.V_elder' (by (with_reducible repeat (first | apply Kd.V_alloc | apply Kd.V_drewN | apply Kd.V_drew)); exact HO1.out) (Kd.N_base ho8) hb); have n2_ := Aside0.mk (Kd.N_lower ho8 (below_size (by repeat (first | (with_reducible first | exact HB.out | apply below_alloc | apply pw_below_drewN | apply below_drew1) | exact HB.out)))); have n3_ := Aside0.mk (below_step (by repeat (first | (with_reducible first | exact HB.out | apply below_alloc | apply pw_below_drewN | apply below_drew1) | exact HB.out)) hb); clear HO0; clear HO1; clear HB; have HO0 := n0_; have HO1 := n1_; have HO153 := n2_; have HB := n3_; clear n0_ n1_ n2_ n3_; clear hb ho8; obtain ⟨Ao9, co9, eo9⟩ := Kd.N_slice HO153.out; subst eo9) | ((with_reducible refine gate_callee (f := 40) rfl ?_); refine goesL_ (some 10) rfl rfl Tryd.func40 (by kernel_rfl) rfl #[.slice Ao9 y151.length co9] rfl (by (try simp only [List.map_toArray, List.map_cons, List.map_nil]); first | done | rfl | (simp only [List.length_drop, List.length_take]; rfl)) ?_; (with_reducible refine (sets_check.calls k _ _ y151 t154 _ ?side1 ?side2 ?side3 A3.out).mono ?_); (case side1 => repeat (first | exact (Kd.N_reads' HO153.out).2.2 | (with_reducible refine Kd.C_alloc ?_ _) | (with_reducible refine Kd.C_drewN ?_ _) | (with_reducible refine Kd.C_drew ?_))); (case side2 => exact (Kd.N_reads' HO153.out).2.1); (case side3 => first | exact hG | exact Glob.of_below hG (by repeat (first | (with_reducible first | exact HB.out | apply below_alloc | apply pw_below_drewN | apply below_drew1) | exact HB.out)) | exact Glob.of_below hG HB.out | exact Glob.drewN hG _ | exact Glob.drew hG | (with_reducible repeat (first | exact hG | apply Glob.drewN | apply Glob.drew | apply Glob.alloc))); rintro e w10 ⟨rfl, hb⟩; refine ⟨_, rfl, ?_⟩; have n0_ := Aside0.mk (Kd.V_below (by (with_reducible repeat (first | apply Kd.V_alloc | apply Kd.V_drewN | apply Kd.V_drew)); exact HO0.out) hb); have n1_ := Aside0.mk (Kd.V_below (by (with_reducible repeat (first | apply Kd.V_alloc | apply Kd.V_drewN | apply Kd.V_drew)); exact HO1.out) hb); have n2_ := Aside0.mk (Kd.N_below (by (with_reducible repeat (first | apply Kd.N_alloc | apply Kd.N_drewN | apply Kd.N_drew)); exact HO153.out) hb); have n3_ := Aside0.mk (below_step (by repeat (first | (with_reducible first | exact HB.out | apply below_alloc | apply pw_below_drewN | apply below_drew1) | exact HB.out)) hb); clear HO0; clear HO1; clear HO153; clear HB; have HO0 := n0_; have HO1 := n1_; have HO153 := n2_; have HB := n3_; clear n0_ n1_ n2_ n3_; (try clear hb); (try clear hb2); (try clear hk); (try clear hi)) | ((with_reducible refine gate_dst (N := 16) rfl ?_); refine Kd.N_lit (Kd.slice 29 k29) _ 22 ?hg (N' := 16) ?hd (xs := ([l0, l1] : List (List (S29)))) (inner := [.slice A0 l0.length c0, .slice A1 l1.length c1]) (ok := (fun k_ => ((P0_ k_ ∨ P1_ k_) ∨ w.heap.size ≤ k_) ∧ some k_ ≠ (.slice Ao9 y151.length co9 : Value).ownBlock)) (okp := (fun k_ => ((P0_ k_ ∨ P1_ k_) ∨ w.heap.size ≤ k_) ∧ some k_ ≠ (.slice Ao9 y151.length co9 : Value).ownBlock)) ?hr ?hp (fun _ hk => hk) ((show ∀ k_, w10.heap.size ≤ k_ → (fun k_ => ((P0_ k_ ∨ P1_ k_) ∨ w.heap.size ≤ k_) ∧ some k_ ≠ (.slice Ao9 y151.length co9 : Value).ownBlock) k_ from fun k_ hk => ⟨(.inr (Nat.le_trans (below_size (by repeat (first | (with_reducible first | exact HB.out | apply below_alloc | apply pw_below_drewN | apply below_drew1) | exact HB.out))) hk)), Kd.fresh' (Kd.N_lt (by (with_reducible repeat (first | apply Kd.N_alloc | apply Kd.N_drewN | apply Kd.N_drew)); exact HO153.out)) k_ hk⟩) _ (Nat.le_refl _)) (Below.refl _ _) (Nat.le_refl _) (by simp) ?_; (case hd => rfl); (case hg => rfl); (case hr => first | (go_simp; done) | (go_simp; rfl)); (case hp => exact (Reps.one (show Kd.FK (Kd.slice 29 k29) _ _ l0 [.slice A0 l0.length c0] from (Kd.FK_slice_mk (Kd.V_reads' (Kd.V_mono (ok' := (fun k_ => ((P0_ k_ ∨ P1_ k_) ∨ w.heap.size ≤ k_) ∧ some k_ ≠ (.slice Ao9 y151.length co9 : Value).ownBlock)) (HO0.out) (fun k_ hk => ⟨hk.1, hk.2⟩))).2.1 (Kd.V_F (Kd.V_mono (ok' := (fun k_ => ((P0_ k_ ∨ P1_ k_) ∨ w.heap.size ≤ k_) ∧ some k_ ≠ (.slice Ao9 y151.length co9 : Value).ownBlock)) (HO0.out) (fun k_ hk => ⟨hk.1, hk.2⟩))))) (Reps.one (show Kd.FK (Kd.slice 29 k29) _ _ l1 [.slice A1 l1.length c1] from (Kd.FK_slice_mk (Kd.V_reads' (Kd.V_mono (ok' := (fun k_ => ((P0_ k_ ∨ P1_ k_) ∨ w.heap.size ≤ k_) ∧ some k_ ≠ (.slice Ao9 y151.length co9 : Value).ownBlock)) (HO1.out) (fun k_ hk => ⟨hk.1, hk.2⟩))).2.1 (Kd.V_F (Kd.V_mono (ok' := (fun k_ => ((P0_ k_ ∨ P1_ k_) ∨ w.heap.size ≤ k_) ∧ some k_ ≠ (.slice Ao9 y151.length co9 : Value).ownBlock)) (HO1.out) (fun k_ hk => ⟨hk.1, hk.2⟩))))) (Reps.none _ _)))); intro v156 w11 ho12 hb hg_ hnew_; clear hg_ hnew_; (first | rw [← Ny155.out] at ho12 | (simp only [Int.reduceToNat] at ho12; rw [← Ny155.out] at ho12)); have n0_ := Aside0.mk (Kd.V_elder' (by (with_reducible repeat (first | apply Kd.V_alloc | apply Kd.V_drewN | apply Kd.V_drew)); exact HO0.out) (Kd.N_base ho12) hb); have n1_ := Aside0.mk (Kd.V_elder' (by (with_reducible repeat (first | apply Kd.V_alloc | apply Kd.V_drewN | apply Kd.V_drew)); exact HO1.out) (Kd.N_base ho12) hb); have n2_ := Aside0.mk (Kd.N_elder' (by (with_reducible repeat (first | apply Kd.N_alloc | apply Kd.N_drewN | apply Kd.N_drew)); exact HO153.out) (Kd.N_base ho12) hb); have n3_ := Aside0.mk (Kd.N_lower ho12 (below_size (by repeat (first | (with_reducible first | exact HB.out | apply below_alloc | apply pw_below_drewN | apply below_drew1) | exact HB.out)))); have n4_ := Aside0.mk (below_step (by repeat (first | (with_reducible first | exact HB.out | apply below_alloc | apply pw_below_drewN | apply below_drew1) | exact HB.out)) hb); clear HO0; clear HO1; clear HO153; clear HB; have HO0 := n0_; have HO1 := n1_; have HO153 := n2_; have HO157 := n3_; have HB := n4_; clear n0_ n1_ n2_ n3_ n4_; clear hb ho12; obtain ⟨Ao13, co13, eo13⟩ := Kd.N_slice HO157.out; subst eo13) | ((with_reducible refine gate_callee (f := 41) rfl ?_); refine goesL_ (some 17) rfl rfl Tryd.func41 (by kernel_rfl) rfl #[.slice Ao13 y155.length co13] rfl (by (try simp only [List.map_toArray, List.map_cons, List.map_nil]); first | done | rfl | (simp only [List.length_drop, List.length_take]; rfl)) ?_; (with_reducible refine (api_Range_41.calls _ _ y155 t158 _ ?side1 ?side2 A5.out).mono ?_); (case side1 => repeat (first | exact (Kd.N_reads' HO157.out).2.2 | (with_reducible refine Kd.C_alloc ?_ _) | (with_reducible refine Kd.C_drewN ?_ _) | (with_reducible refine Kd.C_drew ?_))); (case side2 => exact (Kd.N_reads' HO157.out).2.1); rintro e w14 ⟨v159, rfl, ho0, hb⟩; refine ⟨_, rfl, ?_⟩; have n0_ := Aside0.mk (Kd.V_elder' (by (with_reducible repeat (first | apply Kd.V_alloc | apply Kd.V_drewN | apply Kd.V_drew)); exact HO0.out) (Kd.R_base ho0) hb); have n1_ := Aside0.mk (Kd.V_elder' (by (with_reducible repeat (first | apply Kd.V_alloc | apply Kd.V_drewN | apply Kd.V_drew)); exact HO1.out) (Kd.R_base ho0) hb); have n2_ := Aside0.mk (Kd.N_elder' (by (with_reducible repeat (first | apply Kd.N_alloc | apply Kd.N_drewN | apply Kd.N_drew)); exact HO153.out) (Kd.R_base ho0) hb); have n3_ := Aside0.mk (Kd.N_elder' (by (with_reducible repeat (first | apply Kd.N_alloc | apply Kd.N_drewN | apply Kd.N_drew)); exact HO157.out) (Kd.R_base ho0) hb); have n4_ := Aside0.mk (Kd.R_lower (Kd.R_newM (M := fun k_ => (w.heap.size ≤ k_)) ho0 (below_size (by repeat (first | (with_reducible first | exact HB.out | apply below_alloc | apply pw_below_drewN | apply below_drew1) | exact HB.out))) (fun k_ h_ => h_)) (below_size (by repeat (first | (with_reducible first | exact HB.out | apply below_alloc | apply pw_below_drewN | apply below_drew1) | exact HB.out)))); have n5_ := Aside0.mk (below_step (by repeat (first | (with_reducible first | exact HB.out | apply below_alloc | apply pw_below_drewN | apply below_drew1) | exact HB.out)) hb); clear HO0; clear HO1; clear HO153; clear HO157; clear HB; have HO0 := n0_; have HO1 := n1_; have HO153 := n2_; have HO157 := n3_; have HO160 := n4_; have HB := n5_; clear n0_ n1_ n2_ n3_ n4_ n5_; (try clear hb); (try clear hb2); (try clear hk); (try clear hi); (try clear ho0); obtain ⟨Ao15, co15, eo15⟩ := Kd.R_slice HO160.out; subst eo15) | ((with_reducible refine gate_callee (f := 34) rfl ?_); refine goesL_ (some 18) rfl rfl Tryd.func34 (by kernel_rfl) rfl #[.slice Ao15 t158.length co15] rfl (by (try simp only [List.map_toArray, List.map_cons, List.map_nil]); first | done | rfl | (simp only [List.length_drop, List.length_take]; rfl)) ?_; (with_reducible refine (sets_gather.calls k (fun k_ => some k_ = (.slice Ao15 t158.length co15 : Value).ownBlock) (.slice Ao15 t158.length co15) t158 t161 w _ ?side1 ?side2 A6.out).mono ?_); (case side1 => repeat (first | (with_reducible first | exact HB.out | apply below_alloc | apply pw_below_drewN | apply below_drew1) | exact HB.out)); (case side2 => exact Kd.R_tight rfl HO160.out); rintro e w16 ⟨v162, rfl, ho0, hb, hkp⟩; refine ⟨_, rfl, ?_⟩; have n0_ := Aside0.mk (Kd.V_mono (ok' := fun k_ => ((P0_ k_ ∨ P1_ k_) ∨ w.heap.size ≤ k_) ∧ some k_ ≠ (.slice Ao9 y151.length co9 : Value).ownBlock ∧ some k_ ≠ (.slice Ao13 y155.length co13 : Value).ownBlock ∧ some k_ ≠ (v162 : Value).ownBlock) (Kd.V_keptB (HO0.out) hkp (fun k_ hk_ hs_ => (hk_.2) hs_)) (fun k_ hk_ => ⟨hk_.1.1.1.1, hk_.1.1.1.2, hk_.1.1.2, fun e_ => Or.elim (ho0.1 k_ e_.symm) (fun hs_ => hk_.2.1 hs_) (fun hn_ => Nat.not_le.2 hk_.2.2 hn_)⟩)); have n1_ := Aside0.mk (Kd.V_mono (ok' := fun k_ => ((P0_ k_ ∨ P1_ k_) ∨ w.heap.size ≤ k_) ∧ some k_ ≠ (.slice Ao9 y151.length co9 : Value).ownBlock ∧ some k_ ≠ (.slice Ao13 y155.length co13 : Value).ownBlock ∧ some k_ ≠ (v162 : Value).ownBlock) (Kd.V_keptB (HO1.out) hkp (fun k_ hk_ hs_ => (hk_.2) hs_)) (fun k_ hk_ => ⟨hk_.1.1.1.1, hk_.1.1.1.2, hk_.1.1.2, fun e_ => Or.elim (ho0.1 k_ e_.symm) (fun hs_ => hk_.2.1 hs_) (fun hn_ => Nat.not_le.2 hk_.2.2 hn_)⟩)); have n2_ := Aside0.mk (Kd.N_mono (ok' := fun k_ => ((P0_ k_ ∨ P1_ k_) ∨ w.heap.size ≤ k_) ∧ some k_ ≠ (.slice Ao13 y155.length co13 : Value).ownBlock ∧ some k_ ≠ (v162 : Value).ownBlock) (Kd.N_keptB (HO153.out) hkp (fun k_ hk_ hs_ => (hk_.2) hs_)) (fun k_ hk_ => ⟨hk_.1.1.1, hk_.1.1.2, fun e_ => Or.elim (ho0.1 k_ e_.symm) (fun hs_ => hk_.2.1 hs_) (fun hn_ => Nat.not_le.2 hk_.2.2 hn_)⟩)); have n3_ := Aside0.mk (Kd.N_mono (ok' := fun k_ => ((P0_ k_ ∨ P1_ k_) ∨ w.heap.size ≤ k_) ∧ some k_ ≠ (.slice Ao9 y151.length co9 : Value).ownBlock ∧ some k_ ≠ (v162 : Value).ownBlock) (Kd.N_keptB (HO157.out) hkp (fun k_ hk_ hs_ => (hk_.2) hs_)) (fun k_ hk_ => ⟨hk_.1.1.1, hk_.1.1.2, fun e_ => Or.elim (ho0.1 k_ e_.symm) (fun hs_ => hk_.2.1 hs_) (fun hn_ => Nat.not_le.2 hk_.2.2 hn_)⟩)); have n4_ := Aside0.mk (Kd.R_mono (ok' := fun k_ => (w.heap.size ≤ k_)) ho0 (fun k_ hk_ => Or.elim hk_ (fun hs_ => (HO160.out.1 k_ (hs_).symm).1) (fun hn_ => (Nat.le_trans (below_size (by repeat (first | (with_reducible first | exact HB.out | apply below_alloc | apply pw_below_drewN | apply below_drew1) | exact HB.out))) hn_)))); have n5_ := Aside0.mk (hb); clear HO0; clear HO1; clear HO153; clear HO157; clear HB; clear HO160; have HO0 := n0_; have HO1 := n1_; have HO153 := n2_; have HO157 := n3_; have HO163 := n4_; have HB := n5_; clear n0_ n1_ n2_ n3_ n4_ n5_; (try clear hb); (try clear hkp); (try clear ho0)))
    go_ret2
    exact ⟨_, by first | rfl | (simp [errW_none, errW_some] <;> rfl) | (simp [*, errW_none, errW_some] <;> rfl), by (with_reducible repeat (first | apply Kd.R_alloc | apply Kd.R_drewN | apply Kd.R_drew)); exact HO163.out, by repeat (first | (with_reducible first | exact HB.out | apply below_alloc | apply pw_below_drewN | apply below_drew1) | exact HB.out)⟩
  · rw [if_neg c4] at H
    have c4b0 : (t154 == 0) = false := beq_eq_false_iff_ne.mpr c4
    have c4b1 : (t154 != 0) = true := bne_iff_ne.mpr c4
    simp only [Option.some.injEq, Prod.mk.injEq] at H
    obtain ⟨rfl, rfl⟩ := H
    go_enter Tryd.func22, Tryd.ntmps22
    go_wp2_with (first | ((with_reducible refine gate_dst (N := 9) rfl ?_); refine Kd.N_lit (Kd.slice 29 k29) _ 22 ?hg (N' := 9) ?hd (xs := ([l0, l1] : List (List (S29)))) (inner := [.slice A0 l0.length c0, .slice A1 l1.length c1]) (ok := (fun k_ => ((P0_ k_ ∨ P1_ k_) ∨ w.heap.size ≤ k_))) (okp := (fun k_ => ((P0_ k_ ∨ P1_ k_) ∨ w.heap.size ≤ k_))) ?hr ?hp (fun _ hk => hk) ((show ∀ k_, w.heap.size ≤ k_ → (fun k_ => ((P0_ k_ ∨ P1_ k_) ∨ w.heap.size ≤ k_)) k_ from fun k_ hk => (.inr (Nat.le_trans (below_size (by repeat (first | (with_reducible first | exact HB.out | apply below_alloc | apply pw_below_drewN | apply below_drew1) | exact HB.out))) hk))) _ (Nat.le_refl _)) (Below.refl _ _) (Nat.le_refl _) (by simp) ?_; (case hd => rfl); (case hg => rfl); (case hr => first | (go_simp; done) | (go_simp; rfl)); (case hp => exact (Reps.one (show Kd.FK (Kd.slice 29 k29) _ _ l0 [.slice A0 l0.length c0] from (Kd.FK_slice_mk (Kd.V_reads' (Kd.V_mono (ok' := (fun k_ => ((P0_ k_ ∨ P1_ k_) ∨ w.heap.size ≤ k_))) (HO0.out) (fun k_ hk => hk))).2.1 (Kd.V_F (Kd.V_mono (ok' := (fun k_ => ((P0_ k_ ∨ P1_ k_) ∨ w.heap.size ≤ k_))) (HO0.out) (fun k_ hk => hk))))) (Reps.one (show Kd.FK (Kd.slice 29 k29) _ _ l1 [.slice A1 l1.length c1] from (Kd.FK_slice_mk (Kd.V_reads' (Kd.V_mono (ok' := (fun k_ => ((P0_ k_ ∨ P1_ k_) ∨ w.heap.size ≤ k_))) (HO1.out) (fun k_ hk => hk))).2.1 (Kd.V_F (Kd.V_mono (ok' := (fun k_ => ((P0_ k_ ∨ P1_ k_) ∨ w.heap.size ≤ k_))) (HO1.out) (fun k_ hk => hk))))) (Reps.none _ _)))); intro v152 w17 ho18 hb hg_ hnew_; clear hg_ hnew_; (first | rw [← Ny151.out] at ho18 | (simp only [Int.reduceToNat] at ho18; rw [← Ny151.out] at ho18)); have n0_ := Aside0.mk (Kd.V_elder' (by (with_reducible repeat (first | apply Kd.V_alloc | apply Kd.V_drewN | apply Kd.V_drew)); exact HO0.out) (Kd.N_base ho18) hb); have n1_ := Aside0.mk (Kd.V_elder' (by (with_reducible repeat (first | apply Kd.V_alloc | apply Kd.V_drewN | apply Kd.V_drew)); exact HO1.out) (Kd.N_base ho18) hb); have n2_ := Aside0.mk (Kd.N_lower ho18 (below_size (by repeat (first | (with_reducible first | exact HB.out | apply below_alloc | apply pw_below_drewN | apply below_drew1) | exact HB.out)))); have n3_ := Aside0.mk (below_step (by repeat (first | (with_reducible first | exact HB.out | apply below_alloc | apply pw_below_drewN | apply below_drew1) | exact HB.out)) hb); clear HO0; clear HO1; clear HB; have HO0 := n0_; have HO1 := n1_; have HO153 := n2_; have HB := n3_; clear n0_ n1_ n2_ n3_; clear hb ho18; obtain ⟨Ao19, co19, eo19⟩ := Kd.N_slice HO153.out; subst eo19) | ((with_reducible refine gate_callee (f := 40) rfl ?_); refine goesL_ (some 10) rfl rfl Tryd.func40 (by kernel_rfl) rfl #[.slice Ao19 y151.length co19] rfl (by (try simp only [List.map_toArray, List.map_cons, List.map_nil]); first | done | rfl | (simp only [List.length_drop, List.length_take]; rfl)) ?_; (with_reducible refine (sets_check.calls k _ _ y151 t154 _ ?side1 ?side2 ?side3 A3.out).mono ?_); (case side1 => repeat (first | exact (Kd.N_reads' HO153.out).2.2 | (with_reducible refine Kd.C_alloc ?_ _) | (with_reducible refine Kd.C_drewN ?_ _) | (with_reducible refine Kd.C_drew ?_))); (case side2 => exact (Kd.N_reads' HO153.out).2.1); (case side3 => first | exact hG | exact Glob.of_below hG (by repeat (first | (with_reducible first | exact HB.out | apply below_alloc | apply pw_below_drewN | apply below_drew1) | exact HB.out)) | exact Glob.of_below hG HB.out | exact Glob.drewN hG _ | exact Glob.drew hG | (with_reducible repeat (first | exact hG | apply Glob.drewN | apply Glob.drew | apply Glob.alloc))); rintro e w20 ⟨rfl, hb⟩; refine ⟨_, rfl, ?_⟩; have n0_ := Aside0.mk (Kd.V_below (by (with_reducible repeat (first | apply Kd.V_alloc | apply Kd.V_drewN | apply Kd.V_drew)); exact HO0.out) hb); have n1_ := Aside0.mk (Kd.V_below (by (with_reducible repeat (first | apply Kd.V_alloc | apply Kd.V_drewN | apply Kd.V_drew)); exact HO1.out) hb); have n2_ := Aside0.mk (Kd.N_below (by (with_reducible repeat (first | apply Kd.N_alloc | apply Kd.N_drewN | apply Kd.N_drew)); exact HO153.out) hb); have n3_ := Aside0.mk (below_step (by repeat (first | (with_reducible first | exact HB.out | apply below_alloc | apply pw_below_drewN | apply below_drew1) | exact HB.out)) hb); clear HO0; clear HO1; clear HO153; clear HB; have HO0 := n0_; have HO1 := n1_; have HO153 := n2_; have HB := n3_; clear n0_ n1_ n2_ n3_; (try clear hb); (try clear hb2); (try clear hk); (try clear hi)))
    go_ret2
    exact ⟨_, by first | rfl | (simp [errW_none, errW_some] <;> rfl) | (simp [*, errW_none, errW_some] <;> rfl), by first | exact Kd.R_nil _ _ _ _ _ | exact Kd.N_nil _ _ _ _ _ | exact Kd.V_nil _ _ _ _ _ | exact Kd.Q_nil _ _ _ _ _ | exact Kd.S_nil _ _ _ _ _, by repeat (first | (with_reducible first | exact HB.out | apply below_alloc | apply pw_below_drewN | apply below_drew1) | exact HB.out)⟩

end Go.Proofs.YtoggmegpodmfnaaDoor.PY
