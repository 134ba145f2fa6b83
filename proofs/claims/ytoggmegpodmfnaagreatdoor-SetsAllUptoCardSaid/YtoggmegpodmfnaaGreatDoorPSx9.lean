/- Contracts of functions that the law reaches: what each call answers, as a plain function of what it reads; on condition that the function answers there. Printed by this session's own tool. -/
import Derived.Test.YtoggmegpodmfnaaGreatDoorPSx01
import Derived.Test.YtoggmegpodmfnaaGreatDoorPSx4
import Derived.Test.YtoggmegpodmfnaaGreatDoorPSx8
import Derived.Test.YtoggmegpodmfnaaGreatDoorBSq
namespace Go.Proofs.YtoggmegpodmfnaaGreatDoor.PS
open Go.RowKit Go.Proofs.YtoggmegpodmfnaaGreatDoor.B Go.Proofs.YtoggmegpodmfnaaGreatDoorW.PrintWords Go.Proofs.YtoggmegpodmfnaaGreatDoorW.PrintLast Go.Proofs.YtoggmegpodmfnaaGreatDoorW.PrintMore
attribute [local go_sem] max2_int min2_int max_two min_two max_three min_three max_four min_four   -- for this text's walks alone
set_option linter.unusedVariables false
set_option linter.unusedSimpArgs false
def thistleref02_SameSets.l0 : Nat → List (List (S41)) → List (List (S41)) → Int → Option (Bool)
  | 0, _, _, _ => none
  | k + 1, x0, x1, x5 => if x5 < (x0.length : Int) then (if 0 ≤ x5 then (if x5 < (x1.length : Int) then ((thistleref02_SameRanges.f k (rd_L4 x0 x5) (rd_L4 x1 x5)).bind fun t161 => (if t161 = true then (thistleref02_SameSets.l0 k x0 x1 (wrap64 (x5 + 1))) else (some false))) else (none)) else (none)) else (some true)
def thistleref02_SameSets.f (k : Nat) (l0 : List (List (S41))) (l1 : List (List (S41))) : Option (Bool) := if (l0.length : Int) = (l1.length : Int) then (thistleref02_SameSets.l0 k l0 l1 0) else (some false)
theorem thistleref02_SameSets.mono_l : ∀ k, (∀ y0 y1 y2, LeO (thistleref02_SameSets.l0 k y0 y1 y2) (thistleref02_SameSets.l0 (k + 1) y0 y1 y2))
  | 0 => fun _ _ _ r h => by simp [thistleref02_SameSets.l0] at h
  | k + 1 => by
    have ih0 := thistleref02_SameSets.mono_l k
    · intro y0 y1 y2
      unfold thistleref02_SameSets.l0
      repeat' first
      | (with_reducible exact ih0 _ _ _)
      | (with_reducible exact thistleref02_SameRanges.mono _ _ _)
      | (with_reducible exact LeO.refl _)
      | (with_reducible exact LeO.none _)
      | (with_reducible refine LeO.ite ?_ ?_)
      | (with_reducible refine LeO.bind ?_ (fun _ => ?_))
      | exact ih0 _ _ _
      | exact thistleref02_SameRanges.mono _ _ _
      | exact LeO.none _
      | refine LeO.ite ?_ ?_
      | refine LeO.bind ?_ (fun _ => ?_)
theorem thistleref02_SameSets.mono : ∀ a0 a1 k, LeO (thistleref02_SameSets.f k a0 a1) (thistleref02_SameSets.f (k + 1) a0 a1) := by
  intro a0 a1 k; have ih0 := thistleref02_SameSets.mono_l k; unfold thistleref02_SameSets.f
  repeat' first
      | (with_reducible exact ih0 _ _ _)
      | (with_reducible exact thistleref02_SameRanges.mono _ _ _)
      | (with_reducible exact LeO.refl _)
      | (with_reducible exact LeO.none _)
      | (with_reducible refine LeO.ite ?_ ?_)
      | (with_reducible refine LeO.bind ?_ (fun _ => ?_))
      | exact ih0 _ _ _
      | exact thistleref02_SameRanges.mono _ _ _
      | exact LeO.none _
      | refine LeO.ite ?_ ?_
      | refine LeO.bind ?_ (fun _ => ?_)
set_option maxHeartbeats 8000000 in
set_option maxRecDepth 100000 in
theorem thistleref02_SameSets.calls (k : Nat) (A0 : Option Addr) (c0 : Nat) (l0 : List (List (S41))) (A1 : Option Addr) (c1 : Nat) (l1 : List (List (S41))) (r : Bool) (w : World) (hr0 : Kd.C (Kd.slice 41 k41) w A0 l0.length l0) (hc0 : l0.length ≤ c0) (hr1 : Kd.C (Kd.slice 41 k41) w A1 l1.length l1) (hc1 : l1.length ≤ c1) (h : thistleref02_SameSets.f k l0 l1 = some r) :
    Calls Tryz.prog 36 #[.slice A0 l0.length c0, .slice A1 l1.length c1] w fun e w' => e = .returned (.bool r) ∧ Drawn0 w w' := by
  have HR0 := Aside0.mk hr0; have HC0 := Aside0.mk hc0; clear hr0 hc0; have HR1 := Aside0.mk hr1; have HC1 := Aside0.mk hc1; clear hr1 hc1; have H : (if (l0.length : Int) = (l1.length : Int) then (thistleref02_SameSets.l0 k l0 l1 0) else (some false)) = some r := h; clear h
  by_cases c3 : (l0.length : Int) = (l1.length : Int)
  · rw [if_pos c3] at H
    have c3b0 : ((l0.length : Int) == (l1.length : Int)) = true := beq_iff_eq.mpr c3; have c3b1 : ((l0.length : Int) != (l1.length : Int)) = false := bne_eq_false_iff_eq.mpr c3
    have c3b2 : (l0.length == l1.length) = true := by first | simpa using c3 | (simp at c3 ⊢; omega)
    clear c3; have H' := Aside0.mk H; clear H; go_enter Tryz.func36, Tryz.ntmps36
    go_wp2
    repeat (go_quiet (fail); try go_wp2)
    go_loopg [5] k (fun kq v5 w' => ∃ (x5_1 : Int), v5 = .int .i64 x5_1 ∧ Aside0 (thistleref02_SameSets.l0 kq l0 l1 x5_1 = some r) ∧ Aside0 (kq ≤ k) ∧ Drawn0 w w')
    case atStart => exact ⟨(0), (by first | rfl | (simp; done) | (simp [*]; done)), H', ⟨Nat.le_refl _⟩, by repeat (first | exact Drawn0.refl _ | apply Drawn0.step)⟩
    case round =>
      clear H'
      try clear c1
      try clear p2
      try clear c3
      try clear c3b0
      try clear c3b1
      try clear c3b2
      obtain ⟨x5_1, rfl, HA, HK1, ⟨m1, rfl⟩⟩ := hrel
      cases gk with
      | zero => exact absurd HA.out (by simp [thistleref02_SameSets.l0])
      | succ k1 =>
        have H := HA.out; clear HA; simp only [thistleref02_SameSets.l0] at H
        by_cases c4 : x5_1 < (l0.length : Int)
        · rw [if_pos c4] at H
          have c4b0 : decide (x5_1 < (l0.length : Int)) = true := decide_eq_true c4; clear c4
          by_cases c5 : 0 ≤ x5_1
          · rw [if_pos c5] at H
            have c5b0 : decide (0 ≤ x5_1) = true := decide_eq_true c5; clear c5
            by_cases c6 : x5_1 < (l1.length : Int)
            · rw [if_pos c6] at H
              have c6b0 : decide (x5_1 < (l1.length : Int)) = true := decide_eq_true c6; clear c6; replace H := Option.bind_eq_some_iff.mp H; obtain ⟨t161, A70, H⟩ := H; replace H : (if t161 = true then (thistleref02_SameSets.l0 k1 l0 l1 (wrap64 (x5_1 + 1))) else (some false)) = some r := H; have A7 := Aside0.mk A70; clear A70
              by_cases c8 : t161 = true
              · subst c8
                have H1 : (thistleref02_SameSets.l0 k1 l0 l1 (wrap64 (x5_1 + 1))) = some r := by rw [if_pos rfl] at H; exact H
                clear H; have H := H1; clear H1; have H' := Aside0.mk H; clear H; have p159 : 0 ≤ (x5_1 : Int) := of_decide_eq_true (by first | (with_reducible assumption) | assumption); have q159 : x5_1 < (l0.length : Int) := of_decide_eq_true (by first | (with_reducible assumption) | assumption); obtain ⟨ad159, A159_0, c159_0, e159, hx159_0, hl159_0, hi159_0⟩ := at_L4 HR0.out x5_1 p159 q159
                cases e159
                have HR159_0 := Aside0.mk hi159_0; have HC159_0 := Aside0.mk hl159_0; clear hi159_0 hl159_0; replace p159 := eq_true p159; replace q159 := eq_true q159; have p160 : 0 ≤ (x5_1 : Int) := of_decide_eq_true (by first | (with_reducible assumption) | assumption); have q160 : x5_1 < (l1.length : Int) := of_decide_eq_true (by first | (with_reducible assumption) | assumption); obtain ⟨ad160, A160_0, c160_0, e160, hx160_0, hl160_0, hi160_0⟩ := at_L4 HR1.out x5_1 p160 q160
                cases e160
                have HR160_0 := Aside0.mk hi160_0; have HC160_0 := Aside0.mk hl160_0; clear hi160_0 hl160_0; replace p160 := eq_true p160; replace q160 := eq_true q160
                go_wp2_with (first | (go_at_call 35; (with_reducible refine (thistleref02_SameRanges.calls k1 _ _ (rd_L4 l0 x5_1) _ _ (rd_L4 l1 x5_1) true _ ?side1 ?side2 ?side3 ?side4 A7.out).mono ?_); (case side1 => repeat (first | exact HR159_0.out | (with_reducible refine Kd.C_alloc ?_ _) | (with_reducible refine Kd.C_drewN ?_ _) | (with_reducible refine Kd.C_drew ?_))); (case side2 => exact HC159_0.out); (case side3 => repeat (first | exact HR160_0.out | (with_reducible refine Kd.C_alloc ?_ _) | (with_reducible refine Kd.C_drewN ?_ _) | (with_reducible refine Kd.C_drew ?_))); (case side4 => exact HC160_0.out); rintro e w' ⟨rfl, ⟨nd, rfl⟩⟩; (try first | exact ⟨rfl, _, World.drewN_drewN _ _ _⟩ | exact ⟨rfl, _, Eq.trans (World.drewN_drewN _ _ _) (congrArg (World.drewN _) (Nat.add_assoc _ _ _))⟩)))
                repeat (go_quiet (first | (go_at_call 35; (with_reducible refine (thistleref02_SameRanges.calls k1 _ _ (rd_L4 l0 x5_1) _ _ (rd_L4 l1 x5_1) true _ ?side1 ?side2 ?side3 ?side4 A7.out).mono ?_); (case side1 => repeat (first | exact HR159_0.out | (with_reducible refine Kd.C_alloc ?_ _) | (with_reducible refine Kd.C_drewN ?_ _) | (with_reducible refine Kd.C_drew ?_))); (case side2 => exact HC159_0.out); (case side3 => repeat (first | exact HR160_0.out | (with_reducible refine Kd.C_alloc ?_ _) | (with_reducible refine Kd.C_drewN ?_ _) | (with_reducible refine Kd.C_drew ?_))); (case side4 => exact HC160_0.out); rintro e w' ⟨rfl, ⟨nd, rfl⟩⟩; (try first | exact ⟨rfl, _, World.drewN_drewN _ _ _⟩ | exact ⟨rfl, _, Eq.trans (World.drewN_drewN _ _ _) (congrArg (World.drewN _) (Nat.add_assoc _ _ _))⟩))); try go_wp2_with (first | (go_at_call 35; (with_reducible refine (thistleref02_SameRanges.calls k1 _ _ (rd_L4 l0 x5_1) _ _ (rd_L4 l1 x5_1) true _ ?side1 ?side2 ?side3 ?side4 A7.out).mono ?_); (case side1 => repeat (first | exact HR159_0.out | (with_reducible refine Kd.C_alloc ?_ _) | (with_reducible refine Kd.C_drewN ?_ _) | (with_reducible refine Kd.C_drew ?_))); (case side2 => exact HC159_0.out); (case side3 => repeat (first | exact HR160_0.out | (with_reducible refine Kd.C_alloc ?_ _) | (with_reducible refine Kd.C_drewN ?_ _) | (with_reducible refine Kd.C_drew ?_))); (case side4 => exact HC160_0.out); rintro e w' ⟨rfl, ⟨nd, rfl⟩⟩; (try first | exact ⟨rfl, _, World.drewN_drewN _ _ _⟩ | exact ⟨rfl, _, Eq.trans (World.drewN_drewN _ _ _) (congrArg (World.drewN _) (Nat.add_assoc _ _ _))⟩))))
                go_roundg k1
                case measure => have := HK1.out; omega
                case rel => exact ⟨(wrap64 (x5_1 + 1)), (by first | rfl | (simp; done) | (simp [*]; done)), H', ⟨by have := HK1.out; omega⟩, by repeat (first | exact Drawn0.refl _ | apply Drawn0.step)⟩
              · replace c8 := Bool.eq_false_iff.mpr c8
                subst c8
                have H1 : (some false) = some r := by rw [if_neg (show ¬ (false = true) by decide)] at H; exact H
                clear H; have H := H1; clear H1; obtain rfl := Option.some.inj H; have p159 : 0 ≤ (x5_1 : Int) := of_decide_eq_true (by first | (with_reducible assumption) | assumption); have q159 : x5_1 < (l0.length : Int) := of_decide_eq_true (by first | (with_reducible assumption) | assumption); obtain ⟨ad159, A159_0, c159_0, e159, hx159_0, hl159_0, hi159_0⟩ := at_L4 HR0.out x5_1 p159 q159
                cases e159
                have HR159_0 := Aside0.mk hi159_0; have HC159_0 := Aside0.mk hl159_0; clear hi159_0 hl159_0; replace p159 := eq_true p159; replace q159 := eq_true q159; have p160 : 0 ≤ (x5_1 : Int) := of_decide_eq_true (by first | (with_reducible assumption) | assumption); have q160 : x5_1 < (l1.length : Int) := of_decide_eq_true (by first | (with_reducible assumption) | assumption); obtain ⟨ad160, A160_0, c160_0, e160, hx160_0, hl160_0, hi160_0⟩ := at_L4 HR1.out x5_1 p160 q160
                cases e160
                have HR160_0 := Aside0.mk hi160_0; have HC160_0 := Aside0.mk hl160_0; clear hi160_0 hl160_0; replace p160 := eq_true p160; replace q160 := eq_true q160
                go_wp2_with (first | (go_at_call 35; (with_reducible refine (thistleref02_SameRanges.calls k1 _ _ (rd_L4 l0 x5_1) _ _ (rd_L4 l1 x5_1) false _ ?side1 ?side2 ?side3 ?side4 A7.out).mono ?_); (case side1 => repeat (first | exact HR159_0.out | (with_reducible refine Kd.C_alloc ?_ _) | (with_reducible refine Kd.C_drewN ?_ _) | (with_reducible refine Kd.C_drew ?_))); (case side2 => exact HC159_0.out); (case side3 => repeat (first | exact HR160_0.out | (with_reducible refine Kd.C_alloc ?_ _) | (with_reducible refine Kd.C_drewN ?_ _) | (with_reducible refine Kd.C_drew ?_))); (case side4 => exact HC160_0.out); rintro e w' ⟨rfl, ⟨nd, rfl⟩⟩; (try first | exact ⟨rfl, _, World.drewN_drewN _ _ _⟩ | exact ⟨rfl, _, Eq.trans (World.drewN_drewN _ _ _) (congrArg (World.drewN _) (Nat.add_assoc _ _ _))⟩)))
                repeat (go_quiet (first | (go_at_call 35; (with_reducible refine (thistleref02_SameRanges.calls k1 _ _ (rd_L4 l0 x5_1) _ _ (rd_L4 l1 x5_1) false _ ?side1 ?side2 ?side3 ?side4 A7.out).mono ?_); (case side1 => repeat (first | exact HR159_0.out | (with_reducible refine Kd.C_alloc ?_ _) | (with_reducible refine Kd.C_drewN ?_ _) | (with_reducible refine Kd.C_drew ?_))); (case side2 => exact HC159_0.out); (case side3 => repeat (first | exact HR160_0.out | (with_reducible refine Kd.C_alloc ?_ _) | (with_reducible refine Kd.C_drewN ?_ _) | (with_reducible refine Kd.C_drew ?_))); (case side4 => exact HC160_0.out); rintro e w' ⟨rfl, ⟨nd, rfl⟩⟩; (try first | exact ⟨rfl, _, World.drewN_drewN _ _ _⟩ | exact ⟨rfl, _, Eq.trans (World.drewN_drewN _ _ _) (congrArg (World.drewN _) (Nat.add_assoc _ _ _))⟩))); try go_wp2_with (first | (go_at_call 35; (with_reducible refine (thistleref02_SameRanges.calls k1 _ _ (rd_L4 l0 x5_1) _ _ (rd_L4 l1 x5_1) false _ ?side1 ?side2 ?side3 ?side4 A7.out).mono ?_); (case side1 => repeat (first | exact HR159_0.out | (with_reducible refine Kd.C_alloc ?_ _) | (with_reducible refine Kd.C_drewN ?_ _) | (with_reducible refine Kd.C_drew ?_))); (case side2 => exact HC159_0.out); (case side3 => repeat (first | exact HR160_0.out | (with_reducible refine Kd.C_alloc ?_ _) | (with_reducible refine Kd.C_drewN ?_ _) | (with_reducible refine Kd.C_drew ?_))); (case side4 => exact HC160_0.out); rintro e w' ⟨rfl, ⟨nd, rfl⟩⟩; (try first | exact ⟨rfl, _, World.drewN_drewN _ _ _⟩ | exact ⟨rfl, _, Eq.trans (World.drewN_drewN _ _ _) (congrArg (World.drewN _) (Nat.add_assoc _ _ _))⟩))))
                go_ret; exact ⟨by first | rfl | (simp; done) | (simp [*]; done), by repeat (first | exact Drawn0.refl _ | apply Drawn0.step)⟩
            · rw [if_neg c6] at H; exact absurd H (by simp)
          · rw [if_neg c5] at H; exact absurd H (by simp)
        · rw [if_neg c4] at H
          have c4b0 : decide (x5_1 < (l0.length : Int)) = false := decide_eq_false c4; clear c4; obtain rfl := Option.some.inj H
          go_wp2
          repeat (go_quiet (fail); try go_wp2)
          go_ret; exact ⟨by first | rfl | (simp; done) | (simp [*]; done), by repeat (first | exact Drawn0.refl _ | apply Drawn0.step)⟩
  · rw [if_neg c3] at H
    have c3b0 : ((l0.length : Int) == (l1.length : Int)) = false := beq_eq_false_iff_ne.mpr c3; have c3b1 : ((l0.length : Int) != (l1.length : Int)) = true := bne_iff_ne.mpr c3
    have c3b2 : (l0.length == l1.length) = false := by first | simpa using c3 | (simp at c3 ⊢; omega)
    obtain rfl := Option.some.inj H; go_enter Tryz.func36, Tryz.ntmps36
    go_wp2
    repeat (go_quiet (fail); try go_wp2)
    go_ret; exact ⟨by first | rfl | (simp; done) | (simp [*]; done), by repeat (first | exact Drawn0.refl _ | apply Drawn0.step)⟩
def thistleref02_SameRunes.l0 : Nat → List Int → List Int → Int → Option (Bool)
  | 0, _, _, _ => none
  | k + 1, x0, x1, x5 => if x5 < (x0.length : Int) then (if 0 ≤ x5 then (if x5 < (x1.length : Int) then (if (rd x0 x5) = (rd x1 x5) then (thistleref02_SameRunes.l0 k x0 x1 (wrap64 (x5 + 1))) else (some false)) else (none)) else (none)) else (some true)
def thistleref02_SameRunes.f (k : Nat) (l0 : List Int) (l1 : List Int) : Option (Bool) := if (l0.length : Int) = (l1.length : Int) then (thistleref02_SameRunes.l0 k l0 l1 0) else (some false)
theorem thistleref02_SameRunes.mono_l : ∀ k, (∀ y0 y1 y2, LeO (thistleref02_SameRunes.l0 k y0 y1 y2) (thistleref02_SameRunes.l0 (k + 1) y0 y1 y2))
  | 0 => fun _ _ _ r h => by simp [thistleref02_SameRunes.l0] at h
  | k + 1 => by
    have ih0 := thistleref02_SameRunes.mono_l k
    · intro y0 y1 y2
      unfold thistleref02_SameRunes.l0
      repeat' first
      | (with_reducible exact ih0 _ _ _)
      | (with_reducible exact LeO.refl _)
      | (with_reducible exact LeO.none _)
      | (with_reducible refine LeO.ite ?_ ?_)
      | (with_reducible refine LeO.bind ?_ (fun _ => ?_))
      | exact ih0 _ _ _
      | exact LeO.none _
      | refine LeO.ite ?_ ?_
      | refine LeO.bind ?_ (fun _ => ?_)
theorem thistleref02_SameRunes.mono : ∀ a0 a1 k, LeO (thistleref02_SameRunes.f k a0 a1) (thistleref02_SameRunes.f (k + 1) a0 a1) := by
  intro a0 a1 k; have ih0 := thistleref02_SameRunes.mono_l k; unfold thistleref02_SameRunes.f
  repeat' first
      | (with_reducible exact ih0 _ _ _)
      | (with_reducible exact LeO.refl _)
      | (with_reducible exact LeO.none _)
      | (with_reducible refine LeO.ite ?_ ?_)
      | (with_reducible refine LeO.bind ?_ (fun _ => ?_))
      | exact ih0 _ _ _
      | exact LeO.none _
      | refine LeO.ite ?_ ?_
      | refine LeO.bind ?_ (fun _ => ?_)
set_option maxHeartbeats 8000000 in
set_option maxRecDepth 100000 in
theorem thistleref02_SameRunes.calls (k : Nat) (A0 : Option Addr) (c0 : Nat) (l0 : List Int) (A1 : Option Addr) (c1 : Nat) (l1 : List Int) (r : Bool) (w : World) (hr0 : Kd.C (Kd.int .i32) w A0 l0.length l0) (hc0 : l0.length ≤ c0) (hr1 : Kd.C (Kd.int .i32) w A1 l1.length l1) (hc1 : l1.length ≤ c1) (h : thistleref02_SameRunes.f k l0 l1 = some r) :
    Calls Tryz.prog 37 #[.slice A0 l0.length c0, .slice A1 l1.length c1] w fun e w' => e = .returned (.bool r) ∧ Drawn0 w w' := by
  have HR0 := Aside0.mk hr0; have HC0 := Aside0.mk hc0; clear hr0 hc0; have HR1 := Aside0.mk hr1; have HC1 := Aside0.mk hc1; clear hr1 hc1; have H : (if (l0.length : Int) = (l1.length : Int) then (thistleref02_SameRunes.l0 k l0 l1 0) else (some false)) = some r := h; clear h
  by_cases c3 : (l0.length : Int) = (l1.length : Int)
  · rw [if_pos c3] at H
    have c3b0 : ((l0.length : Int) == (l1.length : Int)) = true := beq_iff_eq.mpr c3; have c3b1 : ((l0.length : Int) != (l1.length : Int)) = false := bne_eq_false_iff_eq.mpr c3
    have c3b2 : (l0.length == l1.length) = true := by first | simpa using c3 | (simp at c3 ⊢; omega)
    clear c3; have H' := Aside0.mk H; clear H; go_enter Tryz.func37, Tryz.ntmps37
    go_wp2
    repeat (go_quiet (fail); try go_wp2)
    go_loopg [5] k (fun kq v5 w' => ∃ (x5_1 : Int), v5 = .int .i64 x5_1 ∧ Aside0 (thistleref02_SameRunes.l0 kq l0 l1 x5_1 = some r) ∧ Aside0 (kq ≤ k) ∧ Drawn0 w w')
    case atStart => exact ⟨(0), (by first | rfl | (simp; done) | (simp [*]; done)), H', ⟨Nat.le_refl _⟩, by repeat (first | exact Drawn0.refl _ | apply Drawn0.step)⟩
    case round =>
      clear H'
      try clear c1
      try clear p2
      try clear c3
      try clear c3b0
      try clear c3b1
      try clear c3b2
      obtain ⟨x5_1, rfl, HA, HK1, ⟨m1, rfl⟩⟩ := hrel
      cases gk with
      | zero => exact absurd HA.out (by simp [thistleref02_SameRunes.l0])
      | succ k1 =>
        have H := HA.out; clear HA; simp only [thistleref02_SameRunes.l0] at H
        by_cases c4 : x5_1 < (l0.length : Int)
        · rw [if_pos c4] at H
          have c4b0 : decide (x5_1 < (l0.length : Int)) = true := decide_eq_true c4; clear c4
          by_cases c5 : 0 ≤ x5_1
          · rw [if_pos c5] at H
            have c5b0 : decide (0 ≤ x5_1) = true := decide_eq_true c5; clear c5
            by_cases c6 : x5_1 < (l1.length : Int)
            · rw [if_pos c6] at H
              have c6b0 : decide (x5_1 < (l1.length : Int)) = true := decide_eq_true c6; clear c6
              by_cases c7 : (rd l0 x5_1) = (rd l1 x5_1)
              · rw [if_pos c7] at H
                have c7b0 : ((rd l0 x5_1) == (rd l1 x5_1)) = true := beq_iff_eq.mpr c7; have c7b1 : ((rd l0 x5_1) != (rd l1 x5_1)) = false := bne_eq_false_iff_eq.mpr c7; clear c7; have H' := Aside0.mk H; clear H; have p162 : 0 ≤ (x5_1 : Int) := of_decide_eq_true (by first | (with_reducible assumption) | assumption); have q162 : x5_1 < (l0.length : Int) := of_decide_eq_true (by first | (with_reducible assumption) | assumption); obtain ⟨ad162, e162, hx162_0⟩ := Kd.at_int HR0.out x5_1 p162 q162
                cases e162
                replace p162 := eq_true p162; replace q162 := eq_true q162; have p163 : 0 ≤ (x5_1 : Int) := of_decide_eq_true (by first | (with_reducible assumption) | assumption); have q163 : x5_1 < (l1.length : Int) := of_decide_eq_true (by first | (with_reducible assumption) | assumption); obtain ⟨ad163, e163, hx163_0⟩ := Kd.at_int HR1.out x5_1 p163 q163
                cases e163
                replace p163 := eq_true p163; replace q163 := eq_true q163
                go_wp2
                repeat (go_quiet (fail); try go_wp2)
                go_roundg k1
                case measure => have := HK1.out; omega
                case rel => exact ⟨(wrap64 (x5_1 + 1)), (by first | rfl | (simp; done) | (simp [*]; done)), H', ⟨by have := HK1.out; omega⟩, by repeat (first | exact Drawn0.refl _ | apply Drawn0.step)⟩
              · rw [if_neg c7] at H
                have c7b0 : ((rd l0 x5_1) == (rd l1 x5_1)) = false := beq_eq_false_iff_ne.mpr c7; have c7b1 : ((rd l0 x5_1) != (rd l1 x5_1)) = true := bne_iff_ne.mpr c7; obtain rfl := Option.some.inj H; have p162 : 0 ≤ (x5_1 : Int) := of_decide_eq_true (by first | (with_reducible assumption) | assumption); have q162 : x5_1 < (l0.length : Int) := of_decide_eq_true (by first | (with_reducible assumption) | assumption); obtain ⟨ad162, e162, hx162_0⟩ := Kd.at_int HR0.out x5_1 p162 q162
                cases e162
                replace p162 := eq_true p162; replace q162 := eq_true q162; have p163 : 0 ≤ (x5_1 : Int) := of_decide_eq_true (by first | (with_reducible assumption) | assumption); have q163 : x5_1 < (l1.length : Int) := of_decide_eq_true (by first | (with_reducible assumption) | assumption); obtain ⟨ad163, e163, hx163_0⟩ := Kd.at_int HR1.out x5_1 p163 q163
                cases e163
                replace p163 := eq_true p163; replace q163 := eq_true q163
                go_wp2
                repeat (go_quiet (fail); try go_wp2)
                go_ret; exact ⟨by first | rfl | (simp; done) | (simp [*]; done), by repeat (first | exact Drawn0.refl _ | apply Drawn0.step)⟩
            · rw [if_neg c6] at H; exact absurd H (by simp)
          · rw [if_neg c5] at H; exact absurd H (by simp)
        · rw [if_neg c4] at H
          have c4b0 : decide (x5_1 < (l0.length : Int)) = false := decide_eq_false c4; clear c4; obtain rfl := Option.some.inj H
          go_wp2
          repeat (go_quiet (fail); try go_wp2)
          go_ret; exact ⟨by first | rfl | (simp; done) | (simp [*]; done), by repeat (first | exact Drawn0.refl _ | apply Drawn0.step)⟩
  · rw [if_neg c3] at H
    have c3b0 : ((l0.length : Int) == (l1.length : Int)) = false := beq_eq_false_iff_ne.mpr c3; have c3b1 : ((l0.length : Int) != (l1.length : Int)) = true := bne_iff_ne.mpr c3
    have c3b2 : (l0.length == l1.length) = false := by first | simpa using c3 | (simp at c3 ⊢; omega)
    obtain rfl := Option.some.inj H; go_enter Tryz.func37, Tryz.ntmps37
    go_wp2
    repeat (go_quiet (fail); try go_wp2)
    go_ret; exact ⟨by first | rfl | (simp; done) | (simp [*]; done), by repeat (first | exact Drawn0.refl _ | apply Drawn0.step)⟩
def thistlelaw02_wakes.f (k : Nat)  : Option (Bool) := (sets_Make.f k (([(⟨100, 100⟩ : S41), (⟨97, 99⟩ : S41)] : List (S41)))).bind fun bt167 => (if bt167.2 = 0 then (if (bt167.1.length : Int) = 1 then (if 0 < (bt167.1.length : Int) then (if ((rd_T41 bt167.1 0).f0) = 97 then (some (((rd_T41 bt167.1 0).f1) == 100)) else (some false)) else (none)) else (some false)) else (some false))
theorem thistlelaw02_wakes.mono : ∀ k, LeO (thistlelaw02_wakes.f k ) (thistlelaw02_wakes.f (k + 1) ) := by
  intro  k; unfold thistlelaw02_wakes.f
  repeat' first
      | (with_reducible exact sets_Make.mono _ _)
      | (with_reducible exact LeO.refl _)
      | (with_reducible exact LeO.none _)
      | (with_reducible refine LeO.ite ?_ ?_)
      | (with_reducible refine LeO.bind ?_ (fun _ => ?_))
      | exact sets_Make.mono _ _
      | exact LeO.none _
      | refine LeO.ite ?_ ?_
      | refine LeO.bind ?_ (fun _ => ?_)
set_option maxHeartbeats 8000000 in
set_option maxRecDepth 100000 in
theorem thistlelaw02_wakes.calls (k : Nat)  (r : Bool) (w : World) (hG : Glob w) (h : thistlelaw02_wakes.f k  = some r) :
    Calls Tryz.prog 5 #[] w fun e w' => e = .returned (.bool r) ∧ Below w.heap.size w w' := by
  have hu41 := Tryz.underlying41; have HB := Aside0.mk (Below.refl w.heap.size w); have H : ((sets_Make.f k (([(⟨100, 100⟩ : S41), (⟨97, 99⟩ : S41)] : List (S41)))).bind fun bt167 => (if bt167.2 = 0 then (if (bt167.1.length : Int) = 1 then (if 0 < (bt167.1.length : Int) then (if ((rd_T41 bt167.1 0).f0) = 97 then (some (((rd_T41 bt167.1 0).f1) == 100)) else (some false)) else (none)) else (some false)) else (some false))) = some r := h; clear h; obtain ⟨y164, hy164⟩ : ∃ y_ : List (S41), y_ = (([(⟨100, 100⟩ : S41), (⟨97, 99⟩ : S41)] : List (S41))) := ⟨_, rfl⟩
  replace H : ((sets_Make.f k y164).bind fun bt167 => (if bt167.2 = 0 then (if (bt167.1.length : Int) = 1 then (if 0 < (bt167.1.length : Int) then (if ((rd_T41 bt167.1 0).f0) = 97 then (some (((rd_T41 bt167.1 0).f1) == 100)) else (some false)) else (none)) else (some false)) else (some false))) = some r := by first | (rw [hy164]; with_reducible exact H) | (have H2_ := (Option.bind_some _ _).symm.trans H; rw [hy164]; with_reducible exact H2_) | (have H2_ := (Option.bind_some _ _).symm.trans H; with_reducible exact H2_) | with_reducible exact H | (rw [hy164]; exact H) | exact H
  have Ny164 := Aside0.mk hy164; clear hy164; replace H := Option.bind_eq_some_iff.mp H; obtain ⟨⟨t167, t168⟩, A10, H⟩ := H; replace H : (if t168 = 0 then (if (t167.length : Int) = 1 then (if 0 < (t167.length : Int) then (if ((rd_T41 t167 0).f0) = 97 then (some (((rd_T41 t167 0).f1) == 100)) else (some false)) else (none)) else (some false)) else (some false)) = some r := H; have A1 := Aside0.mk A10; clear A10
  by_cases c2 : t168 = 0
  · rw [if_pos c2] at H
    have c2b0 : (t168 == 0) = true := beq_iff_eq.mpr c2; have c2b1 : (t168 != 0) = false := bne_eq_false_iff_eq.mpr c2; clear c2
    by_cases c3 : (t167.length : Int) = 1
    · rw [if_pos c3] at H
      have c3b0 : ((t167.length : Int) == 1) = true := beq_iff_eq.mpr c3; have c3b1 : ((t167.length : Int) != 1) = false := bne_eq_false_iff_eq.mpr c3; clear c3
      by_cases c4 : 0 < (t167.length : Int)
      · rw [if_pos c4] at H
        have c4b0 : decide (0 < (t167.length : Int)) = true := decide_eq_true c4; have c4b1 : decide (0 < t167.length) = true := decide_eq_true (by omega); clear c4
        by_cases c5 : ((rd_T41 t167 0).f0) = 97
        · rw [if_pos c5] at H
          have c5b0 : (((rd_T41 t167 0).f0) == 97) = true := beq_iff_eq.mpr c5; have c5b1 : (((rd_T41 t167 0).f0) != 97) = false := bne_eq_false_iff_eq.mpr c5; clear c5; obtain rfl := Option.some.inj H; go_enter Tryz.func5, Tryz.ntmps5
          go_wp2_with (first | ((with_reducible refine gate_dst (N := 6) rfl ?_); (try (refine gate_guard (by rfl) ?_; dsimp only)); refine Kd.R_lit k41 _ 41 ?hg (N := 6) ?hd (xs := ([(⟨100, 100⟩ : S41), (⟨97, 99⟩ : S41)] : List (S41))) (inner := [.int .i32 100, .int .i32 100, .int .i32 97, .int .i32 99]) (ok := fun _ => True) (okp := fun _ => True) ?hr ?hp (fun _ hk => hk) trivial (Below.refl _ _) (Nat.le_refl _) (by simp) ?_; (case hd => rfl); (case hg => rfl); (case hr => first | (go_simp; done) | (go_simp; rfl)); (case hp => exact (Reps.c2 (show Kd.M k41 _ _ _ (⟨100, 100⟩ : S41) [.int .i32 100, .int .i32 100] from (k41_mkM _ _ _ (⟨100, 100⟩ : S41) )) (Reps.c2 (show Kd.M k41 _ _ _ (⟨97, 99⟩ : S41) [.int .i32 97, .int .i32 99] from (k41_mkM _ _ _ (⟨97, 99⟩ : S41) )) (Reps.none _ _)))); intro v165 w6 ho7 hb hg_ hnew_; clear hg_ hnew_; (first | rw [← Ny164.out] at ho7 | (simp only [Int.reduceToNat] at ho7; rw [← Ny164.out] at ho7)); have n0_ := Aside0.mk (Kd.R_lower ho7 (below_size (by repeat (first | (with_reducible first | exact HB.out | apply below_alloc | apply pw_below_drewN | apply below_drew1) | exact HB.out)))); have n1_ := Aside0.mk (below_step (by repeat (first | (with_reducible first | exact HB.out | apply below_alloc | apply pw_below_drewN | apply below_drew1) | exact HB.out)) hb); clear HB; have HO166 := n0_; have HB := n1_; clear n0_ n1_; clear hb ho7; obtain ⟨Ao8, co8, eo8⟩ := Kd.R_slice HO166.out; subst eo8) | ((with_reducible refine gate_callee (f := 12) rfl ?_); refine goesL_ (some 7) rfl rfl Tryz.func12 (by kernel_rfl) rfl #[.slice Ao8 y164.length co8] rfl (by (try simp only [List.map_toArray, List.map_cons, List.map_nil]); first | done | rfl | (simp only [List.length_drop, List.length_take]; rfl)) ?_; (with_reducible refine (sets_Make.calls k _ _ y164 t167 t168 _ ?side1 ?side2 ?side3 A1.out).mono ?_); (case side1 => repeat (first | exact (Kd.R_reads' HO166.out).2.2 | (with_reducible refine Kd.C_alloc ?_ _) | (with_reducible refine Kd.C_drewN ?_ _) | (with_reducible refine Kd.C_drew ?_))); (case side2 => exact (Kd.R_reads' HO166.out).2.1); (case side3 => first | exact hG | exact Glob.of_below hG (by repeat (first | (with_reducible first | exact HB.out | apply below_alloc | apply pw_below_drewN | apply below_drew1) | exact HB.out)) | exact Glob.of_below hG HB.out | exact Glob.drewN hG _ | exact Glob.drew hG | (with_reducible repeat (first | exact hG | apply Glob.drewN | apply Glob.drew | apply Glob.alloc))); rintro e w9 ⟨v169, rfl, ho0, hb⟩; refine ⟨_, rfl, ?_⟩; have n0_ := Aside0.mk (Kd.R_elder' (by (with_reducible repeat (first | apply Kd.R_alloc | apply Kd.R_drewN | apply Kd.R_drew)); exact HO166.out) (Kd.R_base ho0) hb); have n1_ := Aside0.mk (Kd.R_lower (Kd.R_new' ho0 (Kd.R_lt (by (with_reducible repeat (first | apply Kd.R_alloc | apply Kd.R_drewN | apply Kd.R_drew)); exact HO166.out))) (below_size (by repeat (first | (with_reducible first | exact HB.out | apply below_alloc | apply pw_below_drewN | apply below_drew1) | exact HB.out)))); have n2_ := Aside0.mk (below_step (by repeat (first | (with_reducible first | exact HB.out | apply below_alloc | apply pw_below_drewN | apply below_drew1) | exact HB.out)) hb); clear HO166; clear HB; have HO166 := n0_; have HO170 := n1_; have HB := n2_; clear n0_ n1_ n2_; (try clear hb); (try clear hb2); (try clear hk); (try clear hi); (try clear ho0); obtain ⟨Ao10, co10, eo10⟩ := Kd.R_slice HO170.out; subst eo10; have p171 : 0 ≤ (0 : Int) := (by omega); have q171 : 0 < (t167.length : Int) := of_decide_eq_true (by first | (with_reducible assumption) | assumption); obtain ⟨ad171, e171, hx171_0, hx171_1⟩ := at_T41 (Kd.R_reads' HO170.out).2.2 0 p171 q171; cases e171; have qi171 : (0 < t167.length) = True := eq_true (by omega); (try rw [show ((0 : Int)).toNat = 0 from rfl] at hx171_0); (try rw [show 0 * 2 = 0 from rfl] at hx171_0); (try rw [Addr.add_zero'] at hx171_0); (try rw [show ((0 : Int)).toNat = 0 from rfl] at hx171_1); (try rw [show 0 * 2 = 0 from rfl] at hx171_1); (try rw [Addr.add_zero'] at hx171_1); replace p171 := eq_true p171; replace q171 := eq_true q171; have p172 : 0 ≤ (0 : Int) := (by omega); have q172 : 0 < (t167.length : Int) := of_decide_eq_true (by first | (with_reducible assumption) | assumption); obtain ⟨ad172, e172, hx172_0, hx172_1⟩ := at_T41 (Kd.R_reads' HO170.out).2.2 0 p172 q172; obtain rfl : ad171 = ad172 := (by injection e172); have qi172 : (0 < t167.length) = True := eq_true (by omega); (try rw [show ((0 : Int)).toNat = 0 from rfl] at hx172_0); (try rw [show 0 * 2 = 0 from rfl] at hx172_0); (try rw [Addr.add_zero'] at hx172_0); (try rw [show ((0 : Int)).toNat = 0 from rfl] at hx172_1); (try rw [show 0 * 2 = 0 from rfl] at hx172_1); (try rw [Addr.add_zero'] at hx172_1); replace p172 := eq_true p172; replace q172 := eq_true q172))
          go_ret; exact ⟨by first | rfl | (simp [errW_none, errW_some] <;> rfl) | (simp [*, errW_none, errW_some] <;> rfl), by repeat (first | (with_reducible first | exact HB.out | apply below_alloc | apply pw_below_drewN | apply below_drew1) | exact HB.out)⟩
        · rw [if_neg c5] at H
          have c5b0 : (((rd_T41 t167 0).f0) == 97) = false := beq_eq_false_iff_ne.mpr c5; have c5b1 : (((rd_T41 t167 0).f0) != 97) = true := bne_iff_ne.mpr c5; obtain rfl := Option.some.inj H; go_enter Tryz.func5, Tryz.ntmps5
          go_wp2_with (first | ((with_reducible refine gate_dst (N := 6) rfl ?_); (try (refine gate_guard (by rfl) ?_; dsimp only)); refine Kd.R_lit k41 _ 41 ?hg (N := 6) ?hd (xs := ([(⟨100, 100⟩ : S41), (⟨97, 99⟩ : S41)] : List (S41))) (inner := [.int .i32 100, .int .i32 100, .int .i32 97, .int .i32 99]) (ok := fun _ => True) (okp := fun _ => True) ?hr ?hp (fun _ hk => hk) trivial (Below.refl _ _) (Nat.le_refl _) (by simp) ?_; (case hd => rfl); (case hg => rfl); (case hr => first | (go_simp; done) | (go_simp; rfl)); (case hp => exact (Reps.c2 (show Kd.M k41 _ _ _ (⟨100, 100⟩ : S41) [.int .i32 100, .int .i32 100] from (k41_mkM _ _ _ (⟨100, 100⟩ : S41) )) (Reps.c2 (show Kd.M k41 _ _ _ (⟨97, 99⟩ : S41) [.int .i32 97, .int .i32 99] from (k41_mkM _ _ _ (⟨97, 99⟩ : S41) )) (Reps.none _ _)))); intro v165 w11 ho12 hb hg_ hnew_; clear hg_ hnew_; (first | rw [← Ny164.out] at ho12 | (simp only [Int.reduceToNat] at ho12; rw [← Ny164.out] at ho12)); have n0_ := Aside0.mk (Kd.R_lower ho12 (below_size (by repeat (first | (with_reducible first | exact HB.out | apply below_alloc | apply pw_below_drewN | apply below_drew1) | exact HB.out)))); have n1_ := Aside0.mk (below_step (by repeat (first | (with_reducible first | exact HB.out | apply below_alloc | apply pw_below_drewN | apply below_drew1) | exact HB.out)) hb); clear HB; have HO166 := n0_; have HB := n1_; clear n0_ n1_; clear hb ho12; obtain ⟨Ao13, co13, eo13⟩ := Kd.R_slice HO166.out; subst eo13) | ((with_reducible refine gate_callee (f := 12) rfl ?_); refine goesL_ (some 7) rfl rfl Tryz.func12 (by kernel_rfl) rfl #[.slice Ao13 y164.length co13] rfl (by (try simp only [List.map_toArray, List.map_cons, List.map_nil]); first | done | rfl | (simp only [List.length_drop, List.length_take]; rfl)) ?_; (with_reducible refine (sets_Make.calls k _ _ y164 t167 t168 _ ?side1 ?side2 ?side3 A1.out).mono ?_); (case side1 => repeat (first | exact (Kd.R_reads' HO166.out).2.2 | (with_reducible refine Kd.C_alloc ?_ _) | (with_reducible refine Kd.C_drewN ?_ _) | (with_reducible refine Kd.C_drew ?_))); (case side2 => exact (Kd.R_reads' HO166.out).2.1); (case side3 => first | exact hG | exact Glob.of_below hG (by repeat (first | (with_reducible first | exact HB.out | apply below_alloc | apply pw_below_drewN | apply below_drew1) | exact HB.out)) | exact Glob.of_below hG HB.out | exact Glob.drewN hG _ | exact Glob.drew hG | (with_reducible repeat (first | exact hG | apply Glob.drewN | apply Glob.drew | apply Glob.alloc))); rintro e w14 ⟨v169, rfl, ho0, hb⟩; refine ⟨_, rfl, ?_⟩; have n0_ := Aside0.mk (Kd.R_elder' (by (with_reducible repeat (first | apply Kd.R_alloc | apply Kd.R_drewN | apply Kd.R_drew)); exact HO166.out) (Kd.R_base ho0) hb); have n1_ := Aside0.mk (Kd.R_lower (Kd.R_new' ho0 (Kd.R_lt (by (with_reducible repeat (first | apply Kd.R_alloc | apply Kd.R_drewN | apply Kd.R_drew)); exact HO166.out))) (below_size (by repeat (first | (with_reducible first | exact HB.out | apply below_alloc | apply pw_below_drewN | apply below_drew1) | exact HB.out)))); have n2_ := Aside0.mk (below_step (by repeat (first | (with_reducible first | exact HB.out | apply below_alloc | apply pw_below_drewN | apply below_drew1) | exact HB.out)) hb); clear HO166; clear HB; have HO166 := n0_; have HO170 := n1_; have HB := n2_; clear n0_ n1_ n2_; (try clear hb); (try clear hb2); (try clear hk); (try clear hi); (try clear ho0); obtain ⟨Ao15, co15, eo15⟩ := Kd.R_slice HO170.out; subst eo15; have p171 : 0 ≤ (0 : Int) := (by omega); have q171 : 0 < (t167.length : Int) := of_decide_eq_true (by first | (with_reducible assumption) | assumption); obtain ⟨ad171, e171, hx171_0, hx171_1⟩ := at_T41 (Kd.R_reads' HO170.out).2.2 0 p171 q171; cases e171; have qi171 : (0 < t167.length) = True := eq_true (by omega); (try rw [show ((0 : Int)).toNat = 0 from rfl] at hx171_0); (try rw [show 0 * 2 = 0 from rfl] at hx171_0); (try rw [Addr.add_zero'] at hx171_0); (try rw [show ((0 : Int)).toNat = 0 from rfl] at hx171_1); (try rw [show 0 * 2 = 0 from rfl] at hx171_1); (try rw [Addr.add_zero'] at hx171_1); replace p171 := eq_true p171; replace q171 := eq_true q171))
          go_ret; exact ⟨by first | rfl | (simp [errW_none, errW_some] <;> rfl) | (simp [*, errW_none, errW_some] <;> rfl), by repeat (first | (with_reducible first | exact HB.out | apply below_alloc | apply pw_below_drewN | apply below_drew1) | exact HB.out)⟩
      · rw [if_neg c4] at H; exact absurd H (by simp)
    · rw [if_neg c3] at H
      have c3b0 : ((t167.length : Int) == 1) = false := beq_eq_false_iff_ne.mpr c3; have c3b1 : ((t167.length : Int) != 1) = true := bne_iff_ne.mpr c3; obtain rfl := Option.some.inj H; go_enter Tryz.func5, Tryz.ntmps5
      go_wp2_with (first | ((with_reducible refine gate_dst (N := 6) rfl ?_); (try (refine gate_guard (by rfl) ?_; dsimp only)); refine Kd.R_lit k41 _ 41 ?hg (N := 6) ?hd (xs := ([(⟨100, 100⟩ : S41), (⟨97, 99⟩ : S41)] : List (S41))) (inner := [.int .i32 100, .int .i32 100, .int .i32 97, .int .i32 99]) (ok := fun _ => True) (okp := fun _ => True) ?hr ?hp (fun _ hk => hk) trivial (Below.refl _ _) (Nat.le_refl _) (by simp) ?_; (case hd => rfl); (case hg => rfl); (case hr => first | (go_simp; done) | (go_simp; rfl)); (case hp => exact (Reps.c2 (show Kd.M k41 _ _ _ (⟨100, 100⟩ : S41) [.int .i32 100, .int .i32 100] from (k41_mkM _ _ _ (⟨100, 100⟩ : S41) )) (Reps.c2 (show Kd.M k41 _ _ _ (⟨97, 99⟩ : S41) [.int .i32 97, .int .i32 99] from (k41_mkM _ _ _ (⟨97, 99⟩ : S41) )) (Reps.none _ _)))); intro v165 w16 ho17 hb hg_ hnew_; clear hg_ hnew_; (first | rw [← Ny164.out] at ho17 | (simp only [Int.reduceToNat] at ho17; rw [← Ny164.out] at ho17)); have n0_ := Aside0.mk (Kd.R_lower ho17 (below_size (by repeat (first | (with_reducible first | exact HB.out | apply below_alloc | apply pw_below_drewN | apply below_drew1) | exact HB.out)))); have n1_ := Aside0.mk (below_step (by repeat (first | (with_reducible first | exact HB.out | apply below_alloc | apply pw_below_drewN | apply below_drew1) | exact HB.out)) hb); clear HB; have HO166 := n0_; have HB := n1_; clear n0_ n1_; clear hb ho17; obtain ⟨Ao18, co18, eo18⟩ := Kd.R_slice HO166.out; subst eo18) | ((with_reducible refine gate_callee (f := 12) rfl ?_); refine goesL_ (some 7) rfl rfl Tryz.func12 (by kernel_rfl) rfl #[.slice Ao18 y164.length co18] rfl (by (try simp only [List.map_toArray, List.map_cons, List.map_nil]); first | done | rfl | (simp only [List.length_drop, List.length_take]; rfl)) ?_; (with_reducible refine (sets_Make.calls k _ _ y164 t167 t168 _ ?side1 ?side2 ?side3 A1.out).mono ?_); (case side1 => repeat (first | exact (Kd.R_reads' HO166.out).2.2 | (with_reducible refine Kd.C_alloc ?_ _) | (with_reducible refine Kd.C_drewN ?_ _) | (with_reducible refine Kd.C_drew ?_))); (case side2 => exact (Kd.R_reads' HO166.out).2.1); (case side3 => first | exact hG | exact Glob.of_below hG (by repeat (first | (with_reducible first | exact HB.out | apply below_alloc | apply pw_below_drewN | apply below_drew1) | exact HB.out)) | exact Glob.of_below hG HB.out | exact Glob.drewN hG _ | exact Glob.drew hG | (with_reducible repeat (first | exact hG | apply Glob.drewN | apply Glob.drew | apply Glob.alloc))); rintro e w19 ⟨v169, rfl, ho0, hb⟩; refine ⟨_, rfl, ?_⟩; have n0_ := Aside0.mk (Kd.R_elder' (by (with_reducible repeat (first | apply Kd.R_alloc | apply Kd.R_drewN | apply Kd.R_drew)); exact HO166.out) (Kd.R_base ho0) hb); have n1_ := Aside0.mk (Kd.R_lower (Kd.R_new' ho0 (Kd.R_lt (by (with_reducible repeat (first | apply Kd.R_alloc | apply Kd.R_drewN | apply Kd.R_drew)); exact HO166.out))) (below_size (by repeat (first | (with_reducible first | exact HB.out | apply below_alloc | apply pw_below_drewN | apply below_drew1) | exact HB.out)))); have n2_ := Aside0.mk (below_step (by repeat (first | (with_reducible first | exact HB.out | apply below_alloc | apply pw_below_drewN | apply below_drew1) | exact HB.out)) hb); clear HO166; clear HB; have HO166 := n0_; have HO170 := n1_; have HB := n2_; clear n0_ n1_ n2_; (try clear hb); (try clear hb2); (try clear hk); (try clear hi); (try clear ho0); obtain ⟨Ao20, co20, eo20⟩ := Kd.R_slice HO170.out; subst eo20))
      go_ret; exact ⟨by first | rfl | (simp [errW_none, errW_some] <;> rfl) | (simp [*, errW_none, errW_some] <;> rfl), by repeat (first | (with_reducible first | exact HB.out | apply below_alloc | apply pw_below_drewN | apply below_drew1) | exact HB.out)⟩
  · rw [if_neg c2] at H
    have c2b0 : (t168 == 0) = false := beq_eq_false_iff_ne.mpr c2; have c2b1 : (t168 != 0) = true := bne_iff_ne.mpr c2; obtain rfl := Option.some.inj H; go_enter Tryz.func5, Tryz.ntmps5
    go_wp2_with (first | ((with_reducible refine gate_dst (N := 6) rfl ?_); (try (refine gate_guard (by rfl) ?_; dsimp only)); refine Kd.R_lit k41 _ 41 ?hg (N := 6) ?hd (xs := ([(⟨100, 100⟩ : S41), (⟨97, 99⟩ : S41)] : List (S41))) (inner := [.int .i32 100, .int .i32 100, .int .i32 97, .int .i32 99]) (ok := fun _ => True) (okp := fun _ => True) ?hr ?hp (fun _ hk => hk) trivial (Below.refl _ _) (Nat.le_refl _) (by simp) ?_; (case hd => rfl); (case hg => rfl); (case hr => first | (go_simp; done) | (go_simp; rfl)); (case hp => exact (Reps.c2 (show Kd.M k41 _ _ _ (⟨100, 100⟩ : S41) [.int .i32 100, .int .i32 100] from (k41_mkM _ _ _ (⟨100, 100⟩ : S41) )) (Reps.c2 (show Kd.M k41 _ _ _ (⟨97, 99⟩ : S41) [.int .i32 97, .int .i32 99] from (k41_mkM _ _ _ (⟨97, 99⟩ : S41) )) (Reps.none _ _)))); intro v165 w21 ho22 hb hg_ hnew_; clear hg_ hnew_; (first | rw [← Ny164.out] at ho22 | (simp only [Int.reduceToNat] at ho22; rw [← Ny164.out] at ho22)); have n0_ := Aside0.mk (Kd.R_lower ho22 (below_size (by repeat (first | (with_reducible first | exact HB.out | apply below_alloc | apply pw_below_drewN | apply below_drew1) | exact HB.out)))); have n1_ := Aside0.mk (below_step (by repeat (first | (with_reducible first | exact HB.out | apply below_alloc | apply pw_below_drewN | apply below_drew1) | exact HB.out)) hb); clear HB; have HO166 := n0_; have HB := n1_; clear n0_ n1_; clear hb ho22; obtain ⟨Ao23, co23, eo23⟩ := Kd.R_slice HO166.out; subst eo23) | ((with_reducible refine gate_callee (f := 12) rfl ?_); refine goesL_ (some 7) rfl rfl Tryz.func12 (by kernel_rfl) rfl #[.slice Ao23 y164.length co23] rfl (by (try simp only [List.map_toArray, List.map_cons, List.map_nil]); first | done | rfl | (simp only [List.length_drop, List.length_take]; rfl)) ?_; (with_reducible refine (sets_Make.calls k _ _ y164 t167 t168 _ ?side1 ?side2 ?side3 A1.out).mono ?_); (case side1 => repeat (first | exact (Kd.R_reads' HO166.out).2.2 | (with_reducible refine Kd.C_alloc ?_ _) | (with_reducible refine Kd.C_drewN ?_ _) | (with_reducible refine Kd.C_drew ?_))); (case side2 => exact (Kd.R_reads' HO166.out).2.1); (case side3 => first | exact hG | exact Glob.of_below hG (by repeat (first | (with_reducible first | exact HB.out | apply below_alloc | apply pw_below_drewN | apply below_drew1) | exact HB.out)) | exact Glob.of_below hG HB.out | exact Glob.drewN hG _ | exact Glob.drew hG | (with_reducible repeat (first | exact hG | apply Glob.drewN | apply Glob.drew | apply Glob.alloc))); rintro e w24 ⟨v169, rfl, ho0, hb⟩; refine ⟨_, rfl, ?_⟩; have n0_ := Aside0.mk (Kd.R_elder' (by (with_reducible repeat (first | apply Kd.R_alloc | apply Kd.R_drewN | apply Kd.R_drew)); exact HO166.out) (Kd.R_base ho0) hb); have n1_ := Aside0.mk (Kd.R_lower (Kd.R_new' ho0 (Kd.R_lt (by (with_reducible repeat (first | apply Kd.R_alloc | apply Kd.R_drewN | apply Kd.R_drew)); exact HO166.out))) (below_size (by repeat (first | (with_reducible first | exact HB.out | apply below_alloc | apply pw_below_drewN | apply below_drew1) | exact HB.out)))); have n2_ := Aside0.mk (below_step (by repeat (first | (with_reducible first | exact HB.out | apply below_alloc | apply pw_below_drewN | apply below_drew1) | exact HB.out)) hb); clear HO166; clear HB; have HO166 := n0_; have HO170 := n1_; have HB := n2_; clear n0_ n1_ n2_; (try clear hb); (try clear hb2); (try clear hk); (try clear hi); (try clear ho0)))
    go_ret; exact ⟨by first | rfl | (simp [errW_none, errW_some] <;> rfl) | (simp [*, errW_none, errW_some] <;> rfl), by repeat (first | (with_reducible first | exact HB.out | apply below_alloc | apply pw_below_drewN | apply below_drew1) | exact HB.out)⟩
end Go.Proofs.YtoggmegpodmfnaaGreatDoor.PS
