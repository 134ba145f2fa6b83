/- Contracts of functions that the law reaches: what each call answers, as a plain function of what it reads; on condition that the function answers there. Printed by this session's own tool. -/
import Derived.Test.YtoggmegpodmfnaaDoorPUx0
import Derived.Test.YtoggmegpodmfnaaDoorPUx2
import Derived.Test.YtoggmegpodmfnaaDoorPUx3
namespace Go.Proofs.YtoggmegpodmfnaaDoor.PU
open Go.RowKit Go.Proofs.YtoggmegpodmfnaaDoor.B Go.Proofs.YtoggmegpodmfnaaDoorW.PrintWords Go.Proofs.YtoggmegpodmfnaaDoorW.PrintLast Go.Proofs.YtoggmegpodmfnaaDoorW.PrintMore
attribute [local go_sem] max2_int min2_int max_two min_two max_three min_three max_four min_four   -- for this text's walks alone
set_option linter.unusedVariables false
set_option linter.unusedSimpArgs false

/-! ### thistlelaw02_kind: function 36 -/
def thistlelaw02_kind.f (a0 : Int) : Option (Int) := if a0 < 55296 then (some 1) else (if a0 ≤ 1114111 then (some 2) else (some 3))
set_option maxHeartbeats 8000000 in
set_option maxRecDepth 100000 in
theorem thistlelaw02_kind.calls (a0 : Int) (r : Int) (w : World) (h : thistlelaw02_kind.f a0 = some r) :
    Calls Tryd.prog 36 #[.int .i64 a0] w fun e w' => e = .returned (.int .i64 r) ∧ Drawn0 w w' := by
  have H : (if a0 < 55296 then (some 1) else (if a0 ≤ 1114111 then (some 2) else (some 3))) = some r := h
  clear h
  by_cases c2 : a0 < 55296
  · rw [if_pos c2] at H
    have c2b0 : decide (a0 < 55296) = true := decide_eq_true c2
    clear c2
    obtain rfl := Option.some.inj H
    go_enter Tryd.func36, Tryd.ntmps36
    go_wp2
    go_ret
    exact ⟨by first | rfl | (simp; done) | (simp [*]; done), by repeat (first | exact Drawn0.refl _ | apply Drawn0.step)⟩
  · rw [if_neg c2] at H
    have c2b0 : decide (a0 < 55296) = false := decide_eq_false c2
    clear c2
    by_cases c3 : a0 ≤ 1114111
    · rw [if_pos c3] at H
      have c3b0 : decide (a0 ≤ 1114111) = true := decide_eq_true c3
      clear c3
      obtain rfl := Option.some.inj H
      go_enter Tryd.func36, Tryd.ntmps36
      go_wp2
      go_ret
      exact ⟨by first | rfl | (simp; done) | (simp [*]; done), by repeat (first | exact Drawn0.refl _ | apply Drawn0.step)⟩
    · rw [if_neg c3] at H
      have c3b0 : decide (a0 ≤ 1114111) = false := decide_eq_false c3
      clear c3
      obtain rfl := Option.some.inj H
      go_enter Tryd.func36, Tryd.ntmps36
      go_wp2
      go_ret
      exact ⟨by first | rfl | (simp; done) | (simp [*]; done), by repeat (first | exact Drawn0.refl _ | apply Drawn0.step)⟩

/-! ### thistlelaw02_sound: function 11 -/
mutual
def thistlelaw02_sound.l0 : Nat → List (S29) → Int → Option (Bool)
  | 0, _, _ => none
  | k + 1, x0, x3 => if x3 < (x0.length : Int) then (if 0 ≤ x3 then ((thistlelaw02_unit.f (wrap64 ((rd_T29 x0 x3).f0))).bind fun t1030 => (if t1030 = true then ((thistlelaw02_unit.f (wrap64 ((rd_T29 x0 x3).f1))).bind fun t1031 => (if t1031 = true then (if (wrap64 ((rd_T29 x0 x3).f0)) > (wrap64 ((rd_T29 x0 x3).f1)) then (thistlelaw02_sound.j1 k x0 x3 (wrap64 ((rd_T29 x0 x3).f0)) true) else ((thistlelaw02_kind.f (wrap64 ((rd_T29 x0 x3).f0))).bind fun t1032 => ((thistlelaw02_kind.f (wrap64 ((rd_T29 x0 x3).f1))).bind fun t1033 => (thistlelaw02_sound.j1 k x0 x3 (wrap64 ((rd_T29 x0 x3).f0)) (t1032 != t1033))))) else (thistlelaw02_sound.j1 k x0 x3 (wrap64 ((rd_T29 x0 x3).f0)) true))) else (thistlelaw02_sound.j1 k x0 x3 (wrap64 ((rd_T29 x0 x3).f0)) true))) else (none)) else (some true)
def thistlelaw02_sound.j1 : Nat → List (S29) → Int → Int → Bool → Option (Bool)
  | 0, _, _, _, _ => none
  | k + 1, x0, x3, x4, x43 => if x43 = true then (some false) else (if x3 > 0 then (if 0 ≤ (wrap64 (x3 - 1)) then (if (wrap64 (x3 - 1)) < (x0.length : Int) then (if x4 ≤ (wrap64 ((wrap64 ((rd_T29 x0 (wrap64 (x3 - 1))).f1)) + 1)) then (some false) else (thistlelaw02_sound.l0 k x0 (wrap64 (x3 + 1)))) else (none)) else (none)) else (thistlelaw02_sound.l0 k x0 (wrap64 (x3 + 1))))
end
def thistlelaw02_sound.f (k : Nat) (l0 : List (S29)) : Option (Bool) := thistlelaw02_sound.l0 k l0 0
theorem thistlelaw02_sound.mono_l : ∀ k, (∀ y0 y1, LeO (thistlelaw02_sound.l0 k y0 y1) (thistlelaw02_sound.l0 (k + 1) y0 y1)) ∧ (∀ y0 y1 y2 y3, LeO (thistlelaw02_sound.j1 k y0 y1 y2 y3) (thistlelaw02_sound.j1 (k + 1) y0 y1 y2 y3))
  | 0 => ⟨fun _ _ r h => by simp [thistlelaw02_sound.l0] at h, fun _ _ _ _ r h => by simp [thistlelaw02_sound.j1] at h⟩
  | k + 1 => by
    obtain ⟨ih0, ih1⟩ := thistlelaw02_sound.mono_l k
    refine ⟨?_, ?_⟩
    · intro y0 y1
      unfold thistlelaw02_sound.l0
      repeat' first
      | (with_reducible exact ih0 _ _)
      | (with_reducible exact ih1 _ _ _ _)
      | (with_reducible exact LeO.refl _)
      | (with_reducible exact LeO.none _)
      | (with_reducible refine LeO.ite ?_ ?_)
      | (with_reducible refine LeO.bind ?_ (fun _ => ?_))
      | exact ih0 _ _
      | exact ih1 _ _ _ _
      | exact LeO.none _
      | refine LeO.ite ?_ ?_
      | refine LeO.bind ?_ (fun _ => ?_)
    · intro y0 y1 y2 y3
      unfold thistlelaw02_sound.j1
      repeat' first
      | (with_reducible exact ih0 _ _)
      | (with_reducible exact ih1 _ _ _ _)
      | (with_reducible exact LeO.refl _)
      | (with_reducible exact LeO.none _)
      | (with_reducible refine LeO.ite ?_ ?_)
      | (with_reducible refine LeO.bind ?_ (fun _ => ?_))
      | exact ih0 _ _
      | exact ih1 _ _ _ _
      | exact LeO.none _
      | refine LeO.ite ?_ ?_
      | refine LeO.bind ?_ (fun _ => ?_)
theorem thistlelaw02_sound.mono : ∀ a0 k, LeO (thistlelaw02_sound.f k a0) (thistlelaw02_sound.f (k + 1) a0) := by
  intro a0 k
  obtain ⟨ih0, ih1⟩ := thistlelaw02_sound.mono_l k
  unfold thistlelaw02_sound.f
  repeat' first
      | (with_reducible exact ih0 _ _)
      | (with_reducible exact ih1 _ _ _ _)
      | (with_reducible exact LeO.refl _)
      | (with_reducible exact LeO.none _)
      | (with_reducible refine LeO.ite ?_ ?_)
      | (with_reducible refine LeO.bind ?_ (fun _ => ?_))
      | exact ih0 _ _
      | exact ih1 _ _ _ _
      | exact LeO.none _
      | refine LeO.ite ?_ ?_
      | refine LeO.bind ?_ (fun _ => ?_)
set_option maxHeartbeats 8000000 in
set_option maxRecDepth 100000 in
theorem thistlelaw02_sound.calls (k : Nat) (A0 : Option Addr) (c0 : Nat) (l0 : List (S29)) (r : Bool) (w : World) (hr0 : Kd.C k29 w A0 l0.length l0) (hc0 : l0.length ≤ c0) (h : thistlelaw02_sound.f k l0 = some r) :
    Calls Tryd.prog 11 #[.slice A0 l0.length c0] w fun e w' => e = .returned (.bool r) ∧ Drawn0 w w' := by
  have HR0 := Aside0.mk hr0
  have HC0 := Aside0.mk hc0
  clear hr0 hc0
  have H : (thistlelaw02_sound.l0 k l0 0) = some r := h
  clear h
  have H' := Aside0.mk H
  clear H
  go_enter Tryd.func11, Tryd.ntmps11
  go_wp2
  go_loopg [3] k (fun kq v3 w' => ∃ (x3_1 : Int), v3 = .int .i64 x3_1 ∧ Aside0 (thistlelaw02_sound.l0 kq l0 x3_1 = some r) ∧ Aside0 (kq ≤ k) ∧ Drawn0 w w')
  case atStart => exact ⟨(0), (by first | rfl | (simp; done) | (simp [*]; done)), H', ⟨Nat.le_refl _⟩, by repeat (first | exact Drawn0.refl _ | apply Drawn0.step)⟩
  case round =>
    clear H'
    try clear c1
    obtain ⟨x3_1, rfl, HA, HK1, ⟨m1, rfl⟩⟩ := hrel
    cases gk with
    | zero => exact absurd HA.out (by simp [thistlelaw02_sound.l0])
    | succ k1 =>
      have H := HA.out
      clear HA
      simp only [thistlelaw02_sound.l0] at H
      by_cases c2 : x3_1 < (l0.length : Int)
      · rw [if_pos c2] at H
        have c2b0 : decide (x3_1 < (l0.length : Int)) = true := decide_eq_true c2
        clear c2
        by_cases c3 : 0 ≤ x3_1
        · rw [if_pos c3] at H
          have c3b0 : decide (0 ≤ x3_1) = true := decide_eq_true c3
          clear c3
          have HC4 := Aside0.mk H
          clear H
          have p1028 : 0 ≤ (x3_1 : Int) := of_decide_eq_true (by first | (with_reducible assumption) | assumption)
          have q1028 : x3_1 < (l0.length : Int) := of_decide_eq_true (by first | (with_reducible assumption) | assumption)
          obtain ⟨ad1028, e1028, hx1028_0, hx1028_1⟩ := at_T29 HR0.out x3_1 p1028 q1028
          cases e1028
          replace p1028 := eq_true p1028
          replace q1028 := eq_true q1028
          have p1029 : 0 ≤ (x3_1 : Int) := of_decide_eq_true (by first | (with_reducible assumption) | assumption)
          have q1029 : x3_1 < (l0.length : Int) := of_decide_eq_true (by first | (with_reducible assumption) | assumption)
          obtain ⟨ad1029, e1029, hx1029_0, hx1029_1⟩ := at_T29 HR0.out x3_1 p1029 q1029
          obtain rfl : ad1028 = ad1029 := (by injection e1029)
          replace p1029 := eq_true p1029
          replace q1029 := eq_true q1029
          go_upto_region 6 with (fail)
          go_cut [43] (fun v43 wc => ∃ (kq : Nat) (x43_3 : Bool), v43 = .bool x43_3 ∧ Aside0 (thistlelaw02_sound.j1 kq l0 x3_1 (wrap64 ((rd_T29 l0 x3_1).f0)) x43_3 = some r) ∧ Aside0 (kq ≤ k1) ∧ Drawn0 w wc)
          case first =>
            have H := HC4.out
            clear HC4
            replace H := Option.bind_eq_some_iff.mp H
            obtain ⟨t1030, A50, H⟩ := H
            replace H : (if t1030 = true then ((thistlelaw02_unit.f (wrap64 ((rd_T29 l0 x3_1).f1))).bind fun t1031 => (if t1031 = true then (if (wrap64 ((rd_T29 l0 x3_1).f0)) > (wrap64 ((rd_T29 l0 x3_1).f1)) then (thistlelaw02_sound.j1 k1 l0 x3_1 (wrap64 ((rd_T29 l0 x3_1).f0)) true) else ((thistlelaw02_kind.f (wrap64 ((rd_T29 l0 x3_1).f0))).bind fun t1032 => ((thistlelaw02_kind.f (wrap64 ((rd_T29 l0 x3_1).f1))).bind fun t1033 => (thistlelaw02_sound.j1 k1 l0 x3_1 (wrap64 ((rd_T29 l0 x3_1).f0)) (t1032 != t1033))))) else (thistlelaw02_sound.j1 k1 l0 x3_1 (wrap64 ((rd_T29 l0 x3_1).f0)) true))) else (thistlelaw02_sound.j1 k1 l0 x3_1 (wrap64 ((rd_T29 l0 x3_1).f0)) true)) = some r := H
            have A5 := Aside0.mk A50
            clear A50
            by_cases c6 : t1030 = true
            · subst c6
              have H1 : ((thistlelaw02_unit.f (wrap64 ((rd_T29 l0 x3_1).f1))).bind fun t1031 => (if t1031 = true then (if (wrap64 ((rd_T29 l0 x3_1).f0)) > (wrap64 ((rd_T29 l0 x3_1).f1)) then (thistlelaw02_sound.j1 k1 l0 x3_1 (wrap64 ((rd_T29 l0 x3_1).f0)) true) else ((thistlelaw02_kind.f (wrap64 ((rd_T29 l0 x3_1).f0))).bind fun t1032 => ((thistlelaw02_kind.f (wrap64 ((rd_T29 l0 x3_1).f1))).bind fun t1033 => (thistlelaw02_sound.j1 k1 l0 x3_1 (wrap64 ((rd_T29 l0 x3_1).f0)) (t1032 != t1033))))) else (thistlelaw02_sound.j1 k1 l0 x3_1 (wrap64 ((rd_T29 l0 x3_1).f0)) true))) = some r := by rw [if_pos rfl] at H; exact H
              clear H
              have H := H1
              clear H1
              replace H := Option.bind_eq_some_iff.mp H
              obtain ⟨t1031, A70, H⟩ := H
              replace H : (if t1031 = true then (if (wrap64 ((rd_T29 l0 x3_1).f0)) > (wrap64 ((rd_T29 l0 x3_1).f1)) then (thistlelaw02_sound.j1 k1 l0 x3_1 (wrap64 ((rd_T29 l0 x3_1).f0)) true) else ((thistlelaw02_kind.f (wrap64 ((rd_T29 l0 x3_1).f0))).bind fun t1032 => ((thistlelaw02_kind.f (wrap64 ((rd_T29 l0 x3_1).f1))).bind fun t1033 => (thistlelaw02_sound.j1 k1 l0 x3_1 (wrap64 ((rd_T29 l0 x3_1).f0)) (t1032 != t1033))))) else (thistlelaw02_sound.j1 k1 l0 x3_1 (wrap64 ((rd_T29 l0 x3_1).f0)) true)) = some r := H
              have A7 := Aside0.mk A70
              clear A70
              by_cases c8 : t1031 = true
              · subst c8
                have H1 : (if (wrap64 ((rd_T29 l0 x3_1).f0)) > (wrap64 ((rd_T29 l0 x3_1).f1)) then (thistlelaw02_sound.j1 k1 l0 x3_1 (wrap64 ((rd_T29 l0 x3_1).f0)) true) else ((thistlelaw02_kind.f (wrap64 ((rd_T29 l0 x3_1).f0))).bind fun t1032 => ((thistlelaw02_kind.f (wrap64 ((rd_T29 l0 x3_1).f1))).bind fun t1033 => (thistlelaw02_sound.j1 k1 l0 x3_1 (wrap64 ((rd_T29 l0 x3_1).f0)) (t1032 != t1033))))) = some r := by rw [if_pos rfl] at H; exact H
                clear H
                have H := H1
                clear H1
                by_cases c9 : (wrap64 ((rd_T29 l0 x3_1).f0)) > (wrap64 ((rd_T29 l0 x3_1).f1))
                · rw [if_pos c9] at H
                  have c9b0 : decide ((wrap64 ((rd_T29 l0 x3_1).f1)) < (wrap64 ((rd_T29 l0 x3_1).f0))) = true := decide_eq_true c9
                  clear c9
                  (first | rw [c9b0] | (simp only [i64_w, i32_w]; rw [c9b0]) | skip)
                  have H' := Aside0.mk H
                  clear H
                  have tok46_ : True := trivial
                  have tok47_ : True := trivial
                  go_wp2_with (first | ((with_reducible refine gate_callee (f := 15) rfl ?_); clear tok46_; refine goesL_ (some 25) rfl rfl Tryd.func15 (by kernel_rfl) rfl #[.int .i64 (wrap64 ((rd_T29 l0 x3_1).f0))] rfl (by (try simp only [List.map_toArray, List.map_cons, List.map_nil]); first | done | rfl | (simp only [List.length_drop, List.length_take]; rfl)) ?_; (with_reducible refine (thistlelaw02_unit.calls (wrap64 ((rd_T29 l0 x3_1).f0)) true _ A5.out).mono ?_); rintro e w' ⟨rfl, ⟨nd, rfl⟩⟩; refine ⟨_, rfl, ?_⟩) | (go_at_call 15; clear tok47_; (with_reducible refine (thistlelaw02_unit.calls (wrap64 ((rd_T29 l0 x3_1).f1)) true _ A7.out).mono ?_); rintro e w' ⟨rfl, ⟨nd, rfl⟩⟩))
                  go_meet
                  case rel => exact ⟨_, (true), (by first | rfl | (simp; done) | (simp [*]; done)), H', ⟨by have := HK1.out; first | omega | exact Nat.le_refl _⟩, by repeat (first | exact Drawn0.refl _ | apply Drawn0.step)⟩
                · rw [if_neg c9] at H
                  have c9b0 : decide ((wrap64 ((rd_T29 l0 x3_1).f1)) < (wrap64 ((rd_T29 l0 x3_1).f0))) = false := decide_eq_false c9
                  clear c9
                  (first | rw [c9b0] | (simp only [i64_w, i32_w]; rw [c9b0]) | skip)
                  replace H := Option.bind_eq_some_iff.mp H
                  obtain ⟨t1032, A100, H⟩ := H
                  replace H : ((thistlelaw02_kind.f (wrap64 ((rd_T29 l0 x3_1).f1))).bind fun t1033 => (thistlelaw02_sound.j1 k1 l0 x3_1 (wrap64 ((rd_T29 l0 x3_1).f0)) (t1032 != t1033))) = some r := H
                  have A10 := Aside0.mk A100
                  clear A100
                  replace H := Option.bind_eq_some_iff.mp H
                  obtain ⟨t1033, A110, H⟩ := H
                  replace H : (thistlelaw02_sound.j1 k1 l0 x3_1 (wrap64 ((rd_T29 l0 x3_1).f0)) (t1032 != t1033)) = some r := H
                  have A11 := Aside0.mk A110
                  clear A110
                  have H' := Aside0.mk H
                  clear H
                  have tok48_ : True := trivial
                  have tok49_ : True := trivial
                  have tok50_ : True := trivial
                  have tok51_ : True := trivial
                  go_wp2_with (first | ((with_reducible refine gate_callee (f := 15) rfl ?_); clear tok48_; refine goesL_ (some 25) rfl rfl Tryd.func15 (by kernel_rfl) rfl #[.int .i64 (wrap64 ((rd_T29 l0 x3_1).f0))] rfl (by (try simp only [List.map_toArray, List.map_cons, List.map_nil]); first | done | rfl | (simp only [List.length_drop, List.length_take]; rfl)) ?_; (with_reducible refine (thistlelaw02_unit.calls (wrap64 ((rd_T29 l0 x3_1).f0)) true _ A5.out).mono ?_); rintro e w' ⟨rfl, ⟨nd, rfl⟩⟩; refine ⟨_, rfl, ?_⟩) | (go_at_call 15; clear tok49_; (with_reducible refine (thistlelaw02_unit.calls (wrap64 ((rd_T29 l0 x3_1).f1)) true _ A7.out).mono ?_); rintro e w' ⟨rfl, ⟨nd, rfl⟩⟩) | (go_at_call 36; clear tok50_; (with_reducible refine (thistlelaw02_kind.calls (wrap64 ((rd_T29 l0 x3_1).f0)) t1032 _ A10.out).mono ?_); rintro e w' ⟨rfl, ⟨nd, rfl⟩⟩) | (go_at_call 36; clear tok51_; (with_reducible refine (thistlelaw02_kind.calls (wrap64 ((rd_T29 l0 x3_1).f1)) t1033 _ A11.out).mono ?_); rintro e w' ⟨rfl, ⟨nd, rfl⟩⟩))
                  go_meet
                  case rel => exact ⟨_, ((t1032 != t1033)), (by first | rfl | (simp; done) | (simp [*]; done)), H', ⟨by have := HK1.out; first | omega | exact Nat.le_refl _⟩, by repeat (first | exact Drawn0.refl _ | apply Drawn0.step)⟩
              · replace c8 := Bool.eq_false_iff.mpr c8
                subst c8
                have H1 : (thistlelaw02_sound.j1 k1 l0 x3_1 (wrap64 ((rd_T29 l0 x3_1).f0)) true) = some r := by rw [if_neg (show ¬ (false = true) by decide)] at H; exact H
                clear H
                have H := H1
                clear H1
                have H' := Aside0.mk H
                clear H
                have tok52_ : True := trivial
                have tok53_ : True := trivial
                go_wp2_with (first | ((with_reducible refine gate_callee (f := 15) rfl ?_); clear tok52_; refine goesL_ (some 25) rfl rfl Tryd.func15 (by kernel_rfl) rfl #[.int .i64 (wrap64 ((rd_T29 l0 x3_1).f0))] rfl (by (try simp only [List.map_toArray, List.map_cons, List.map_nil]); first | done | rfl | (simp only [List.length_drop, List.length_take]; rfl)) ?_; (with_reducible refine (thistlelaw02_unit.calls (wrap64 ((rd_T29 l0 x3_1).f0)) true _ A5.out).mono ?_); rintro e w' ⟨rfl, ⟨nd, rfl⟩⟩; refine ⟨_, rfl, ?_⟩) | (go_at_call 15; clear tok53_; (with_reducible refine (thistlelaw02_unit.calls (wrap64 ((rd_T29 l0 x3_1).f1)) false _ A7.out).mono ?_); rintro e w' ⟨rfl, ⟨nd, rfl⟩⟩))
                go_meet
                case rel => exact ⟨_, (true), (by first | rfl | (simp; done) | (simp [*]; done)), H', ⟨by have := HK1.out; first | omega | exact Nat.le_refl _⟩, by repeat (first | exact Drawn0.refl _ | apply Drawn0.step)⟩
            · replace c6 := Bool.eq_false_iff.mpr c6
              subst c6
              have H1 : (thistlelaw02_sound.j1 k1 l0 x3_1 (wrap64 ((rd_T29 l0 x3_1).f0)) true) = some r := by rw [if_neg (show ¬ (false = true) by decide)] at H; exact H
              clear H
              have H := H1
              clear H1
              have H' := Aside0.mk H
              clear H
              go_wp2_with (first | ((with_reducible refine gate_callee (f := 15) rfl ?_); refine goesL_ (some 25) rfl rfl Tryd.func15 (by kernel_rfl) rfl #[.int .i64 (wrap64 ((rd_T29 l0 x3_1).f0))] rfl (by (try simp only [List.map_toArray, List.map_cons, List.map_nil]); first | done | rfl | (simp only [List.length_drop, List.length_take]; rfl)) ?_; (with_reducible refine (thistlelaw02_unit.calls (wrap64 ((rd_T29 l0 x3_1).f0)) false _ A5.out).mono ?_); rintro e w' ⟨rfl, ⟨nd, rfl⟩⟩; refine ⟨_, rfl, ?_⟩))
              go_meet
              case rel => exact ⟨_, (true), (by first | rfl | (simp; done) | (simp [*]; done)), H', ⟨by have := HK1.out; first | omega | exact Nat.le_refl _⟩, by repeat (first | exact Drawn0.refl _ | apply Drawn0.step)⟩
          case rest =>
            clear HC4
            try clear c1
            try clear p1
            try clear q1
            try clear hx1
            try clear c2
            try clear c2b0
            try clear p2
            try clear c3
            try clear c3b0
            try clear c6
            try clear p6
            try clear c8
            try clear c9
            try clear c9b0
            try clear p10
            try clear q10
            try clear hx10
            try clear c11
            try clear hx1028_0
            try clear hx1028_1
            try clear hx1029_0
            try clear hx1029_1
            try clear p1028
            try clear p1029
            try clear q1028
            try clear q1029
            obtain ⟨kq, x43_3, rfl, HA, HJ3, ⟨mc3, rfl⟩⟩ := hcut
            cases kq with
            | zero => exact absurd HA.out (by simp [thistlelaw02_sound.j1])
            | succ kj3 =>
              have H := HA.out
              clear HA
              simp only [thistlelaw02_sound.j1] at H
              by_cases c12 : x43_3 = true
              · subst c12
                have H1 : (some false) = some r := by rw [if_pos rfl] at H; exact H
                clear H
                have H := H1
                clear H1
                obtain rfl := Option.some.inj H
                go_wp2
                go_ret
                exact ⟨by first | rfl | (simp; done) | (simp [*]; done), by repeat (first | exact Drawn0.refl _ | apply Drawn0.step)⟩
              · replace c12 := Bool.eq_false_iff.mpr c12
                subst c12
                have H1 : (if x3_1 > 0 then (if 0 ≤ (wrap64 (x3_1 - 1)) then (if (wrap64 (x3_1 - 1)) < (l0.length : Int) then (if (wrap64 ((rd_T29 l0 x3_1).f0)) ≤ (wrap64 ((wrap64 ((rd_T29 l0 (wrap64 (x3_1 - 1))).f1)) + 1)) then (some false) else (thistlelaw02_sound.l0 kj3 l0 (wrap64 (x3_1 + 1)))) else (none)) else (none)) else (thistlelaw02_sound.l0 kj3 l0 (wrap64 (x3_1 + 1)))) = some r := by rw [if_neg (show ¬ (false = true) by decide)] at H; exact H
                clear H
                have H := H1
                clear H1
                by_cases c13 : x3_1 > 0
                · rw [if_pos c13] at H
                  have c13b0 : decide (0 < x3_1) = true := decide_eq_true c13
                  clear c13
                  obtain ⟨ji14, hji14⟩ : ∃ j_ : Int, (wrap64 (x3_1 - 1)) = j_ := ⟨_, rfl⟩
                  replace H : (if 0 ≤ (ji14) then (if (ji14) < (l0.length : Int) then (if (wrap64 ((rd_T29 l0 x3_1).f0)) ≤ (wrap64 ((wrap64 ((rd_T29 l0 (ji14)).f1)) + 1)) then (some false) else (thistlelaw02_sound.l0 kj3 l0 (wrap64 (x3_1 + 1)))) else (none)) else (none)) = some r := by first | (rw [hji14] at H; exact H) | (simp only [hji14] at H ⊢; exact H)
                  have hji14w : (IntKind.i64.wrap (x3_1 - 1)) = ji14 := (i64_w _).trans hji14
                  by_cases c15 : 0 ≤ (ji14)
                  · rw [if_pos c15] at H
                    have c15b0 : decide (0 ≤ (ji14)) = true := decide_eq_true c15
                    clear c15
                    by_cases c16 : (ji14) < (l0.length : Int)
                    · rw [if_pos c16] at H
                      have c16b0 : decide ((ji14) < (l0.length : Int)) = true := decide_eq_true c16
                      clear c16
                      by_cases c17 : (wrap64 ((rd_T29 l0 x3_1).f0)) ≤ (wrap64 ((wrap64 ((rd_T29 l0 (ji14)).f1)) + 1))
                      · rw [if_pos c17] at H
                        have c17b0 : decide ((wrap64 ((rd_T29 l0 x3_1).f0)) ≤ (wrap64 ((wrap64 ((rd_T29 l0 (ji14)).f1)) + 1))) = true := decide_eq_true c17
                        clear c17
                        obtain rfl := Option.some.inj H
                        have p1034 : 0 ≤ ((ji14) : Int) := of_decide_eq_true (by first | (with_reducible assumption) | assumption)
                        have q1034 : (ji14) < (l0.length : Int) := of_decide_eq_true (by first | (with_reducible assumption) | assumption)
                        obtain ⟨ad1034, e1034, hx1034_0, hx1034_1⟩ := at_T29 HR0.out (ji14) p1034 q1034
                        obtain rfl : ad1028 = ad1034 := (by injection e1034)
                        replace p1034 := eq_true p1034
                        replace q1034 := eq_true q1034
                        go_wp2
                        go_ret
                        exact ⟨by first | rfl | (simp; done) | (simp only [← hji14] <;> (first | rfl | simp)) | (simp [*]; done), by repeat (first | exact Drawn0.refl _ | apply Drawn0.step)⟩
                      · rw [if_neg c17] at H
                        have c17b0 : decide ((wrap64 ((rd_T29 l0 x3_1).f0)) ≤ (wrap64 ((wrap64 ((rd_T29 l0 (ji14)).f1)) + 1))) = false := decide_eq_false c17
                        clear c17
                        have H' := Aside0.mk H
                        clear H
                        have p1034 : 0 ≤ ((ji14) : Int) := of_decide_eq_true (by first | (with_reducible assumption) | assumption)
                        have q1034 : (ji14) < (l0.length : Int) := of_decide_eq_true (by first | (with_reducible assumption) | assumption)
                        obtain ⟨ad1034, e1034, hx1034_0, hx1034_1⟩ := at_T29 HR0.out (ji14) p1034 q1034
                        obtain rfl : ad1028 = ad1034 := (by injection e1034)
                        replace p1034 := eq_true p1034
                        replace q1034 := eq_true q1034
                        go_wp2
                        go_roundg kj3
                        case measure => have := HK1.out; have := HJ3.out; omega
                        case rel => exact ⟨(wrap64 (x3_1 + 1)), (by first | rfl | (simp; done) | (simp [*]; done)), H', ⟨by have := HK1.out; have := HJ3.out; omega⟩, by repeat (first | exact Drawn0.refl _ | apply Drawn0.step)⟩
                    · rw [if_neg c16] at H
                      exact absurd H (by simp)
                  · rw [if_neg c15] at H
                    exact absurd H (by simp)
                · rw [if_neg c13] at H
                  have c13b0 : decide (0 < x3_1) = false := decide_eq_false c13
                  clear c13
                  have H' := Aside0.mk H
                  clear H
                  go_wp2
                  go_roundg kj3
                  case measure => have := HK1.out; have := HJ3.out; omega
                  case rel => exact ⟨(wrap64 (x3_1 + 1)), (by first | rfl | (simp; done) | (simp [*]; done)), H', ⟨by have := HK1.out; have := HJ3.out; omega⟩, by repeat (first | exact Drawn0.refl _ | apply Drawn0.step)⟩
        · rw [if_neg c3] at H
          exact absurd H (by simp)
      · rw [if_neg c2] at H
        have c2b0 : decide (x3_1 < (l0.length : Int)) = false := decide_eq_false c2
        clear c2
        obtain rfl := Option.some.inj H
        go_wp2
        go_ret
        exact ⟨by first | rfl | (simp; done) | (simp [*]; done), by repeat (first | exact Drawn0.refl _ | apply Drawn0.step)⟩

/-! ### thistlelaw02_ends: function 12 -/
mutual
def thistlelaw02_ends.l0 : Nat → List (S29) → List Int → Int → Option (List Int)
  | 0, _, _, _ => none
  | k + 1, x0, x3, x4 => if x4 < (x0.length : Int) then (thistlelaw02_ends.l1 k x0 x3 x4 (-1)) else (some x3)
def thistlelaw02_ends.l1 : Nat → List (S29) → List Int → Int → Int → Option (List Int)
  | 0, _, _, _, _ => none
  | k + 1, x0, x3, x4, x5 => if x5 ≤ 1 then (if 0 ≤ x4 then (if x4 < (x0.length : Int) then (if x3.length < 17592186044416 then ((some (x3 ++ [wrap64 ((wrap64 ((rd_T29 x0 x4).f0)) + x5)] : List Int)).bind fun y1039 => (if y1039.length < 17592186044416 then (thistlelaw02_ends.l1 k x0 (y1039 ++ [wrap64 ((wrap64 ((rd_T29 x0 x4).f1)) + x5)]) x4 (wrap64 (x5 + 1))) else (none))) else (none)) else (none)) else (none)) else (thistlelaw02_ends.l0 k x0 x3 (wrap64 (x4 + 1)))
end
def thistlelaw02_ends.f (k : Nat) (l0 : List (S29)) : Option (List Int) := thistlelaw02_ends.l0 k l0 (([(-1), 0, 1, 55295, 55296, 57343, 57344, 1114111, 1114112, 1114239, 1114240, 1114367, 1114368] : List Int)) 0
theorem thistlelaw02_ends.mono_l : ∀ k, (∀ y0 y1 y2, LeO (thistlelaw02_ends.l0 k y0 y1 y2) (thistlelaw02_ends.l0 (k + 1) y0 y1 y2)) ∧ (∀ y0 y1 y2 y3, LeO (thistlelaw02_ends.l1 k y0 y1 y2 y3) (thistlelaw02_ends.l1 (k + 1) y0 y1 y2 y3))
  | 0 => ⟨fun _ _ _ r h => by simp [thistlelaw02_ends.l0] at h, fun _ _ _ _ r h => by simp [thistlelaw02_ends.l1] at h⟩
  | k + 1 => by
    obtain ⟨ih0, ih1⟩ := thistlelaw02_ends.mono_l k
    refine ⟨?_, ?_⟩
    · intro y0 y1 y2
      unfold thistlelaw02_ends.l0
      repeat' first
      | (with_reducible exact ih0 _ _ _)
      | (with_reducible exact ih1 _ _ _ _)
      | (with_reducible exact LeO.refl _)
      | (with_reducible exact LeO.none _)
      | (with_reducible refine LeO.ite ?_ ?_)
      | (with_reducible refine LeO.bind ?_ (fun _ => ?_))
      | exact ih0 _ _ _
      | exact ih1 _ _ _ _
      | exact LeO.none _
      | refine LeO.ite ?_ ?_
      | refine LeO.bind ?_ (fun _ => ?_)
    · intro y0 y1 y2 y3
      unfold thistlelaw02_ends.l1
      repeat' first
      | (with_reducible exact ih0 _ _ _)
      | (with_reducible exact ih1 _ _ _ _)
      | (with_reducible exact LeO.refl _)
      | (with_reducible exact LeO.none _)
      | (with_reducible refine LeO.ite ?_ ?_)
      | (with_reducible refine LeO.bind ?_ (fun _ => ?_))
      | exact ih0 _ _ _
      | exact ih1 _ _ _ _
      | exact LeO.none _
      | refine LeO.ite ?_ ?_
      | refine LeO.bind ?_ (fun _ => ?_)
theorem thistlelaw02_ends.mono : ∀ a0 k, LeO (thistlelaw02_ends.f k a0) (thistlelaw02_ends.f (k + 1) a0) := by
  intro a0 k
  obtain ⟨ih0, ih1⟩ := thistlelaw02_ends.mono_l k
  unfold thistlelaw02_ends.f
  repeat' first
      | (with_reducible exact ih0 _ _ _)
      | (with_reducible exact ih1 _ _ _ _)
      | (with_reducible exact LeO.refl _)
      | (with_reducible exact LeO.none _)
      | (with_reducible refine LeO.ite ?_ ?_)
      | (with_reducible refine LeO.bind ?_ (fun _ => ?_))
      | exact ih0 _ _ _
      | exact ih1 _ _ _ _
      | exact LeO.none _
      | refine LeO.ite ?_ ?_
      | refine LeO.bind ?_ (fun _ => ?_)
set_option maxHeartbeats 8000000 in
set_option maxRecDepth 100000 in
theorem thistlelaw02_ends.calls (k : Nat) (A0 : Option Addr) (c0 : Nat) (l0 : List (S29)) (r : List Int) (w : World) (hr0 : Kd.C k29 w A0 l0.length l0) (hc0 : l0.length ≤ c0) (h : thistlelaw02_ends.f k l0 = some r) :
    Calls Tryd.prog 12 #[.slice A0 l0.length c0] w fun e w' => ∃ v0_ : Value, e = .returned (v0_) ∧ Kd.R (Kd.int .i64) 3 w' w.heap.size (fun _ => True) v0_ r ∧ Below w.heap.size w w' := by
  have HR0 := Aside0.mk hr0
  have HC0 := Aside0.mk hc0
  clear hr0 hc0
  have HB := Aside0.mk (Below.refl w.heap.size w)
  have H : (thistlelaw02_ends.l0 k l0 (([(-1), 0, 1, 55295, 55296, 57343, 57344, 1114111, 1114112, 1114239, 1114240, 1114367, 1114368] : List Int)) 0) = some r := h
  clear h
  obtain ⟨y1035, hy1035⟩ : ∃ y_ : List Int, y_ = (([(-1), 0, 1, 55295, 55296, 57343, 57344, 1114111, 1114112, 1114239, 1114240, 1114367, 1114368] : List Int)) := ⟨_, rfl⟩
  replace H : (thistlelaw02_ends.l0 k l0 y1035 0) = some r := by first | (rw [hy1035]; with_reducible exact H) | (have H2_ := (Option.bind_some _ _).symm.trans H; rw [hy1035]; with_reducible exact H2_) | (have H2_ := (Option.bind_some _ _).symm.trans H; with_reducible exact H2_) | with_reducible exact H | (rw [hy1035]; exact H) | exact H
  have Ny1035 := Aside0.mk hy1035
  clear hy1035
  have H' := Aside0.mk H
  clear H
  go_enter Tryd.func12, Tryd.ntmps12
  go_wp2_with (first | ((with_reducible refine gate_dst (N := 6) rfl ?_); refine Kd.R_lit (Kd.int .i64) _ 3 ?hg (N := 6) ?hd (xs := ([(-1), 0, 1, 55295, 55296, 57343, 57344, 1114111, 1114112, 1114239, 1114240, 1114367, 1114368] : List Int)) (inner := [.int .i64 (-1), .int .i64 0, .int .i64 1, .int .i64 55295, .int .i64 55296, .int .i64 57343, .int .i64 57344, .int .i64 1114111, .int .i64 1114112, .int .i64 1114239, .int .i64 1114240, .int .i64 1114367, .int .i64 1114368]) (ok := fun _ => True) (okp := fun _ => True) ?hr ?hp (fun _ hk => hk) trivial (Below.refl _ _) (Nat.le_refl _) (by simp) ?_; (case hd => rfl); (case hg => rfl); (case hr => first | (go_simp; done) | (go_simp; rfl)); (case hp => exact (Reps.one (show Kd.M (Kd.int .i64) _ _ _ (-1) [.int .i64 (-1)] from rfl) (Reps.one (show Kd.M (Kd.int .i64) _ _ _ 0 [.int .i64 0] from rfl) (Reps.one (show Kd.M (Kd.int .i64) _ _ _ 1 [.int .i64 1] from rfl) (Reps.one (show Kd.M (Kd.int .i64) _ _ _ 55295 [.int .i64 55295] from rfl) (Reps.one (show Kd.M (Kd.int .i64) _ _ _ 55296 [.int .i64 55296] from rfl) (Reps.one (show Kd.M (Kd.int .i64) _ _ _ 57343 [.int .i64 57343] from rfl) (Reps.one (show Kd.M (Kd.int .i64) _ _ _ 57344 [.int .i64 57344] from rfl) (Reps.one (show Kd.M (Kd.int .i64) _ _ _ 1114111 [.int .i64 1114111] from rfl) (Reps.one (show Kd.M (Kd.int .i64) _ _ _ 1114112 [.int .i64 1114112] from rfl) (Reps.one (show Kd.M (Kd.int .i64) _ _ _ 1114239 [.int .i64 1114239] from rfl) (Reps.one (show Kd.M (Kd.int .i64) _ _ _ 1114240 [.int .i64 1114240] from rfl) (Reps.one (show Kd.M (Kd.int .i64) _ _ _ 1114367 [.int .i64 1114367] from rfl) (Reps.one (show Kd.M (Kd.int .i64) _ _ _ 1114368 [.int .i64 1114368] from rfl) (Reps.none _ _))))))))))))))); intro v1036 w2 ho3 hb hg_ hnew_; clear hg_ hnew_; (first | rw [← Ny1035.out] at ho3 | (simp only [Int.reduceToNat] at ho3; rw [← Ny1035.out] at ho3)); have n0_ := Aside0.mk (Kd.R_lower ho3 (below_size (by repeat (first | (with_reducible first | exact HB.out | apply below_alloc | apply pw_below_drewN | apply below_drew1) | exact HB.out)))); have n1_ := Aside0.mk (below_step (by repeat (first | (with_reducible first | exact HB.out | apply below_alloc | apply pw_below_drewN | apply below_drew1) | exact HB.out)) hb); clear HB; have HO1037 := n0_; have HB := n1_; clear n0_ n1_; clear hb ho3))
  go_loopg [3, 4] k (fun kq v3 v4 w' => ∃ (x3_1 : List Int) (x4_1 : Int), v4 = .int .i64 x4_1 ∧ Aside0 (thistlelaw02_ends.l0 kq l0 x3_1 x4_1 = some r) ∧ Aside0 (kq ≤ k) ∧ Aside0 (Kd.R (Kd.int .i64) 3 w' w.heap.size (fun _ => True) v3 x3_1) ∧ Aside0 (Below w.heap.size w w'))
  case atStart => exact ⟨(y1035), (0), (by first | rfl | (simp; done) | (simp [*]; done)), H', ⟨Nat.le_refl _⟩, ⟨by (with_reducible repeat (first | apply Kd.R_alloc | apply Kd.R_drewN | apply Kd.R_drew)); exact HO1037.out⟩, ⟨by repeat (first | (with_reducible first | exact HB.out | apply below_alloc | apply pw_below_drewN | apply below_drew1) | exact HB.out)⟩⟩
  case round =>
    clear H'
    try clear c1
    try clear p2
    obtain ⟨x3_1, x4_1, rfl, HA, HK1, HO_3, HB⟩ := hrel
    cases gk with
    | zero => exact absurd HA.out (by simp [thistlelaw02_ends.l0])
    | succ k1 =>
      have H := HA.out
      clear HA
      simp only [thistlelaw02_ends.l0] at H
      by_cases c4 : x4_1 < (l0.length : Int)
      · rw [if_pos c4] at H
        have c4b0 : decide (x4_1 < (l0.length : Int)) = true := decide_eq_true c4
        clear c4
        have H' := Aside0.mk H
        clear H
        go_wp2
        go_loopg [3, 5] k1 (fun kq v3 v5 w' => ∃ (x3_2 : List Int) (x5_2 : Int), v5 = .int .i64 x5_2 ∧ Aside0 (thistlelaw02_ends.l1 kq l0 x3_2 x4_1 x5_2 = some r) ∧ Aside0 (kq ≤ k1) ∧ Aside0 (Kd.R (Kd.int .i64) 3 w' w.heap.size (fun _ => True) v3 x3_2) ∧ Aside0 (Below w.heap.size w w'))
        case atStart => exact ⟨(x3_1), ((-1)), (by first | rfl | (simp; done) | (simp [*]; done)), H', ⟨Nat.le_refl _⟩, ⟨by (with_reducible repeat (first | apply Kd.R_alloc | apply Kd.R_drewN | apply Kd.R_drew)); exact HO_3.out⟩, ⟨by repeat (first | (with_reducible first | exact HB.out | apply below_alloc | apply pw_below_drewN | apply below_drew1) | exact HB.out)⟩⟩
        case round =>
          clear H'
          try clear c1
          try clear p2
          try clear c4
          try clear c4b0
          try clear p2
          obtain ⟨x3_2, x5_2, rfl, HA, HK2, HO_3, HB⟩ := hrel
          cases gk with
          | zero => exact absurd HA.out (by simp [thistlelaw02_ends.l1])
          | succ k2 =>
            have H := HA.out
            clear HA
            simp only [thistlelaw02_ends.l1] at H
            by_cases c5 : x5_2 ≤ 1
            · rw [if_pos c5] at H
              have c5b0 : decide (x5_2 ≤ 1) = true := decide_eq_true c5
              clear c5
              by_cases c6 : 0 ≤ x4_1
              · rw [if_pos c6] at H
                have c6b0 : decide (0 ≤ x4_1) = true := decide_eq_true c6
                clear c6
                by_cases c7 : x4_1 < (l0.length : Int)
                · rw [if_pos c7] at H
                  have c7b0 : decide (x4_1 < (l0.length : Int)) = true := decide_eq_true c7
                  clear c7
                  by_cases c8 : x3_2.length < 17592186044416
                  · rw [if_pos c8] at H
                    have LMc8 := Aside0.mk c8
                    clear c8
                    obtain ⟨y1039, hy1039⟩ : ∃ y_ : List Int, y_ = (x3_2 ++ [wrap64 ((wrap64 ((rd_T29 l0 x4_1).f0)) + x5_2)]) := ⟨_, rfl⟩
                    replace H : (if y1039.length < 17592186044416 then (thistlelaw02_ends.l1 k2 l0 (y1039 ++ [wrap64 ((wrap64 ((rd_T29 l0 x4_1).f1)) + x5_2)]) x4_1 (wrap64 (x5_2 + 1))) else (none)) = some r := by first | (rw [hy1039]; with_reducible exact H) | (have H2_ := (Option.bind_some _ _).symm.trans H; rw [hy1039]; with_reducible exact H2_) | (have H2_ := (Option.bind_some _ _).symm.trans H; with_reducible exact H2_) | with_reducible exact H | (rw [hy1039]; exact H) | exact H
                    have Ny1039 := Aside0.mk hy1039
                    clear hy1039
                    by_cases c9 : y1039.length < 17592186044416
                    · rw [if_pos c9] at H
                      have LMc9 := Aside0.mk c9
                      clear c9
                      obtain ⟨y1043, hy1043⟩ : ∃ y_ : List Int, y_ = (y1039 ++ [wrap64 ((wrap64 ((rd_T29 l0 x4_1).f1)) + x5_2)]) := ⟨_, rfl⟩
                      replace H : (thistlelaw02_ends.l1 k2 l0 y1043 x4_1 (wrap64 (x5_2 + 1))) = some r := by first | (rw [hy1043]; with_reducible exact H) | (have H2_ := (Option.bind_some _ _).symm.trans H; rw [hy1043]; with_reducible exact H2_) | (have H2_ := (Option.bind_some _ _).symm.trans H; with_reducible exact H2_) | with_reducible exact H | (rw [hy1043]; exact H) | exact H
                      have Ny1043 := Aside0.mk hy1043
                      clear hy1043
                      have H' := Aside0.mk H
                      clear H
                      have p1038 : 0 ≤ (x4_1 : Int) := of_decide_eq_true (by first | (with_reducible assumption) | assumption)
                      have q1038 : x4_1 < (l0.length : Int) := of_decide_eq_true (by first | (with_reducible assumption) | assumption)
                      obtain ⟨ad1038, e1038, hx1038_0, hx1038_1⟩ := at_T29 HR0.out x4_1 p1038 q1038
                      cases e1038
                      replace hx1038_0 := (HB.out.cell (World.block_lt_of_cell? w _ hx1038_0)).trans hx1038_0
                      replace hx1038_1 := (HB.out.cell (World.block_lt_of_cell? w _ hx1038_1)).trans hx1038_1
                      replace p1038 := eq_true p1038
                      replace q1038 := eq_true q1038
                      go_wp2_with (first | ((with_reducible refine gate_builtin (b := .append) (xs := #[.tmp 17, .tmp 26]) rfl ?_); at_builtin; refine Kd.R_append (Kd.int .i64) (w0 := w) w.heap.size rfl (.tmp 17) (.tmp 26) 32 3 (.int .i64 0) 8 rfl Tryd.underlying32 info3 rfl (by decide) (by omega) u3 x3_2 (wrap64 ((wrap64 ((rd_T29 l0 x4_1).f0)) + x5_2)) [.int .i64 (wrap64 ((wrap64 ((rd_T29 l0 x4_1).f0)) + x5_2))] (fun _ => True) (fun _ => False) rfl rfl ?aP (fun _ hk => hk.elim) ?aF ?aO ?aB ?aS ?aL ?_; (case aP => exact rfl); (case aB => exact (by repeat (first | (with_reducible first | exact HB.out | apply below_alloc | apply pw_below_drewN | apply below_drew1) | exact HB.out))); (case aF => exact (fun _ _ => trivial)); (case aO => exact (by (with_reducible repeat (first | apply Kd.R_alloc | apply Kd.R_drewN | apply Kd.R_drew)); exact HO_3.out)); (case aS => exact (below_size (by repeat (first | (with_reducible first | exact HB.out | apply below_alloc | apply pw_below_drewN | apply below_drew1) | exact HB.out)))); (case aL => have := LMc8.out; omega); intro v1040 w10 ho hb hg hat; rw [← Ny1039.out] at ho; have n0_ := Aside0.mk (hb); have n1_ := Aside0.mk (ho); clear HB; clear HO_3; have HB := n0_; have HO1041 := n1_; clear n0_ n1_; clear ho hb hg hat; have p1042 : 0 ≤ (x4_1 : Int) := of_decide_eq_true (by first | (with_reducible assumption) | assumption); have q1042 : x4_1 < (l0.length : Int) := of_decide_eq_true (by first | (with_reducible assumption) | assumption); obtain ⟨ad1042, e1042, hx1042_0, hx1042_1⟩ := at_T29 HR0.out x4_1 p1042 q1042; obtain rfl : ad1038 = ad1042 := (by injection e1042); replace hx1042_0 := (HB.out.cell (World.block_lt_of_cell? w _ hx1042_0)).trans hx1042_0; replace hx1042_1 := (HB.out.cell (World.block_lt_of_cell? w _ hx1042_1)).trans hx1042_1; replace p1042 := eq_true p1042; replace q1042 := eq_true q1042) | ((with_reducible refine gate_builtin (b := .append) (xs := #[.tmp 28, .tmp 37]) rfl ?_); at_builtin; refine Kd.R_append (Kd.int .i64) (w0 := w) w.heap.size rfl (.tmp 28) (.tmp 37) 32 3 (.int .i64 0) 8 rfl Tryd.underlying32 info3 rfl (by decide) (by omega) v1040 y1039 (wrap64 ((wrap64 ((rd_T29 l0 x4_1).f1)) + x5_2)) [.int .i64 (wrap64 ((wrap64 ((rd_T29 l0 x4_1).f1)) + x5_2))] (fun _ => True) (fun _ => False) rfl rfl ?aP (fun _ hk => hk.elim) ?aF ?aO ?aB ?aS ?aL ?_; (case aP => exact rfl); (case aB => exact (by repeat (first | (with_reducible first | exact HB.out | apply below_alloc | apply pw_below_drewN | apply below_drew1) | exact HB.out))); (case aF => exact (fun _ _ => trivial)); (case aO => exact (by (with_reducible repeat (first | apply Kd.R_alloc | apply Kd.R_drewN | apply Kd.R_drew)); exact HO1041.out)); (case aS => exact (below_size (by repeat (first | (with_reducible first | exact HB.out | apply below_alloc | apply pw_below_drewN | apply below_drew1) | exact HB.out)))); (case aL => have := LMc9.out; omega); intro v1044 w11 ho hb hg hat; rw [← Ny1043.out] at ho; have n0_ := Aside0.mk (hb); have n1_ := Aside0.mk (ho); clear HB; clear HO1041; have HB := n0_; have HO1045 := n1_; clear n0_ n1_; clear ho hb hg hat))
                      go_roundg k2
                      case measure => have := HK1.out; have := HK2.out; omega
                      case rel => exact ⟨(y1043), (wrap64 (x5_2 + 1)), (by first | rfl | (simp; done) | (simp [*]; done)), H', ⟨by have := HK1.out; have := HK2.out; omega⟩, ⟨by (with_reducible repeat (first | apply Kd.R_alloc | apply Kd.R_drewN | apply Kd.R_drew)); exact HO1045.out⟩, ⟨by repeat (first | (with_reducible first | exact HB.out | apply below_alloc | apply pw_below_drewN | apply below_drew1) | exact HB.out)⟩⟩
                    · rw [if_neg c9] at H
                      exact absurd H (by simp)
                  · rw [if_neg c8] at H
                    exact absurd H (by simp)
                · rw [if_neg c7] at H
                  exact absurd H (by simp)
              · rw [if_neg c6] at H
                exact absurd H (by simp)
            · rw [if_neg c5] at H
              have c5b0 : decide (x5_2 ≤ 1) = false := decide_eq_false c5
              clear c5
              have H' := Aside0.mk H
              clear H
              go_wp2
              go_roundg k2
              case measure => have := HK1.out; have := HK2.out; omega
              case rel => exact ⟨(x3_2), (wrap64 (x4_1 + 1)), (by first | rfl | (simp; done) | (simp [*]; done)), H', ⟨by have := HK1.out; have := HK2.out; omega⟩, ⟨by (with_reducible repeat (first | apply Kd.R_alloc | apply Kd.R_drewN | apply Kd.R_drew)); exact HO_3.out⟩, ⟨by repeat (first | (with_reducible first | exact HB.out | apply below_alloc | apply pw_below_drewN | apply below_drew1) | exact HB.out)⟩⟩
      · rw [if_neg c4] at H
        have c4b0 : decide (x4_1 < (l0.length : Int)) = false := decide_eq_false c4
        clear c4
        obtain rfl := Option.some.inj H
        go_wp2
        go_ret
        exact ⟨_, by first | rfl | (simp [errW_none, errW_some] <;> rfl) | (simp [*, errW_none, errW_some] <;> rfl), by (with_reducible repeat (first | apply Kd.R_alloc | apply Kd.R_drewN | apply Kd.R_drew)); exact HO_3.out, by repeat (first | (with_reducible first | exact HB.out | apply below_alloc | apply pw_below_drewN | apply below_drew1) | exact HB.out)⟩

/-! ### thistlelaw02_small: function 13 -/
def thistlelaw02_small.f (a0 : Int) : Option (Int) := if a0 < (-2147483648) then (some (-2147483648)) else (if a0 > 2147483647 then (some 2147483647) else (some (wrap32 (a0))))
set_option maxHeartbeats 8000000 in
set_option maxRecDepth 100000 in
theorem thistlelaw02_small.calls (a0 : Int) (r : Int) (w : World) (h : thistlelaw02_small.f a0 = some r) :
    Calls Tryd.prog 13 #[.int .i64 a0] w fun e w' => e = .returned (.int .i32 r) ∧ Drawn0 w w' := by
  have H : (if a0 < (-2147483648) then (some (-2147483648)) else (if a0 > 2147483647 then (some 2147483647) else (some (wrap32 (a0))))) = some r := h
  clear h
  by_cases c2 : a0 < (-2147483648)
  · rw [if_pos c2] at H
    have c2b0 : decide (a0 < (-2147483648)) = true := decide_eq_true c2
    clear c2
    obtain rfl := Option.some.inj H
    go_enter Tryd.func13, Tryd.ntmps13
    go_wp2
    go_ret
    exact ⟨by first | rfl | (simp; done) | (simp [*]; done), by repeat (first | exact Drawn0.refl _ | apply Drawn0.step)⟩
  · rw [if_neg c2] at H
    have c2b0 : decide (a0 < (-2147483648)) = false := decide_eq_false c2
    clear c2
    by_cases c3 : a0 > 2147483647
    · rw [if_pos c3] at H
      have c3b0 : decide (2147483647 < a0) = true := decide_eq_true c3
      clear c3
      obtain rfl := Option.some.inj H
      go_enter Tryd.func13, Tryd.ntmps13
      go_wp2
      go_ret
      exact ⟨by first | rfl | (simp; done) | (simp [*]; done), by repeat (first | exact Drawn0.refl _ | apply Drawn0.step)⟩
    · rw [if_neg c3] at H
      have c3b0 : decide (2147483647 < a0) = false := decide_eq_false c3
      clear c3
      obtain rfl := Option.some.inj H
      go_enter Tryd.func13, Tryd.ntmps13
      go_wp2
      go_ret
      exact ⟨by first | rfl | (simp; done) | (simp [*]; done), by repeat (first | exact Drawn0.refl _ | apply Drawn0.step)⟩

/-! ### api_Range_rune: function 55 -/
def api_Range_rune.l0 : Nat → List (S29) → Int → Int → Int → Int → Option (Int × Bool)
  | 0, _, _, _, _, _ => none
  | k + 1, x0, x1, x8, x9, x10 => if x9 < x10 then (if 0 ≤ (wrap64 ((IntKind.u64.wrap (wrap64 (x9 + x10))) / 2)) then (if (wrap64 ((IntKind.u64.wrap (wrap64 (x9 + x10))) / 2)) < (x0.length : Int) then ((sets_has_1.f ((rd_T29 x0 (wrap64 ((IntKind.u64.wrap (wrap64 (x9 + x10))) / 2))).f0) ((rd_T29 x0 (wrap64 ((IntKind.u64.wrap (wrap64 (x9 + x10))) / 2))).f1) x1).bind fun t1047 => (if t1047 < 0 then (api_Range_rune.l0 k x0 x1 x8 (wrap64 ((wrap64 ((IntKind.u64.wrap (wrap64 (x9 + x10))) / 2)) + 1)) x10) else (api_Range_rune.l0 k x0 x1 x8 x9 (wrap64 ((IntKind.u64.wrap (wrap64 (x9 + x10))) / 2))))) else (none)) else (none)) else (if x9 < x8 then (if 0 ≤ x9 then (if x9 < (x0.length : Int) then ((sets_has_1.f ((rd_T29 x0 x9).f0) ((rd_T29 x0 x9).f1) x1).bind fun t1049 => (some (x9, (t1049 == 0)))) else (none)) else (none)) else (some (x9, false)))
def api_Range_rune.f (k : Nat) (l0 : List (S29)) (a1 : Int) : Option (Int × Bool) := api_Range_rune.l0 k l0 a1 (l0.length : Int) 0 (l0.length : Int)
theorem api_Range_rune.mono_l : ∀ k, (∀ y0 y1 y2 y3 y4, LeO (api_Range_rune.l0 k y0 y1 y2 y3 y4) (api_Range_rune.l0 (k + 1) y0 y1 y2 y3 y4))
  | 0 => fun _ _ _ _ _ r h => by simp [api_Range_rune.l0] at h
  | k + 1 => by
    have ih0 := api_Range_rune.mono_l k
    · intro y0 y1 y2 y3 y4
      unfold api_Range_rune.l0
      repeat' first
      | (with_reducible exact ih0 _ _ _ _ _)
      | (with_reducible exact LeO.refl _)
      | (with_reducible exact LeO.none _)
      | (with_reducible refine LeO.ite ?_ ?_)
      | (with_reducible refine LeO.bind ?_ (fun _ => ?_))
      | exact ih0 _ _ _ _ _
      | exact LeO.none _
      | refine LeO.ite ?_ ?_
      | refine LeO.bind ?_ (fun _ => ?_)
theorem api_Range_rune.mono : ∀ a0 a1 k, LeO (api_Range_rune.f k a0 a1) (api_Range_rune.f (k + 1) a0 a1) := by
  intro a0 a1 k
  have ih0 := api_Range_rune.mono_l k
  unfold api_Range_rune.f
  repeat' first
      | (with_reducible exact ih0 _ _ _ _ _)
      | (with_reducible exact LeO.refl _)
      | (with_reducible exact LeO.none _)
      | (with_reducible refine LeO.ite ?_ ?_)
      | (with_reducible refine LeO.bind ?_ (fun _ => ?_))
      | exact ih0 _ _ _ _ _
      | exact LeO.none _
      | refine LeO.ite ?_ ?_
      | refine LeO.bind ?_ (fun _ => ?_)
set_option maxHeartbeats 8000000 in
set_option maxRecDepth 100000 in
theorem api_Range_rune.calls (k : Nat) (A0 : Option Addr) (c0 : Nat) (l0 : List (S29)) (a1 : Int) (r1 : Int) (r2 : Bool) (w : World) (hr0 : Kd.C k29 w A0 l0.length l0) (hc0 : l0.length ≤ c0) (h : api_Range_rune.f k l0 a1 = some (r1, r2)) :
    Calls Tryd.prog 55 #[.slice A0 l0.length c0, .int .i32 a1, .func (.func 56) #[] #[]] w fun e w' => e = .returned (.tuple #[.int .i64 r1, .bool r2]) ∧ Below w.heap.size w w' := by
  have hu29 := Tryd.underlying29
  have HR0 := Aside0.mk hr0
  have HC0 := Aside0.mk hc0
  clear hr0 hc0
  have HB := Aside0.mk (Below.refl w.heap.size w)
  have H : (api_Range_rune.l0 k l0 a1 (l0.length : Int) 0 (l0.length : Int)) = some (r1, r2) := h
  clear h
  have H' := Aside0.mk H
  clear H
  go_enter Tryd.func55, Tryd.ntmps55
  go_wp2
  go_loopg [9, 10] k (fun kq v9 v10 w' => ∃ (x9_1 : Int) (x10_1 : Int), v9 = .int .i64 x9_1 ∧ v10 = .int .i64 x10_1 ∧ Aside0 (api_Range_rune.l0 kq l0 a1 (l0.length : Int) x9_1 x10_1 = some (r1, r2)) ∧ Aside0 (kq ≤ k) ∧ Aside0 (Below w.heap.size w w'))
  case atStart => exact ⟨(0), ((l0.length : Int)), (by first | rfl | (simp; done) | (simp [*]; done)), (by first | rfl | (simp; done) | (simp [*]; done)), H', ⟨Nat.le_refl _⟩, ⟨by repeat (first | (with_reducible first | exact HB.out | apply below_alloc | apply pw_below_drewN | apply below_drew1) | exact HB.out)⟩⟩
  case round =>
    clear H'
    try clear p2
    obtain ⟨x9_1, x10_1, rfl, rfl, HA, HK1, HB⟩ := hrel
    cases gk with
    | zero => exact absurd HA.out (by simp [api_Range_rune.l0])
    | succ k1 =>
      have H := HA.out
      clear HA
      simp only [api_Range_rune.l0] at H
      by_cases c3 : x9_1 < x10_1
      · rw [if_pos c3] at H
        have c3b0 : decide (x9_1 < x10_1) = true := decide_eq_true c3
        clear c3
        obtain ⟨ji4, hji4⟩ : ∃ j_ : Int, (wrap64 ((IntKind.u64.wrap (wrap64 (x9_1 + x10_1))) / 2)) = j_ := ⟨_, rfl⟩
        replace H : (if 0 ≤ (ji4) then (if (ji4) < (l0.length : Int) then ((sets_has_1.f ((rd_T29 l0 (ji4)).f0) ((rd_T29 l0 (ji4)).f1) a1).bind fun t1047 => (if t1047 < 0 then (api_Range_rune.l0 k1 l0 a1 (l0.length : Int) (wrap64 ((ji4) + 1)) x10_1) else (api_Range_rune.l0 k1 l0 a1 (l0.length : Int) x9_1 ji4))) else (none)) else (none)) = some (r1, r2) := by first | (rw [hji4] at H; exact H) | (simp only [hji4] at H ⊢; exact H)
        have hji4w : (IntKind.i64.wrap ((IntKind.u64.wrap (wrap64 (x9_1 + x10_1))) / 2)) = ji4 := (i64_w _).trans hji4
        by_cases c5 : 0 ≤ (ji4)
        · rw [if_pos c5] at H
          have c5b0 : decide (0 ≤ (ji4)) = true := decide_eq_true c5
          clear c5
          by_cases c6 : (ji4) < (l0.length : Int)
          · rw [if_pos c6] at H
            have c6b0 : decide ((ji4) < (l0.length : Int)) = true := decide_eq_true c6
            clear c6
            replace H := Option.bind_eq_some_iff.mp H
            obtain ⟨t1047, A70, H⟩ := H
            replace H : (if t1047 < 0 then (api_Range_rune.l0 k1 l0 a1 (l0.length : Int) (wrap64 ((ji4) + 1)) x10_1) else (api_Range_rune.l0 k1 l0 a1 (l0.length : Int) x9_1 ji4)) = some (r1, r2) := H
            have A7 := Aside0.mk A70
            clear A70
            by_cases c8 : t1047 < 0
            · rw [if_pos c8] at H
              have c8b0 : decide (t1047 < 0) = true := decide_eq_true c8
              clear c8
              have H' := Aside0.mk H
              clear H
              have p1046 : 0 ≤ ((ji4) : Int) := of_decide_eq_true (by first | (with_reducible assumption) | assumption)
              have q1046 : (ji4) < (l0.length : Int) := of_decide_eq_true (by first | (with_reducible assumption) | assumption)
              obtain ⟨ad1046, e1046, hx1046_0, hx1046_1⟩ := at_T29 HR0.out (ji4) p1046 q1046
              cases e1046
              replace hx1046_0 := (HB.out.cell (World.block_lt_of_cell? w _ hx1046_0)).trans hx1046_0
              replace hx1046_1 := (HB.out.cell (World.block_lt_of_cell? w _ hx1046_1)).trans hx1046_1
              replace p1046 := eq_true p1046
              replace q1046 := eq_true q1046
              go_wp2_with (first | (go_at_call 56; (with_reducible refine (sets_has_1.calls ((rd_T29 l0 (ji4)).f0) ((rd_T29 l0 (ji4)).f1) a1 t1047 _ A7.out).mono ?_); rintro e w9 ⟨rfl, hb⟩; have n0_ := Aside0.mk (below_step (by repeat (first | (with_reducible first | exact HB.out | apply below_alloc | apply pw_below_drewN | apply below_drew1) | exact HB.out)) hb); clear HB; have HB := n0_; clear n0_; (try clear hb); (try clear hb2); (try clear hk); (try clear hi)))
              go_roundg k1
              case measure => have := HK1.out; omega
              case rel => exact ⟨(wrap64 ((ji4) + 1)), (x10_1), (by first | rfl | (simp; done) | (simp only [← hji4] <;> (first | rfl | simp)) | (simp [*]; done)), (by first | rfl | (simp; done) | (simp [*]; done)), H', ⟨by have := HK1.out; omega⟩, ⟨by repeat (first | (with_reducible first | exact HB.out | apply below_alloc | apply pw_below_drewN | apply below_drew1) | exact HB.out)⟩⟩
            · rw [if_neg c8] at H
              have c8b0 : decide (t1047 < 0) = false := decide_eq_false c8
              clear c8
              have H' := Aside0.mk H
              clear H
              have p1046 : 0 ≤ ((ji4) : Int) := of_decide_eq_true (by first | (with_reducible assumption) | assumption)
              have q1046 : (ji4) < (l0.length : Int) := of_decide_eq_true (by first | (with_reducible assumption) | assumption)
              obtain ⟨ad1046, e1046, hx1046_0, hx1046_1⟩ := at_T29 HR0.out (ji4) p1046 q1046
              cases e1046
              replace hx1046_0 := (HB.out.cell (World.block_lt_of_cell? w _ hx1046_0)).trans hx1046_0
              replace hx1046_1 := (HB.out.cell (World.block_lt_of_cell? w _ hx1046_1)).trans hx1046_1
              replace p1046 := eq_true p1046
              replace q1046 := eq_true q1046
              go_wp2_with (first | (go_at_call 56; (with_reducible refine (sets_has_1.calls ((rd_T29 l0 (ji4)).f0) ((rd_T29 l0 (ji4)).f1) a1 t1047 _ A7.out).mono ?_); rintro e w10 ⟨rfl, hb⟩; have n0_ := Aside0.mk (below_step (by repeat (first | (with_reducible first | exact HB.out | apply below_alloc | apply pw_below_drewN | apply below_drew1) | exact HB.out)) hb); clear HB; have HB := n0_; clear n0_; (try clear hb); (try clear hb2); (try clear hk); (try clear hi)))
              go_roundg k1
              case measure => have := HK1.out; omega
              case rel => exact ⟨(x9_1), (ji4), (by first | rfl | (simp; done) | (simp [*]; done)), (by first | rfl | (simp; done) | (simp only [← hji4] <;> (first | rfl | simp)) | (simp [*]; done)), H', ⟨by have := HK1.out; omega⟩, ⟨by repeat (first | (with_reducible first | exact HB.out | apply below_alloc | apply pw_below_drewN | apply below_drew1) | exact HB.out)⟩⟩
          · rw [if_neg c6] at H
            exact absurd H (by simp)
        · rw [if_neg c5] at H
          exact absurd H (by simp)
      · rw [if_neg c3] at H
        have c3b0 : decide (x9_1 < x10_1) = false := decide_eq_false c3
        clear c3
        by_cases c11 : x9_1 < (l0.length : Int)
        · rw [if_pos c11] at H
          have c11b0 : decide (x9_1 < (l0.length : Int)) = true := decide_eq_true c11
          clear c11
          by_cases c12 : 0 ≤ x9_1
          · rw [if_pos c12] at H
            have c12b0 : decide (0 ≤ x9_1) = true := decide_eq_true c12
            clear c12
            by_cases c13 : x9_1 < (l0.length : Int)
            · rw [if_pos c13] at H
              have c13b0 : decide (x9_1 < (l0.length : Int)) = true := decide_eq_true c13
              clear c13
              replace H := Option.bind_eq_some_iff.mp H
              obtain ⟨t1049, A140, H⟩ := H
              replace H : (some (x9_1, (t1049 == 0))) = some (r1, r2) := H
              have A14 := Aside0.mk A140
              clear A140
              simp only [Option.some.injEq, Prod.mk.injEq] at H
              obtain ⟨rfl, rfl⟩ := H
              have p1048 : 0 ≤ (x9_1 : Int) := of_decide_eq_true (by first | (with_reducible assumption) | assumption)
              have q1048 : x9_1 < (l0.length : Int) := of_decide_eq_true (by first | (with_reducible assumption) | assumption)
              obtain ⟨ad1048, e1048, hx1048_0, hx1048_1⟩ := at_T29 HR0.out x9_1 p1048 q1048
              cases e1048
              replace hx1048_0 := (HB.out.cell (World.block_lt_of_cell? w _ hx1048_0)).trans hx1048_0
              replace hx1048_1 := (HB.out.cell (World.block_lt_of_cell? w _ hx1048_1)).trans hx1048_1
              replace p1048 := eq_true p1048
              replace q1048 := eq_true q1048
              go_wp2_with (first | (go_at_call 56; (with_reducible refine (sets_has_1.calls ((rd_T29 l0 x9_1).f0) ((rd_T29 l0 x9_1).f1) a1 t1049 _ A14.out).mono ?_); rintro e w15 ⟨rfl, hb⟩; have n0_ := Aside0.mk (below_step (by repeat (first | (with_reducible first | exact HB.out | apply below_alloc | apply pw_below_drewN | apply below_drew1) | exact HB.out)) hb); clear HB; have HB := n0_; clear n0_; (try clear hb); (try clear hb2); (try clear hk); (try clear hi)))
              go_ret2
              exact ⟨by first | rfl | (simp [errW_none, errW_some] <;> rfl) | (simp [*, errW_none, errW_some] <;> rfl), by repeat (first | (with_reducible first | exact HB.out | apply below_alloc | apply pw_below_drewN | apply below_drew1) | exact HB.out)⟩
            · rw [if_neg c13] at H
              exact absurd H (by simp)
          · rw [if_neg c12] at H
            exact absurd H (by simp)
        · rw [if_neg c11] at H
          have c11b0 : decide (x9_1 < (l0.length : Int)) = false := decide_eq_false c11
          clear c11
          simp only [Option.some.injEq, Prod.mk.injEq] at H
          obtain ⟨rfl, rfl⟩ := H
          go_wp2
          go_ret2
          exact ⟨by first | rfl | (simp [errW_none, errW_some] <;> rfl) | (simp [*, errW_none, errW_some] <;> rfl), by repeat (first | (with_reducible first | exact HB.out | apply below_alloc | apply pw_below_drewN | apply below_drew1) | exact HB.out)⟩

/-! ### sets_has: function 37 -/
def sets_has.f (k : Nat) (l0 : List (S29)) (a1 : Int) : Option (Bool) := (api_Range_rune.f k l0 a1).bind fun bt1050 => (some bt1050.2)
theorem sets_has.mono : ∀ a0 a1 k, LeO (sets_has.f k a0 a1) (sets_has.f (k + 1) a0 a1) := by
  intro a0 a1 k
  unfold sets_has.f
  repeat' first
      | (with_reducible exact api_Range_rune.mono _ _ _)
      | (with_reducible exact LeO.refl _)
      | (with_reducible exact LeO.none _)
      | (with_reducible refine LeO.ite ?_ ?_)
      | (with_reducible refine LeO.bind ?_ (fun _ => ?_))
      | exact api_Range_rune.mono _ _ _
      | exact LeO.none _
      | refine LeO.ite ?_ ?_
      | refine LeO.bind ?_ (fun _ => ?_)
set_option maxHeartbeats 8000000 in
set_option maxRecDepth 100000 in
theorem sets_has.calls (k : Nat) (A0 : Option Addr) (c0 : Nat) (l0 : List (S29)) (a1 : Int) (r : Bool) (w : World) (hr0 : Kd.C k29 w A0 l0.length l0) (hc0 : l0.length ≤ c0) (h : sets_has.f k l0 a1 = some r) :
    Calls Tryd.prog 37 #[.slice A0 l0.length c0, .int .i32 a1] w fun e w' => e = .returned (.bool r) ∧ Below w.heap.size w w' := by
  have HR0 := Aside0.mk hr0
  have HC0 := Aside0.mk hc0
  clear hr0 hc0
  have HB := Aside0.mk (Below.refl w.heap.size w)
  have H : ((api_Range_rune.f k l0 a1).bind fun bt1050 => (some bt1050.2)) = some r := h
  clear h
  replace H := Option.bind_eq_some_iff.mp H
  obtain ⟨⟨t1050, t1051⟩, A30, H⟩ := H
  replace H : (some t1051) = some r := H
  have A3 := Aside0.mk A30
  clear A30
  obtain rfl := Option.some.inj H
  go_enter Tryd.func37, Tryd.ntmps37
  go_wp2_with (first | ((with_reducible refine gate_callee (f := 55) rfl ?_); refine goesL_ (some 10) rfl rfl Tryd.func55 (by kernel_rfl) rfl #[.slice A0 l0.length c0, .int .i32 a1, .func (.func 56) #[] #[]] rfl (by (try simp only [List.map_toArray, List.map_cons, List.map_nil]); first | done | rfl | (simp only [List.length_drop, List.length_take]; rfl)) ?_; (with_reducible refine (api_Range_rune.calls k _ _ l0 a1 t1050 t1051 _ ?side1 ?side2 A3.out).mono ?_); (case side1 => repeat (first | exact HR0.out | (with_reducible refine Kd.C_alloc ?_ _) | (with_reducible refine Kd.C_drewN ?_ _) | (with_reducible refine Kd.C_drew ?_))); (case side2 => exact HC0.out); rintro e w4 ⟨rfl, hb⟩; refine ⟨_, rfl, ?_⟩; have n0_ := Aside0.mk (below_step (by repeat (first | (with_reducible first | exact HB.out | apply below_alloc | apply pw_below_drewN | apply below_drew1) | exact HB.out)) hb); clear HB; have HB := n0_; clear n0_; (try clear hb); (try clear hb2); (try clear hk); (try clear hi)))
  go_ret
  exact ⟨by first | rfl | (simp [errW_none, errW_some] <;> rfl) | (simp [*, errW_none, errW_some] <;> rfl), by repeat (first | (with_reducible first | exact HB.out | apply below_alloc | apply pw_below_drewN | apply below_drew1) | exact HB.out)⟩

/-! ### sets_Has: function 14 -/
def sets_Has.f (k : Nat) (l0 : List (S29)) (a1 : Int) : Option (Bool × Int) := (sets_Check.f k l0).bind fun t1052 => (if t1052 = 0 then ((sets_has.f k l0 a1).bind fun t1053 => (some (t1053, 0))) else (some (false, t1052)))
theorem sets_Has.mono : ∀ a0 a1 k, LeO (sets_Has.f k a0 a1) (sets_Has.f (k + 1) a0 a1) := by
  intro a0 a1 k
  unfold sets_Has.f
  repeat' first
      | (with_reducible exact sets_Check.mono _ _)
      | (with_reducible exact sets_has.mono _ _ _)
      | (with_reducible exact LeO.refl _)
      | (with_reducible exact LeO.none _)
      | (with_reducible refine LeO.ite ?_ ?_)
      | (with_reducible refine LeO.bind ?_ (fun _ => ?_))
      | exact sets_Check.mono _ _
      | exact sets_has.mono _ _ _
      | exact LeO.none _
      | refine LeO.ite ?_ ?_
      | refine LeO.bind ?_ (fun _ => ?_)
set_option maxHeartbeats 8000000 in
set_option maxRecDepth 100000 in
theorem sets_Has.calls (k : Nat) (A0 : Option Addr) (c0 : Nat) (l0 : List (S29)) (a1 : Int) (r1 : Bool) (r2 : Int) (w : World) (hr0 : Kd.C k29 w A0 l0.length l0) (hc0 : l0.length ≤ c0) (hG : Glob w) (h : sets_Has.f k l0 a1 = some (r1, r2)) :
    Calls Tryd.prog 14 #[.slice A0 l0.length c0, .int .i32 a1] w fun e w' => e = .returned (.tuple #[.bool r1, .int .i64 r2]) ∧ Below w.heap.size w w' := by
  have HR0 := Aside0.mk hr0
  have HC0 := Aside0.mk hc0
  clear hr0 hc0
  have HB := Aside0.mk (Below.refl w.heap.size w)
  have H : ((sets_Check.f k l0).bind fun t1052 => (if t1052 = 0 then ((sets_has.f k l0 a1).bind fun t1053 => (some (t1053, 0))) else (some (false, t1052)))) = some (r1, r2) := h
  clear h
  replace H := Option.bind_eq_some_iff.mp H
  obtain ⟨t1052, A30, H⟩ := H
  replace H : (if t1052 = 0 then ((sets_has.f k l0 a1).bind fun t1053 => (some (t1053, 0))) else (some (false, t1052))) = some (r1, r2) := H
  have A3 := Aside0.mk A30
  clear A30
  by_cases c4 : t1052 = 0
  · rw [if_pos c4] at H
    have c4b0 : (t1052 == 0) = true := beq_iff_eq.mpr c4
    have c4b1 : (t1052 != 0) = false := bne_eq_false_iff_eq.mpr c4
    clear c4
    replace H := Option.bind_eq_some_iff.mp H
    obtain ⟨t1053, A50, H⟩ := H
    replace H : (some (t1053, 0)) = some (r1, r2) := H
    have A5 := Aside0.mk A50
    clear A50
    simp only [Option.some.injEq, Prod.mk.injEq] at H
    obtain ⟨rfl, rfl⟩ := H
    go_enter Tryd.func14, Tryd.ntmps14
    go_wp2_with (first | ((with_reducible refine gate_callee (f := 10) rfl ?_); refine goesL_ (some 8) rfl rfl Tryd.func10 (by kernel_rfl) rfl #[.slice A0 l0.length c0] rfl (by (try simp only [List.map_toArray, List.map_cons, List.map_nil]); first | done | rfl | (simp only [List.length_drop, List.length_take]; rfl)) ?_; (with_reducible refine (sets_Check.calls k _ _ l0 t1052 _ ?side1 ?side2 ?side3 A3.out).mono ?_); (case side1 => repeat (first | exact HR0.out | (with_reducible refine Kd.C_alloc ?_ _) | (with_reducible refine Kd.C_drewN ?_ _) | (with_reducible refine Kd.C_drew ?_))); (case side2 => exact HC0.out); (case side3 => first | exact hG | exact Glob.of_below hG (by repeat (first | (with_reducible first | exact HB.out | apply below_alloc | apply pw_below_drewN | apply below_drew1) | exact HB.out)) | exact Glob.of_below hG HB.out | exact Glob.drewN hG _ | exact Glob.drew hG | (with_reducible repeat (first | exact hG | apply Glob.drewN | apply Glob.drew | apply Glob.alloc))); rintro e w6 ⟨rfl, hb⟩; refine ⟨_, rfl, ?_⟩; have n0_ := Aside0.mk (below_step (by repeat (first | (with_reducible first | exact HB.out | apply below_alloc | apply pw_below_drewN | apply below_drew1) | exact HB.out)) hb); clear HB; have HB := n0_; clear n0_; (try clear hb); (try clear hb2); (try clear hk); (try clear hi)) | ((with_reducible refine gate_callee (f := 37) rfl ?_); refine goesL_ (some 14) rfl rfl Tryd.func37 (by kernel_rfl) rfl #[.slice A0 l0.length c0, .int .i32 a1] rfl (by (try simp only [List.map_toArray, List.map_cons, List.map_nil]); first | done | rfl | (simp only [List.length_drop, List.length_take]; rfl)) ?_; (with_reducible refine (sets_has.calls k _ _ l0 a1 t1053 _ ?side1 ?side2 A5.out).mono ?_); (case side1 => repeat (first | exact (Kd.C_below HR0.out HB.out) | (with_reducible refine Kd.C_alloc ?_ _) | (with_reducible refine Kd.C_drewN ?_ _) | (with_reducible refine Kd.C_drew ?_))); (case side2 => exact HC0.out); rintro e w7 ⟨rfl, hb⟩; refine ⟨_, rfl, ?_⟩; have n0_ := Aside0.mk (below_step (by repeat (first | (with_reducible first | exact HB.out | apply below_alloc | apply pw_below_drewN | apply below_drew1) | exact HB.out)) hb); clear HB; have HB := n0_; clear n0_; (try clear hb); (try clear hb2); (try clear hk); (try clear hi)))
    go_ret2
    exact ⟨by first | rfl | (simp [errW_none, errW_some] <;> rfl) | (simp [*, errW_none, errW_some] <;> rfl), by repeat (first | (with_reducible first | exact HB.out | apply below_alloc | apply pw_below_drewN | apply below_drew1) | exact HB.out)⟩
  · rw [if_neg c4] at H
    have c4b0 : (t1052 == 0) = false := beq_eq_false_iff_ne.mpr c4
    have c4b1 : (t1052 != 0) = true := bne_iff_ne.mpr c4
    simp only [Option.some.injEq, Prod.mk.injEq] at H
    obtain ⟨rfl, rfl⟩ := H
    go_enter Tryd.func14, Tryd.ntmps14
    go_wp2_with (first | ((with_reducible refine gate_callee (f := 10) rfl ?_); refine goesL_ (some 8) rfl rfl Tryd.func10 (by kernel_rfl) rfl #[.slice A0 l0.length c0] rfl (by (try simp only [List.map_toArray, List.map_cons, List.map_nil]); first | done | rfl | (simp only [List.length_drop, List.length_take]; rfl)) ?_; (with_reducible refine (sets_Check.calls k _ _ l0 t1052 _ ?side1 ?side2 ?side3 A3.out).mono ?_); (case side1 => repeat (first | exact HR0.out | (with_reducible refine Kd.C_alloc ?_ _) | (with_reducible refine Kd.C_drewN ?_ _) | (with_reducible refine Kd.C_drew ?_))); (case side2 => exact HC0.out); (case side3 => first | exact hG | exact Glob.of_below hG (by repeat (first | (with_reducible first | exact HB.out | apply below_alloc | apply pw_below_drewN | apply below_drew1) | exact HB.out)) | exact Glob.of_below hG HB.out | exact Glob.drewN hG _ | exact Glob.drew hG | (with_reducible repeat (first | exact hG | apply Glob.drewN | apply Glob.drew | apply Glob.alloc))); rintro e w8 ⟨rfl, hb⟩; refine ⟨_, rfl, ?_⟩; have n0_ := Aside0.mk (below_step (by repeat (first | (with_reducible first | exact HB.out | apply below_alloc | apply pw_below_drewN | apply below_drew1) | exact HB.out)) hb); clear HB; have HB := n0_; clear n0_; (try clear hb); (try clear hb2); (try clear hk); (try clear hi)))
    go_ret2
    exact ⟨by first | rfl | (simp [errW_none, errW_some] <;> rfl) | (simp [*, errW_none, errW_some] <;> rfl), by repeat (first | (with_reducible first | exact HB.out | apply below_alloc | apply pw_below_drewN | apply below_drew1) | exact HB.out)⟩

end Go.Proofs.YtoggmegpodmfnaaDoor.PU
