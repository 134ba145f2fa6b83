/- Contracts of functions that the law reaches: what each call answers, as a plain function of what it reads; on condition that the function answers there. Printed by this session's own tool. -/
import Derived.Test.YtoggmegpodmfnaaDoorPYx0
import Derived.Test.YtoggmegpodmfnaaDoorPYx2
import Derived.Test.YtoggmegpodmfnaaDoorPYx3
namespace Go.Proofs.YtoggmegpodmfnaaDoor.PY
open Go.RowKit Go.Proofs.YtoggmegpodmfnaaDoor.B Go.Proofs.YtoggmegpodmfnaaDoorW.PrintWords Go.Proofs.YtoggmegpodmfnaaDoorW.PrintLast Go.Proofs.YtoggmegpodmfnaaDoorW.PrintMore
attribute [local go_sem] max2_int min2_int max_two min_two max_three min_three max_four min_four   -- for this text's walks alone
set_option linter.unusedVariables false
set_option linter.unusedSimpArgs false

/-! ### thistlelaw02_kind: function 36 -/
def thistlelaw02_kind.f (a0 : Int) : Option (Int) := if a0 < 55296 then (some 1) else (if a0 ≤ 1114111 then (some 2) else (some 3))
set_option maxHeartbeats 8000000 in
set_option maxRecDepth 100000 in
theorem thistlelaw02_kind.calls (a0 : Int) (r : Int) (w : World) (h : thistlelaw02_kind.f a0 = some r) :
  Calls Tryd.prog 36 #[.int .i64 a0] w fun e w' => e = .returned (.int .i64 r) ∧ Drawn0 w w' := by
 have H : (if a0 < 55296 then (some 1) else (if a0 ≤ 1114111 then (some 2) else (some 3))) = some r := h
 clear h
 by_cases c2 : a0 < 55296
 ·
  rw [if_pos c2] at H
  have c2b0 : decide (a0 < 55296) = true := decide_eq_true c2
  clear c2
  obtain rfl := Option.some.inj H
  go_enter Tryd.func36, Tryd.ntmps36
  go_wp2
  go_ret
  exact ⟨by first | rfl | (simp; done) | (simp [*]; done), by repeat (first | exact Drawn0.refl _ | apply Drawn0.step)⟩
 ·
  rw [if_neg c2] at H
  have c2b0 : decide (a0 < 55296) = false := decide_eq_false c2
  clear c2
  by_cases c3 : a0 ≤ 1114111
  ·
   rw [if_pos c3] at H
   have c3b0 : decide (a0 ≤ 1114111) = true := decide_eq_true c3
   clear c3
   obtain rfl := Option.some.inj H
   go_enter Tryd.func36, Tryd.ntmps36
   go_wp2
   go_ret
   exact ⟨by first | rfl | (simp; done) | (simp [*]; done), by repeat (first | exact Drawn0.refl _ | apply Drawn0.step)⟩
  ·
   rw [if_neg c3] at H
   have c3b0 : decide (a0 ≤ 1114111) = false := decide_eq_false c3
   clear c3
   obtain rfl := Option.some.inj H
   go_enter Tryd.func36, Tryd.ntmps36
   go_wp2
   go_ret
   exact ⟨by first | rfl | (simp; done) | (simp [*]; done), by repeat (first | exact Drawn0.refl _ | apply Drawn0.step)⟩

/-! ### thistlelaw02_sound: function 11 -/
mutual
def thistlelaw02_sound.l0 : Nat → List (S29) → Int → Option (Bool)
 | 0, _, _ => none
 | k + 1, x0, x3 => if x3 < (x0.length : Int) then (if 0 ≤ x3 then ((thistlelaw02_unit.f (wrap64 ((rd_T29 x0 x3).f0))).bind fun t130 => (if t130 = true then ((thistlelaw02_unit.f (wrap64 ((rd_T29 x0 x3).f1))).bind fun t131 => (if t131 = true then (if (wrap64 ((rd_T29 x0 x3).f0)) > (wrap64 ((rd_T29 x0 x3).f1)) then (thistlelaw02_sound.j1 k x0 x3 (wrap64 ((rd_T29 x0 x3).f0)) true) else ((thistlelaw02_kind.f (wrap64 ((rd_T29 x0 x3).f0))).bind fun t132 => ((thistlelaw02_kind.f (wrap64 ((rd_T29 x0 x3).f1))).bind fun t133 => (thistlelaw02_sound.j1 k x0 x3 (wrap64 ((rd_T29 x0 x3).f0)) (t132 != t133))))) else (thistlelaw02_sound.j1 k x0 x3 (wrap64 ((rd_T29 x0 x3).f0)) true))) else (thistlelaw02_sound.j1 k x0 x3 (wrap64 ((rd_T29 x0 x3).f0)) true))) else (none)) else (some true)
def thistlelaw02_sound.j1 : Nat → List (S29) → Int → Int → Bool → Option (Bool)
 | 0, _, _, _, _ => none
 | k + 1, x0, x3, x4, x43 => if x43 = true then (some false) else (if x3 > 0 then (if 0 ≤ (wrap64 (x3 - 1)) then (if (wrap64 (x3 - 1)) < (x0.length : Int) then (if x4 ≤ (wrap64 ((wrap64 ((rd_T29 x0 (wrap64 (x3 - 1))).f1)) + 1)) then (some false) else (thistlelaw02_sound.l0 k x0 (wrap64 (x3 + 1)))) else (none)) else (none)) else (thistlelaw02_sound.l0 k x0 (wrap64 (x3 + 1))))
end
def thistlelaw02_sound.f (k : Nat) (l0 : List (S29)) : Option (Bool) := thistlelaw02_sound.l0 k l0 0
theorem thistlelaw02_sound.mono_l : ∀ k, (∀ y0 y1, LeO (thistlelaw02_sound.l0 k y0 y1) (thistlelaw02_sound.l0 (k + 1) y0 y1)) ∧ (∀ y0 y1 y2 y3, LeO (thistlelaw02_sound.j1 k y0 y1 y2 y3) (thistlelaw02_sound.j1 (k + 1) y0 y1 y2 y3))
 | 0 => ⟨fun _ _ r h => by simp [thistlelaw02_sound.l0] at h, fun _ _ _ _ r h => by simp [thistlelaw02_sound.j1] at h⟩
 | k + 1 => by
  obtain ⟨ih0, ih1⟩ := thistlelaw02_sound.mono_l k
  refine ⟨?_, ?_⟩
  ·
   intro y0 y1
   unfold thistlelaw02_sound.l0
   repeat' first
   | (with_reducible exact ih0 _ _)
   | (with_reducible exact ih1 _ _ _ _)
   | (with_reducible exact LeO.refl _)
   | (with_reducible exact LeO.none _)
   | (with_reducible refine LeO.ite ?_ ?_)
   | (with_reducible refine LeO.bind ?_ (fun _ => ?_))
   | exact ih0 _ _
   | exact ih1 _ _ _ _
   | exact LeO.none _
   | refine LeO.ite ?_ ?_
   | refine LeO.bind ?_ (fun _ => ?_)
  ·
   intro y0 y1 y2 y3
   unfold thistlelaw02_sound.j1
   repeat' first
   | (with_reducible exact ih0 _ _)
   | (with_reducible exact ih1 _ _ _ _)
   | (with_reducible exact LeO.refl _)
   | (with_reducible exact LeO.none _)
   | (with_reducible refine LeO.ite ?_ ?_)
   | (with_reducible refine LeO.bind ?_ (fun _ => ?_))
   | exact ih0 _ _
   | exact ih1 _ _ _ _
   | exact LeO.none _
   | refine LeO.ite ?_ ?_
   | refine LeO.bind ?_ (fun _ => ?_)
theorem thistlelaw02_sound.mono : ∀ a0 k, LeO (thistlelaw02_sound.f k a0) (thistlelaw02_sound.f (k + 1) a0) := by
 intro a0 k
 obtain ⟨ih0, ih1⟩ := thistlelaw02_sound.mono_l k
 unfold thistlelaw02_sound.f
 repeat' first
   | (with_reducible exact ih0 _ _)
   | (with_reducible exact ih1 _ _ _ _)
   | (with_reducible exact LeO.refl _)
   | (with_reducible exact LeO.none _)
   | (with_reducible refine LeO.ite ?_ ?_)
   | (with_reducible refine LeO.bind ?_ (fun _ => ?_))
   | exact ih0 _ _
   | exact ih1 _ _ _ _
   | exact LeO.none _
   | refine LeO.ite ?_ ?_
   | refine LeO.bind ?_ (fun _ => ?_)
set_option maxHeartbeats 8000000 in
set_option maxRecDepth 100000 in
theorem thistlelaw02_sound.calls (k : Nat) (A0 : Option Addr) (c0 : Nat) (l0 : List (S29)) (r : Bool) (w : World) (hr0 : Kd.C k29 w A0 l0.length l0) (hc0 : l0.length ≤ c0) (h : thistlelaw02_sound.f k l0 = some r) :
  Calls Tryd.prog 11 #[.slice A0 l0.length c0] w fun e w' => e = .returned (.bool r) ∧ Drawn0 w w' := by
 have HR0 := Aside0.mk hr0
 have HC0 := Aside0.mk hc0
 clear hr0 hc0
 have H : (thistlelaw02_sound.l0 k l0 0) = some r := h
 clear h
 have H' := Aside0.mk H
 clear H
 go_enter Tryd.func11, Tryd.ntmps11
 go_wp2
 go_loopg [3] k (fun kq v3 w' => ∃ (x3_1 : Int), v3 = .int .i64 x3_1 ∧ Aside0 (thistlelaw02_sound.l0 kq l0 x3_1 = some r) ∧ Aside0 (kq ≤ k) ∧ Drawn0 w w')
 case atStart => exact ⟨(0), (by first | rfl | (simp; done) | (simp [*]; done)), H', ⟨Nat.le_refl _⟩, by repeat (first | exact Drawn0.refl _ | apply Drawn0.step)⟩
 case round =>
  clear H'
  try clear c1
  obtain ⟨x3_1, rfl, HA, HK1, ⟨m1, rfl⟩⟩ := hrel
  cases gk with
  | zero => exact absurd HA.out (by simp [thistlelaw02_sound.l0])
  | succ k1 =>
   have H := HA.out
   clear HA
   simp only [thistlelaw02_sound.l0] at H
   by_cases c2 : x3_1 < (l0.length : Int)
   ·
    rw [if_pos c2] at H
    have c2b0 : decide (x3_1 < (l0.length : Int)) = true := decide_eq_true c2
    clear c2
    by_cases c3 : 0 ≤ x3_1
    ·
     rw [if_pos c3] at H
     have c3b0 : decide (0 ≤ x3_1) = true := decide_eq_true c3
     clear c3
     have HC4 := Aside0.mk H
     clear H
     have p128 : 0 ≤ (x3_1 : Int) := of_decide_eq_true (by first | (with_reducible assumption) | assumption)
     have q128 : x3_1 < (l0.length : Int) := of_decide_eq_true (by first | (with_reducible assumption) | assumption)
     obtain ⟨ad128, e128, hx128_0, hx128_1⟩ := at_T29 HR0.out x3_1 p128 q128
     cases e128
     replace p128 := eq_true p128
     replace q128 := eq_true q128
     have p129 : 0 ≤ (x3_1 : Int) := of_decide_eq_true (by first | (with_reducible assumption) | assumption)
     have q129 : x3_1 < (l0.length : Int) := of_decide_eq_true (by first | (with_reducible assumption) | assumption)
     obtain ⟨ad129, e129, hx129_0, hx129_1⟩ := at_T29 HR0.out x3_1 p129 q129
     obtain rfl : ad128 = ad129 := (by injection e129)
     replace p129 := eq_true p129
     replace q129 := eq_true q129
     go_upto_region 6 with (fail)
     go_cut [43] (fun v43 wc => ∃ (kq : Nat) (x43_3 : Bool), v43 = .bool x43_3 ∧ Aside0 (thistlelaw02_sound.j1 kq l0 x3_1 (wrap64 ((rd_T29 l0 x3_1).f0)) x43_3 = some r) ∧ Aside0 (kq ≤ k1) ∧ Drawn0 w wc)
     case first =>
      have H := HC4.out
      clear HC4
      replace H := Option.bind_eq_some_iff.mp H
      obtain ⟨t130, A50, H⟩ := H
      replace H : (if t130 = true then ((thistlelaw02_unit.f (wrap64 ((rd_T29 l0 x3_1).f1))).bind fun t131 => (if t131 = true then (if (wrap64 ((rd_T29 l0 x3_1).f0)) > (wrap64 ((rd_T29 l0 x3_1).f1)) then (thistlelaw02_sound.j1 k1 l0 x3_1 (wrap64 ((rd_T29 l0 x3_1).f0)) true) else ((thistlelaw02_kind.f (wrap64 ((rd_T29 l0 x3_1).f0))).bind fun t132 => ((thistlelaw02_kind.f (wrap64 ((rd_T29 l0 x3_1).f1))).bind fun t133 => (thistlelaw02_sound.j1 k1 l0 x3_1 (wrap64 ((rd_T29 l0 x3_1).f0)) (t132 != t133))))) else (thistlelaw02_sound.j1 k1 l0 x3_1 (wrap64 ((rd_T29 l0 x3_1).f0)) true))) else (thistlelaw02_sound.j1 k1 l0 x3_1 (wrap64 ((rd_T29 l0 x3_1).f0)) true)) = some r := H
      have A5 := Aside0.mk A50
      clear A50
      by_cases c6 : t130 = true
      ·
       subst c6
       have H1 : ((thistlelaw02_unit.f (wrap64 ((rd_T29 l0 x3_1).f1))).bind fun t131 => (if t131 = true then (if (wrap64 ((rd_T29 l0 x3_1).f0)) > (wrap64 ((rd_T29 l0 x3_1).f1)) then (thistlelaw02_sound.j1 k1 l0 x3_1 (wrap64 ((rd_T29 l0 x3_1).f0)) true) else ((thistlelaw02_kind.f (wrap64 ((rd_T29 l0 x3_1).f0))).bind fun t132 => ((thistlelaw02_kind.f (wrap64 ((rd_T29 l0 x3_1).f1))).bind fun t133 => (thistlelaw02_sound.j1 k1 l0 x3_1 (wrap64 ((rd_T29 l0 x3_1).f0)) (t132 != t133))))) else (thistlelaw02_sound.j1 k1 l0 x3_1 (wrap64 ((rd_T29 l0 x3_1).f0)) true))) = some r := by rw [if_pos rfl] at H; exact H
       clear H
       have H := H1
       clear H1
       replace H := Option.bind_eq_some_iff.mp H
       obtain ⟨t131, A70, H⟩ := H
       replace H : (if t131 = true then (if (wrap64 ((rd_T29 l0 x3_1).f0)) > (wrap64 ((rd_T29 l0 x3_1).f1)) then (thistlelaw02_sound.j1 k1 l0 x3_1 (wrap64 ((rd_T29 l0 x3_1).f0)) true) else ((thistlelaw02_kind.f (wrap64 ((rd_T29 l0 x3_1).f0))).bind fun t132 => ((thistlelaw02_kind.f (wrap64 ((rd_T29 l0 x3_1).f1))).bind fun t133 => (thistlelaw02_sound.j1 k1 l0 x3_1 (wrap64 ((rd_T29 l0 x3_1).f0)) (t132 != t133))))) else (thistlelaw02_sound.j1 k1 l0 x3_1 (wrap64 ((rd_T29 l0 x3_1).f0)) true)) = some r := H
       have A7 := Aside0.mk A70
       clear A70
       by_cases c8 : t131 = true
       ·
        subst c8
        have H1 : (if (wrap64 ((rd_T29 l0 x3_1).f0)) > (wrap64 ((rd_T29 l0 x3_1).f1)) then (thistlelaw02_sound.j1 k1 l0 x3_1 (wrap64 ((rd_T29 l0 x3_1).f0)) true) else ((thistlelaw02_kind.f (wrap64 ((rd_T29 l0 x3_1).f0))).bind fun t132 => ((thistlelaw02_kind.f (wrap64 ((rd_T29 l0 x3_1).f1))).bind fun t133 => (thistlelaw02_sound.j1 k1 l0 x3_1 (wrap64 ((rd_T29 l0 x3_1).f0)) (t132 != t133))))) = some r := by rw [if_pos rfl] at H; exact H
        clear H
        have H := H1
        clear H1
        by_cases c9 : (wrap64 ((rd_T29 l0 x3_1).f0)) > (wrap64 ((rd_T29 l0 x3_1).f1))
        ·
         rw [if_pos c9] at H
         have c9b0 : decide ((wrap64 ((rd_T29 l0 x3_1).f1)) < (wrap64 ((rd_T29 l0 x3_1).f0))) = true := decide_eq_true c9
         clear c9
         (first | rw [c9b0] | (simp only [i64_w, i32_w]; rw [c9b0]) | skip)
         have H' := Aside0.mk H
         clear H
         have tok1_ : True := trivial
         have tok2_ : True := trivial
         go_wp2_with (first | ((with_reducible refine gate_callee (f := 15) rfl ?_); clear tok1_; refine goesL_ (some 25) rfl rfl Tryd.func15 (by kernel_rfl) rfl #[.int .i64 (wrap64 ((rd_T29 l0 x3_1).f0))] rfl (by (try simp only [List.map_toArray, List.map_cons, List.map_nil]); first | done | rfl | (simp only [List.length_drop, List.length_take]; rfl)) ?_; (with_reducible refine (thistlelaw02_unit.calls (wrap64 ((rd_T29 l0 x3_1).f0)) true _ A5.out).mono ?_); rintro e w' ⟨rfl, ⟨nd, rfl⟩⟩; refine ⟨_, rfl, ?_⟩) | (go_at_call 15; clear tok2_; (with_reducible refine (thistlelaw02_unit.calls (wrap64 ((rd_T29 l0 x3_1).f1)) true _ A7.out).mono ?_); rintro e w' ⟨rfl, ⟨nd, rfl⟩⟩))
         go_meet
         case rel => exact ⟨_, (true), (by first | rfl | (simp; done) | (simp [*]; done)), H', ⟨by have := HK1.out; first | omega | exact Nat.le_refl _⟩, by repeat (first | exact Drawn0.refl _ | apply Drawn0.step)⟩
        ·
         rw [if_neg c9] at H
         have c9b0 : decide ((wrap64 ((rd_T29 l0 x3_1).f1)) < (wrap64 ((rd_T29 l0 x3_1).f0))) = false := decide_eq_false c9
         clear c9
         (first | rw [c9b0] | (simp only [i64_w, i32_w]; rw [c9b0]) | skip)
         replace H := Option.bind_eq_some_iff.mp H
         obtain ⟨t132, A100, H⟩ := H
         replace H : ((thistlelaw02_kind.f (wrap64 ((rd_T29 l0 x3_1).f1))).bind fun t133 => (thistlelaw02_sound.j1 k1 l0 x3_1 (wrap64 ((rd_T29 l0 x3_1).f0)) (t132 != t133))) = some r := H
         have A10 := Aside0.mk A100
         clear A100
         replace H := Option.bind_eq_some_iff.mp H
         obtain ⟨t133, A110, H⟩ := H
         replace H : (thistlelaw02_sound.j1 k1 l0 x3_1 (wrap64 ((rd_T29 l0 x3_1).f0)) (t132 != t133)) = some r := H
         have A11 := Aside0.mk A110
         clear A110
         have H' := Aside0.mk H
         clear H
         have tok3_ : True := trivial
         have tok4_ : True := trivial
         have tok5_ : True := trivial
         have tok6_ : True := trivial
         go_wp2_with (first | ((with_reducible refine gate_callee (f := 15) rfl ?_); clear tok3_; refine goesL_ (some 25) rfl rfl Tryd.func15 (by kernel_rfl) rfl #[.int .i64 (wrap64 ((rd_T29 l0 x3_1).f0))] rfl (by (try simp only [List.map_toArray, List.map_cons, List.map_nil]); first | done | rfl | (simp only [List.length_drop, List.length_take]; rfl)) ?_; (with_reducible refine (thistlelaw02_unit.calls (wrap64 ((rd_T29 l0 x3_1).f0)) true _ A5.out).mono ?_); rintro e w' ⟨rfl, ⟨nd, rfl⟩⟩; refine ⟨_, rfl, ?_⟩) | (go_at_call 15; clear tok4_; (with_reducible refine (thistlelaw02_unit.calls (wrap64 ((rd_T29 l0 x3_1).f1)) true _ A7.out).mono ?_); rintro e w' ⟨rfl, ⟨nd, rfl⟩⟩) | (go_at_call 36; clear tok5_; (with_reducible refine (thistlelaw02_kind.calls (wrap64 ((rd_T29 l0 x3_1).f0)) t132 _ A10.out).mono ?_); rintro e w' ⟨rfl, ⟨nd, rfl⟩⟩) | (go_at_call 36; clear tok6_; (with_reducible refine (thistlelaw02_kind.calls (wrap64 ((rd_T29 l0 x3_1).f1)) t133 _ A11.out).mono ?_); rintro e w' ⟨rfl, ⟨nd, rfl⟩⟩))
         go_meet
         case rel => exact ⟨_, ((t132 != t133)), (by first | rfl | (simp; done) | (simp [*]; done)), H', ⟨by have := HK1.out; first | omega | exact Nat.le_refl _⟩, by repeat (first | exact Drawn0.refl _ | apply Drawn0.step)⟩
       ·
        replace c8 := Bool.eq_false_iff.mpr c8
        subst c8
        have H1 : (thistlelaw02_sound.j1 k1 l0 x3_1 (wrap64 ((rd_T29 l0 x3_1).f0)) true) = some r := by rw [if_neg (show ¬ (false = true) by decide)] at H; exact H
        clear H
        have H := H1
        clear H1
        have H' := Aside0.mk H
        clear H
        have tok7_ : True := trivial
        have tok8_ : True := trivial
        go_wp2_with (first | ((with_reducible refine gate_callee (f := 15) rfl ?_); clear tok7_; refine goesL_ (some 25) rfl rfl Tryd.func15 (by kernel_rfl) rfl #[.int .i64 (wrap64 ((rd_T29 l0 x3_1).f0))] rfl (by (try simp only [List.map_toArray, List.map_cons, List.map_nil]); first | done | rfl | (simp only [List.length_drop, List.length_take]; rfl)) ?_; (with_reducible refine (thistlelaw02_unit.calls (wrap64 ((rd_T29 l0 x3_1).f0)) true _ A5.out).mono ?_); rintro e w' ⟨rfl, ⟨nd, rfl⟩⟩; refine ⟨_, rfl, ?_⟩) | (go_at_call 15; clear tok8_; (with_reducible refine (thistlelaw02_unit.calls (wrap64 ((rd_T29 l0 x3_1).f1)) false _ A7.out).mono ?_); rintro e w' ⟨rfl, ⟨nd, rfl⟩⟩))
        go_meet
        case rel => exact ⟨_, (true), (by first | rfl | (simp; done) | (simp [*]; done)), H', ⟨by have := HK1.out; first | omega | exact Nat.le_refl _⟩, by repeat (first | exact Drawn0.refl _ | apply Drawn0.step)⟩
      ·
       replace c6 := Bool.eq_false_iff.mpr c6
       subst c6
       have H1 : (thistlelaw02_sound.j1 k1 l0 x3_1 (wrap64 ((rd_T29 l0 x3_1).f0)) true) = some r := by rw [if_neg (show ¬ (false = true) by decide)] at H; exact H
       clear H
       have H := H1
       clear H1
       have H' := Aside0.mk H
       clear H
       go_wp2_with (first | ((with_reducible refine gate_callee (f := 15) rfl ?_); refine goesL_ (some 25) rfl rfl Tryd.func15 (by kernel_rfl) rfl #[.int .i64 (wrap64 ((rd_T29 l0 x3_1).f0))] rfl (by (try simp only [List.map_toArray, List.map_cons, List.map_nil]); first | done | rfl | (simp only [List.length_drop, List.length_take]; rfl)) ?_; (with_reducible refine (thistlelaw02_unit.calls (wrap64 ((rd_T29 l0 x3_1).f0)) false _ A5.out).mono ?_); rintro e w' ⟨rfl, ⟨nd, rfl⟩⟩; refine ⟨_, rfl, ?_⟩))
       go_meet
       case rel => exact ⟨_, (true), (by first | rfl | (simp; done) | (simp [*]; done)), H', ⟨by have := HK1.out; first | omega | exact Nat.le_refl _⟩, by repeat (first | exact Drawn0.refl _ | apply Drawn0.step)⟩
     case rest =>
      clear HC4
      try clear c1
      try clear p1
      try clear q1
      try clear hx1
      try clear c2
      try clear c2b0
      try clear p2
      try clear c3
      try clear c3b0
      try clear c6
      try clear p6
      try clear c8
      try clear c9
      try clear c9b0
      try clear c11
      try clear hx128_0
      try clear hx128_1
      try clear hx129_0
      try clear hx129_1
      try clear p128
      try clear p129
      try clear q128
      try clear q129
      obtain ⟨kq, x43_3, rfl, HA, HJ3, ⟨mc3, rfl⟩⟩ := hcut
      cases kq with
      | zero => exact absurd HA.out (by simp [thistlelaw02_sound.j1])
      | succ kj3 =>
       have H := HA.out
       clear HA
       simp only [thistlelaw02_sound.j1] at H
       by_cases c12 : x43_3 = true
       ·
        subst c12
        have H1 : (some false) = some r := by rw [if_pos rfl] at H; exact H
        clear H
        have H := H1
        clear H1
        obtain rfl := Option.some.inj H
        go_wp2
        go_ret
        exact ⟨by first | rfl | (simp; done) | (simp [*]; done), by repeat (first | exact Drawn0.refl _ | apply Drawn0.step)⟩
       ·
        replace c12 := Bool.eq_false_iff.mpr c12
        subst c12
        have H1 : (if x3_1 > 0 then (if 0 ≤ (wrap64 (x3_1 - 1)) then (if (wrap64 (x3_1 - 1)) < (l0.length : Int) then (if (wrap64 ((rd_T29 l0 x3_1).f0)) ≤ (wrap64 ((wrap64 ((rd_T29 l0 (wrap64 (x3_1 - 1))).f1)) + 1)) then (some false) else (thistlelaw02_sound.l0 kj3 l0 (wrap64 (x3_1 + 1)))) else (none)) else (none)) else (thistlelaw02_sound.l0 kj3 l0 (wrap64 (x3_1 + 1)))) = some r := by rw [if_neg (show ¬ (false = true) by decide)] at H; exact H
        clear H
        have H := H1
        clear H1
        by_cases c13 : x3_1 > 0
        ·
         rw [if_pos c13] at H
         have c13b0 : decide (0 < x3_1) = true := decide_eq_true c13
         clear c13
         obtain ⟨ji14, hji14⟩ : ∃ j_ : Int, (wrap64 (x3_1 - 1)) = j_ := ⟨_, rfl⟩
         replace H : (if 0 ≤ (ji14) then (if (ji14) < (l0.length : Int) then (if (wrap64 ((rd_T29 l0 x3_1).f0)) ≤ (wrap64 ((wrap64 ((rd_T29 l0 (ji14)).f1)) + 1)) then (some false) else (thistlelaw02_sound.l0 kj3 l0 (wrap64 (x3_1 + 1)))) else (none)) else (none)) = some r := by first | (rw [hji14] at H; exact H) | (simp only [hji14] at H ⊢; exact H)
         have hji14w : (IntKind.i64.wrap (x3_1 - 1)) = ji14 := (i64_w _).trans hji14
         by_cases c15 : 0 ≤ (ji14)
         ·
          rw [if_pos c15] at H
          have c15b0 : decide (0 ≤ (ji14)) = true := decide_eq_true c15
          clear c15
          by_cases c16 : (ji14) < (l0.length : Int)
          ·
           rw [if_pos c16] at H
           have c16b0 : decide ((ji14) < (l0.length : Int)) = true := decide_eq_true c16
           clear c16
           by_cases c17 : (wrap64 ((rd_T29 l0 x3_1).f0)) ≤ (wrap64 ((wrap64 ((rd_T29 l0 (ji14)).f1)) + 1))
           ·
            rw [if_pos c17] at H
            have c17b0 : decide ((wrap64 ((rd_T29 l0 x3_1).f0)) ≤ (wrap64 ((wrap64 ((rd_T29 l0 (ji14)).f1)) + 1))) = true := decide_eq_true c17
            clear c17
            obtain rfl := Option.some.inj H
            have p134 : 0 ≤ ((ji14) : Int) := of_decide_eq_true (by first | (with_reducible assumption) | assumption)
            have q134 : (ji14) < (l0.length : Int) := of_decide_eq_true (by first | (with_reducible assumption) | assumption)
            obtain ⟨ad134, e134, hx134_0, hx134_1⟩ := at_T29 HR0.out (ji14) p134 q134
            obtain rfl : ad128 = ad134 := (by injection e134)
            replace p134 := eq_true p134
            replace q134 := eq_true q134
            go_wp2
            go_ret
            exact ⟨by first | rfl | (simp; done) | (simp only [← hji14] <;> (first | rfl | simp)) | (simp [*]; done), by repeat (first | exact Drawn0.refl _ | apply Drawn0.step)⟩
           ·
            rw [if_neg c17] at H
            have c17b0 : decide ((wrap64 ((rd_T29 l0 x3_1).f0)) ≤ (wrap64 ((wrap64 ((rd_T29 l0 (ji14)).f1)) + 1))) = false := decide_eq_false c17
            clear c17
            have H' := Aside0.mk H
            clear H
            have p134 : 0 ≤ ((ji14) : Int) := of_decide_eq_true (by first | (with_reducible assumption) | assumption)
            have q134 : (ji14) < (l0.length : Int) := of_decide_eq_true (by first | (with_reducible assumption) | assumption)
            obtain ⟨ad134, e134, hx134_0, hx134_1⟩ := at_T29 HR0.out (ji14) p134 q134
            obtain rfl : ad128 = ad134 := (by injection e134)
            replace p134 := eq_true p134
            replace q134 := eq_true q134
            go_wp2
            go_roundg kj3
            case measure => have := HK1.out; have := HJ3.out; omega
            case rel => exact ⟨(wrap64 (x3_1 + 1)), (by first | rfl | (simp; done) | (simp [*]; done)), H', ⟨by have := HK1.out; have := HJ3.out; omega⟩, by repeat (first | exact Drawn0.refl _ | apply Drawn0.step)⟩
          ·
           rw [if_neg c16] at H
           exact absurd H (by simp)
         ·
          rw [if_neg c15] at H
          exact absurd H (by simp)
        ·
         rw [if_neg c13] at H
         have c13b0 : decide (0 < x3_1) = false := decide_eq_false c13
         clear c13
         have H' := Aside0.mk H
         clear H
         go_wp2
         go_roundg kj3
         case measure => have := HK1.out; have := HJ3.out; omega
         case rel => exact ⟨(wrap64 (x3_1 + 1)), (by first | rfl | (simp; done) | (simp [*]; done)), H', ⟨by have := HK1.out; have := HJ3.out; omega⟩, by repeat (first | exact Drawn0.refl _ | apply Drawn0.step)⟩
    ·
     rw [if_neg c3] at H
     exact absurd H (by simp)
   ·
    rw [if_neg c2] at H
    have c2b0 : decide (x3_1 < (l0.length : Int)) = false := decide_eq_false c2
    clear c2
    obtain rfl := Option.some.inj H
    go_wp2
    go_ret
    exact ⟨by first | rfl | (simp; done) | (simp [*]; done), by repeat (first | exact Drawn0.refl _ | apply Drawn0.step)⟩

/-! ### api_Range_rune: function 55 -/
def api_Range_rune.l0 : Nat → List (S29) → Int → Int → Int → Int → Option (Int × Bool)
 | 0, _, _, _, _, _ => none
 | k + 1, x0, x1, x8, x9, x10 => if x9 < x10 then (if 0 ≤ (wrap64 ((IntKind.u64.wrap (wrap64 (x9 + x10))) / 2)) then (if (wrap64 ((IntKind.u64.wrap (wrap64 (x9 + x10))) / 2)) < (x0.length : Int) then ((sets_has_1.f ((rd_T29 x0 (wrap64 ((IntKind.u64.wrap (wrap64 (x9 + x10))) / 2))).f0) ((rd_T29 x0 (wrap64 ((IntKind.u64.wrap (wrap64 (x9 + x10))) / 2))).f1) x1).bind fun t136 => (if t136 < 0 then (api_Range_rune.l0 k x0 x1 x8 (wrap64 ((wrap64 ((IntKind.u64.wrap (wrap64 (x9 + x10))) / 2)) + 1)) x10) else (api_Range_rune.l0 k x0 x1 x8 x9 (wrap64 ((IntKind.u64.wrap (wrap64 (x9 + x10))) / 2))))) else (none)) else (none)) else (if x9 < x8 then (if 0 ≤ x9 then (if x9 < (x0.length : Int) then ((sets_has_1.f ((rd_T29 x0 x9).f0) ((rd_T29 x0 x9).f1) x1).bind fun t138 => (some (x9, (t138 == 0)))) else (none)) else (none)) else (some (x9, false)))
def api_Range_rune.f (k : Nat) (l0 : List (S29)) (a1 : Int) : Option (Int × Bool) := api_Range_rune.l0 k l0 a1 (l0.length : Int) 0 (l0.length : Int)
theorem api_Range_rune.mono_l : ∀ k, (∀ y0 y1 y2 y3 y4, LeO (api_Range_rune.l0 k y0 y1 y2 y3 y4) (api_Range_rune.l0 (k + 1) y0 y1 y2 y3 y4))
 | 0 => fun _ _ _ _ _ r h => by simp [api_Range_rune.l0] at h
 | k + 1 => by
  have ih0 := api_Range_rune.mono_l k
  ·
   intro y0 y1 y2 y3 y4
   unfold api_Range_rune.l0
   repeat' first
   | (with_reducible exact ih0 _ _ _ _ _)
   | (with_reducible exact LeO.refl _)
   | (with_reducible exact LeO.none _)
   | (with_reducible refine LeO.ite ?_ ?_)
   | (with_reducible refine LeO.bind ?_ (fun _ => ?_))
   | exact ih0 _ _ _ _ _
   | exact LeO.none _
   | refine LeO.ite ?_ ?_
   | refine LeO.bind ?_ (fun _ => ?_)
theorem api_Range_rune.mono : ∀ a0 a1 k, LeO (api_Range_rune.f k a0 a1) (api_Range_rune.f (k + 1) a0 a1) := by
 intro a0 a1 k
 have ih0 := api_Range_rune.mono_l k
 unfold api_Range_rune.f
 repeat' first
   | (with_reducible exact ih0 _ _ _ _ _)
   | (with_reducible exact LeO.refl _)
   | (with_reducible exact LeO.none _)
   | (with_reducible refine LeO.ite ?_ ?_)
   | (with_reducible refine LeO.bind ?_ (fun _ => ?_))
   | exact ih0 _ _ _ _ _
   | exact LeO.none _
   | refine LeO.ite ?_ ?_
   | refine LeO.bind ?_ (fun _ => ?_)
set_option maxHeartbeats 8000000 in
set_option maxRecDepth 100000 in
theorem api_Range_rune.calls (k : Nat) (A0 : Option Addr) (c0 : Nat) (l0 : List (S29)) (a1 : Int) (r1 : Int) (r2 : Bool) (w : World) (hr0 : Kd.C k29 w A0 l0.length l0) (hc0 : l0.length ≤ c0) (h : api_Range_rune.f k l0 a1 = some (r1, r2)) :
  Calls Tryd.prog 55 #[.slice A0 l0.length c0, .int .i32 a1, .func (.func 56) #[] #[]] w fun e w' => e = .returned (.tuple #[.int .i64 r1, .bool r2]) ∧ Below w.heap.size w w' := by
 have hu29 := Tryd.underlying29
 have HR0 := Aside0.mk hr0
 have HC0 := Aside0.mk hc0
 clear hr0 hc0
 have HB := Aside0.mk (Below.refl w.heap.size w)
 have H : (api_Range_rune.l0 k l0 a1 (l0.length : Int) 0 (l0.length : Int)) = some (r1, r2) := h
 clear h
 have H' := Aside0.mk H
 clear H
 go_enter Tryd.func55, Tryd.ntmps55
 go_wp2
 go_loopg [9, 10] k (fun kq v9 v10 w' => ∃ (x9_1 : Int) (x10_1 : Int), v9 = .int .i64 x9_1 ∧ v10 = .int .i64 x10_1 ∧ Aside0 (api_Range_rune.l0 kq l0 a1 (l0.length : Int) x9_1 x10_1 = some (r1, r2)) ∧ Aside0 (kq ≤ k) ∧ Aside0 (Below w.heap.size w w'))
 case atStart => exact ⟨(0), ((l0.length : Int)), (by first | rfl | (simp; done) | (simp [*]; done)), (by first | rfl | (simp; done) | (simp [*]; done)), H', ⟨Nat.le_refl _⟩, ⟨by repeat (first | (with_reducible first | exact HB.out | apply below_alloc | apply pw_below_drewN | apply below_drew1) | exact HB.out)⟩⟩
 case round =>
  clear H'
  try clear p2
  obtain ⟨x9_1, x10_1, rfl, rfl, HA, HK1, HB⟩ := hrel
  cases gk with
  | zero => exact absurd HA.out (by simp [api_Range_rune.l0])
  | succ k1 =>
   have H := HA.out
   clear HA
   simp only [api_Range_rune.l0] at H
   by_cases c3 : x9_1 < x10_1
   ·
    rw [if_pos c3] at H
    have c3b0 : decide (x9_1 < x10_1) = true := decide_eq_true c3
    clear c3
    obtain ⟨ji4, hji4⟩ : ∃ j_ : Int, (wrap64 ((IntKind.u64.wrap (wrap64 (x9_1 + x10_1))) / 2)) = j_ := ⟨_, rfl⟩
    replace H : (if 0 ≤ (ji4) then (if (ji4) < (l0.length : Int) then ((sets_has_1.f ((rd_T29 l0 (ji4)).f0) ((rd_T29 l0 (ji4)).f1) a1).bind fun t136 => (if t136 < 0 then (api_Range_rune.l0 k1 l0 a1 (l0.length : Int) (wrap64 ((ji4) + 1)) x10_1) else (api_Range_rune.l0 k1 l0 a1 (l0.length : Int) x9_1 ji4))) else (none)) else (none)) = some (r1, r2) := by first | (rw [hji4] at H; exact H) | (simp only [hji4] at H ⊢; exact H)
    have hji4w : (IntKind.i64.wrap ((IntKind.u64.wrap (wrap64 (x9_1 + x10_1))) / 2)) = ji4 := (i64_w _).trans hji4
    by_cases c5 : 0 ≤ (ji4)
    ·
     rw [if_pos c5] at H
     have c5b0 : decide (0 ≤ (ji4)) = true := decide_eq_true c5
     clear c5
     by_cases c6 : (ji4) < (l0.length : Int)
     ·
      rw [if_pos c6] at H
      have c6b0 : decide ((ji4) < (l0.length : Int)) = true := decide_eq_true c6
      clear c6
      replace H := Option.bind_eq_some_iff.mp H
      obtain ⟨t136, A70, H⟩ := H
      replace H : (if t136 < 0 then (api_Range_rune.l0 k1 l0 a1 (l0.length : Int) (wrap64 ((ji4) + 1)) x10_1) else (api_Range_rune.l0 k1 l0 a1 (l0.length : Int) x9_1 ji4)) = some (r1, r2) := H
      have A7 := Aside0.mk A70
      clear A70
      by_cases c8 : t136 < 0
      ·
       rw [if_pos c8] at H
       have c8b0 : decide (t136 < 0) = true := decide_eq_true c8
       clear c8
       have H' := Aside0.mk H
       clear H
       have p135 : 0 ≤ ((ji4) : Int) := of_decide_eq_true (by first | (with_reducible assumption) | assumption)
       have q135 : (ji4) < (l0.length : Int) := of_decide_eq_true (by first | (with_reducible assumption) | assumption)
       obtain ⟨ad135, e135, hx135_0, hx135_1⟩ := at_T29 HR0.out (ji4) p135 q135
       cases e135
       replace hx135_0 := (HB.out.cell (World.block_lt_of_cell? w _ hx135_0)).trans hx135_0
       replace hx135_1 := (HB.out.cell (World.block_lt_of_cell? w _ hx135_1)).trans hx135_1
       replace p135 := eq_true p135
       replace q135 := eq_true q135
       go_wp2_with (first | (go_at_call 56; (with_reducible refine (sets_has_1.calls ((rd_T29 l0 (ji4)).f0) ((rd_T29 l0 (ji4)).f1) a1 t136 _ A7.out).mono ?_); rintro e w9 ⟨rfl, hb⟩; have n0_ := Aside0.mk (below_step (by repeat (first | (with_reducible first | exact HB.out | apply below_alloc | apply pw_below_drewN | apply below_drew1) | exact HB.out)) hb); clear HB; have HB := n0_; clear n0_; (try clear hb); (try clear hb2); (try clear hk); (try clear hi)))
       go_roundg k1
       case measure => have := HK1.out; omega
       case rel => exact ⟨(wrap64 ((ji4) + 1)), (x10_1), (by first | rfl | (simp; done) | (simp only [← hji4] <;> (first | rfl | simp)) | (simp [*]; done)), (by first | rfl | (simp; done) | (simp [*]; done)), H', ⟨by have := HK1.out; omega⟩, ⟨by repeat (first | (with_reducible first | exact HB.out | apply below_alloc | apply pw_below_drewN | apply below_drew1) | exact HB.out)⟩⟩
      ·
       rw [if_neg c8] at H
       have c8b0 : decide (t136 < 0) = false := decide_eq_false c8
       clear c8
       have H' := Aside0.mk H
       clear H
       have p135 : 0 ≤ ((ji4) : Int) := of_decide_eq_true (by first | (with_reducible assumption) | assumption)
       have q135 : (ji4) < (l0.length : Int) := of_decide_eq_true (by first | (with_reducible assumption) | assumption)
       obtain ⟨ad135, e135, hx135_0, hx135_1⟩ := at_T29 HR0.out (ji4) p135 q135
       cases e135
       replace hx135_0 := (HB.out.cell (World.block_lt_of_cell? w _ hx135_0)).trans hx135_0
       replace hx135_1 := (HB.out.cell (World.block_lt_of_cell? w _ hx135_1)).trans hx135_1
       replace p135 := eq_true p135
       replace q135 := eq_true q135
       go_wp2_with (first | (go_at_call 56; (with_reducible refine (sets_has_1.calls ((rd_T29 l0 (ji4)).f0) ((rd_T29 l0 (ji4)).f1) a1 t136 _ A7.out).mono ?_); rintro e w10 ⟨rfl, hb⟩; have n0_ := Aside0.mk (below_step (by repeat (first | (with_reducible first | exact HB.out | apply below_alloc | apply pw_below_drewN | apply below_drew1) | exact HB.out)) hb); clear HB; have HB := n0_; clear n0_; (try clear hb); (try clear hb2); (try clear hk); (try clear hi)))
       go_roundg k1
       case measure => have := HK1.out; omega
       case rel => exact ⟨(x9_1), (ji4), (by first | rfl | (simp; done) | (simp [*]; done)), (by first | rfl | (simp; done) | (simp only [← hji4] <;> (first | rfl | simp)) | (simp [*]; done)), H', ⟨by have := HK1.out; omega⟩, ⟨by repeat (first | (with_reducible first | exact HB.out | apply below_alloc | apply pw_below_drewN | apply below_drew1) | exact HB.out)⟩⟩
     ·
      rw [if_neg c6] at H
      exact absurd H (by simp)
    ·
     rw [if_neg c5] at H
     exact absurd H (by simp)
   ·
    rw [if_neg c3] at H
    have c3b0 : decide (x9_1 < x10_1) = false := decide_eq_false c3
    clear c3
    by_cases c11 : x9_1 < (l0.length : Int)
    ·
     rw [if_pos c11] at H
     have c11b0 : decide (x9_1 < (l0.length : Int)) = true := decide_eq_true c11
     clear c11
     by_cases c12 : 0 ≤ x9_1
     ·
      rw [if_pos c12] at H
      have c12b0 : decide (0 ≤ x9_1) = true := decide_eq_true c12
      clear c12
      by_cases c13 : x9_1 < (l0.length : Int)
      ·
       rw [if_pos c13] at H
       have c13b0 : decide (x9_1 < (l0.length : Int)) = true := decide_eq_true c13
       clear c13
       replace H := Option.bind_eq_some_iff.mp H
       obtain ⟨t138, A140, H⟩ := H
       replace H : (some (x9_1, (t138 == 0))) = some (r1, r2) := H
       have A14 := Aside0.mk A140
       clear A140
       simp only [Option.some.injEq, Prod.mk.injEq] at H
       obtain ⟨rfl, rfl⟩ := H
       have p137 : 0 ≤ (x9_1 : Int) := of_decide_eq_true (by first | (with_reducible assumption) | assumption)
       have q137 : x9_1 < (l0.length : Int) := of_decide_eq_true (by first | (with_reducible assumption) | assumption)
       obtain ⟨ad137, e137, hx137_0, hx137_1⟩ := at_T29 HR0.out x9_1 p137 q137
       cases e137
       replace hx137_0 := (HB.out.cell (World.block_lt_of_cell? w _ hx137_0)).trans hx137_0
       replace hx137_1 := (HB.out.cell (World.block_lt_of_cell? w _ hx137_1)).trans hx137_1
       replace p137 := eq_true p137
       replace q137 := eq_true q137
       go_wp2_with (first | (go_at_call 56; (with_reducible refine (sets_has_1.calls ((rd_T29 l0 x9_1).f0) ((rd_T29 l0 x9_1).f1) a1 t138 _ A14.out).mono ?_); rintro e w15 ⟨rfl, hb⟩; have n0_ := Aside0.mk (below_step (by repeat (first | (with_reducible first | exact HB.out | apply below_alloc | apply pw_below_drewN | apply below_drew1) | exact HB.out)) hb); clear HB; have HB := n0_; clear n0_; (try clear hb); (try clear hb2); (try clear hk); (try clear hi)))
       go_ret2
       exact ⟨by first | rfl | (simp [errW_none, errW_some] <;> rfl) | (simp [*, errW_none, errW_some] <;> rfl), by repeat (first | (with_reducible first | exact HB.out | apply below_alloc | apply pw_below_drewN | apply below_drew1) | exact HB.out)⟩
      ·
       rw [if_neg c13] at H
       exact absurd H (by simp)
     ·
      rw [if_neg c12] at H
      exact absurd H (by simp)
    ·
     rw [if_neg c11] at H
     have c11b0 : decide (x9_1 < (l0.length : Int)) = false := decide_eq_false c11
     clear c11
     simp only [Option.some.injEq, Prod.mk.injEq] at H
     obtain ⟨rfl, rfl⟩ := H
     go_wp2
     go_ret2
     exact ⟨by first | rfl | (simp [errW_none, errW_some] <;> rfl) | (simp [*, errW_none, errW_some] <;> rfl), by repeat (first | (with_reducible first | exact HB.out | apply below_alloc | apply pw_below_drewN | apply below_drew1) | exact HB.out)⟩

/-! ### sets_has: function 37 -/
def sets_has.f (k : Nat) (l0 : List (S29)) (a1 : Int) : Option (Bool) := (api_Range_rune.f k l0 a1).bind fun bt139 => (some bt139.2)
theorem sets_has.mono : ∀ a0 a1 k, LeO (sets_has.f k a0 a1) (sets_has.f (k + 1) a0 a1) := by
 intro a0 a1 k
 unfold sets_has.f
 repeat' first
   | (with_reducible exact api_Range_rune.mono _ _ _)
   | (with_reducible exact LeO.refl _)
   | (with_reducible exact LeO.none _)
   | (with_reducible refine LeO.ite ?_ ?_)
   | (with_reducible refine LeO.bind ?_ (fun _ => ?_))
   | exact api_Range_rune.mono _ _ _
   | exact LeO.none _
   | refine LeO.ite ?_ ?_
   | refine LeO.bind ?_ (fun _ => ?_)
set_option maxHeartbeats 8000000 in
set_option maxRecDepth 100000 in
theorem sets_has.calls (k : Nat) (A0 : Option Addr) (c0 : Nat) (l0 : List (S29)) (a1 : Int) (r : Bool) (w : World) (hr0 : Kd.C k29 w A0 l0.length l0) (hc0 : l0.length ≤ c0) (h : sets_has.f k l0 a1 = some r) :
  Calls Tryd.prog 37 #[.slice A0 l0.length c0, .int .i32 a1] w fun e w' => e = .returned (.bool r) ∧ Below w.heap.size w w' := by
 have HR0 := Aside0.mk hr0
 have HC0 := Aside0.mk hc0
 clear hr0 hc0
 have HB := Aside0.mk (Below.refl w.heap.size w)
 have H : ((api_Range_rune.f k l0 a1).bind fun bt139 => (some bt139.2)) = some r := h
 clear h
 replace H := Option.bind_eq_some_iff.mp H
 obtain ⟨⟨t139, t140⟩, A30, H⟩ := H
 replace H : (some t140) = some r := H
 have A3 := Aside0.mk A30
 clear A30
 obtain rfl := Option.some.inj H
 go_enter Tryd.func37, Tryd.ntmps37
 go_wp2_with (first | ((with_reducible refine gate_callee (f := 55) rfl ?_); refine goesL_ (some 10) rfl rfl Tryd.func55 (by kernel_rfl) rfl #[.slice A0 l0.length c0, .int .i32 a1, .func (.func 56) #[] #[]] rfl (by (try simp only [List.map_toArray, List.map_cons, List.map_nil]); first | done | rfl | (simp only [List.length_drop, List.length_take]; rfl)) ?_; (with_reducible refine (api_Range_rune.calls k _ _ l0 a1 t139 t140 _ ?side1 ?side2 A3.out).mono ?_); (case side1 => repeat (first | exact HR0.out | (with_reducible refine Kd.C_alloc ?_ _) | (with_reducible refine Kd.C_drewN ?_ _) | (with_reducible refine Kd.C_drew ?_))); (case side2 => exact HC0.out); rintro e w4 ⟨rfl, hb⟩; refine ⟨_, rfl, ?_⟩; have n0_ := Aside0.mk (below_step (by repeat (first | (with_reducible first | exact HB.out | apply below_alloc | apply pw_below_drewN | apply below_drew1) | exact HB.out)) hb); clear HB; have HB := n0_; clear n0_; (try clear hb); (try clear hb2); (try clear hk); (try clear hi)))
 go_ret
 exact ⟨by first | rfl | (simp [errW_none, errW_some] <;> rfl) | (simp [*, errW_none, errW_some] <;> rfl), by repeat (first | (with_reducible first | exact HB.out | apply below_alloc | apply pw_below_drewN | apply below_drew1) | exact HB.out)⟩

/-! ### sets_Has: function 14 -/
def sets_Has.f (k : Nat) (l0 : List (S29)) (a1 : Int) : Option (Bool × Int) := (sets_Check.f k l0).bind fun t141 => (if t141 = 0 then ((sets_has.f k l0 a1).bind fun t142 => (some (t142, 0))) else (some (false, t141)))
theorem sets_Has.mono : ∀ a0 a1 k, LeO (sets_Has.f k a0 a1) (sets_Has.f (k + 1) a0 a1) := by
 intro a0 a1 k
 unfold sets_Has.f
 repeat' first
   | (with_reducible exact sets_Check.mono _ _)
   | (with_reducible exact sets_has.mono _ _ _)
   | (with_reducible exact LeO.refl _)
   | (with_reducible exact LeO.none _)
   | (with_reducible refine LeO.ite ?_ ?_)
   | (with_reducible refine LeO.bind ?_ (fun _ => ?_))
   | exact sets_Check.mono _ _
   | exact sets_has.mono _ _ _
   | exact LeO.none _
   | refine LeO.ite ?_ ?_
   | refine LeO.bind ?_ (fun _ => ?_)
set_option maxHeartbeats 8000000 in
set_option maxRecDepth 100000 in
theorem sets_Has.calls (k : Nat) (A0 : Option Addr) (c0 : Nat) (l0 : List (S29)) (a1 : Int) (r1 : Bool) (r2 : Int) (w : World) (hr0 : Kd.C k29 w A0 l0.length l0) (hc0 : l0.length ≤ c0) (hG : Glob w) (h : sets_Has.f k l0 a1 = some (r1, r2)) :
  Calls Tryd.prog 14 #[.slice A0 l0.length c0, .int .i32 a1] w fun e w' => e = .returned (.tuple #[.bool r1, .int .i64 r2]) ∧ Below w.heap.size w w' := by
 have HR0 := Aside0.mk hr0
 have HC0 := Aside0.mk hc0
 clear hr0 hc0
 have HB := Aside0.mk (Below.refl w.heap.size w)
 have H : ((sets_Check.f k l0).bind fun t141 => (if t141 = 0 then ((sets_has.f k l0 a1).bind fun t142 => (some (t142, 0))) else (some (false, t141)))) = some (r1, r2) := h
 clear h
 replace H := Option.bind_eq_some_iff.mp H
 obtain ⟨t141, A30, H⟩ := H
 replace H : (if t141 = 0 then ((sets_has.f k l0 a1).bind fun t142 => (some (t142, 0))) else (some (false, t141))) = some (r1, r2) := H
 have A3 := Aside0.mk A30
 clear A30
 by_cases c4 : t141 = 0
 ·
  rw [if_pos c4] at H
  have c4b0 : (t141 == 0) = true := beq_iff_eq.mpr c4
  have c4b1 : (t141 != 0) = false := bne_eq_false_iff_eq.mpr c4
  clear c4
  replace H := Option.bind_eq_some_iff.mp H
  obtain ⟨t142, A50, H⟩ := H
  replace H : (some (t142, 0)) = some (r1, r2) := H
  have A5 := Aside0.mk A50
  clear A50
  simp only [Option.some.injEq, Prod.mk.injEq] at H
  obtain ⟨rfl, rfl⟩ := H
  go_enter Tryd.func14, Tryd.ntmps14
  go_wp2_with (first | ((with_reducible refine gate_callee (f := 10) rfl ?_); refine goesL_ (some 8) rfl rfl Tryd.func10 (by kernel_rfl) rfl #[.slice A0 l0.length c0] rfl (by (try simp only [List.map_toArray, List.map_cons, List.map_nil]); first | done | rfl | (simp only [List.length_drop, List.length_take]; rfl)) ?_; (with_reducible refine (sets_Check.calls k _ _ l0 t141 _ ?side1 ?side2 ?side3 A3.out).mono ?_); (case side1 => repeat (first | exact HR0.out | (with_reducible refine Kd.C_alloc ?_ _) | (with_reducible refine Kd.C_drewN ?_ _) | (with_reducible refine Kd.C_drew ?_))); (case side2 => exact HC0.out); (case side3 => first | exact hG | exact Glob.of_below hG (by repeat (first | (with_reducible first | exact HB.out | apply below_alloc | apply pw_below_drewN | apply below_drew1) | exact HB.out)) | exact Glob.of_below hG HB.out | exact Glob.drewN hG _ | exact Glob.drew hG | (with_reducible repeat (first | exact hG | apply Glob.drewN | apply Glob.drew | apply Glob.alloc))); rintro e w6 ⟨rfl, hb⟩; refine ⟨_, rfl, ?_⟩; have n0_ := Aside0.mk (below_step (by repeat (first | (with_reducible first | exact HB.out | apply below_alloc | apply pw_below_drewN | apply below_drew1) | exact HB.out)) hb); clear HB; have HB := n0_; clear n0_; (try clear hb); (try clear hb2); (try clear hk); (try clear hi)) | ((with_reducible refine gate_callee (f := 37) rfl ?_); refine goesL_ (some 14) rfl rfl Tryd.func37 (by kernel_rfl) rfl #[.slice A0 l0.length c0, .int .i32 a1] rfl (by (try simp only [List.map_toArray, List.map_cons, List.map_nil]); first | done | rfl | (simp only [List.length_drop, List.length_take]; rfl)) ?_; (with_reducible refine (sets_has.calls k _ _ l0 a1 t142 _ ?side1 ?side2 A5.out).mono ?_); (case side1 => repeat (first | exact (Kd.C_below HR0.out HB.out) | (with_reducible refine Kd.C_alloc ?_ _) | (with_reducible refine Kd.C_drewN ?_ _) | (with_reducible refine Kd.C_drew ?_))); (case side2 => exact HC0.out); rintro e w7 ⟨rfl, hb⟩; refine ⟨_, rfl, ?_⟩; have n0_ := Aside0.mk (below_step (by repeat (first | (with_reducible first | exact HB.out | apply below_alloc | apply pw_below_drewN | apply below_drew1) | exact HB.out)) hb); clear HB; have HB := n0_; clear n0_; (try clear hb); (try clear hb2); (try clear hk); (try clear hi)))
  go_ret2
  exact ⟨by first | rfl | (simp [errW_none, errW_some] <;> rfl) | (simp [*, errW_none, errW_some] <;> rfl), by repeat (first | (with_reducible first | exact HB.out | apply below_alloc | apply pw_below_drewN | apply below_drew1) | exact HB.out)⟩
 ·
  rw [if_neg c4] at H
  have c4b0 : (t141 == 0) = false := beq_eq_false_iff_ne.mpr c4
  have c4b1 : (t141 != 0) = true := bne_iff_ne.mpr c4
  simp only [Option.some.injEq, Prod.mk.injEq] at H
  obtain ⟨rfl, rfl⟩ := H
  go_enter Tryd.func14, Tryd.ntmps14
  go_wp2_with (first | ((with_reducible refine gate_callee (f := 10) rfl ?_); refine goesL_ (some 8) rfl rfl Tryd.func10 (by kernel_rfl) rfl #[.slice A0 l0.length c0] rfl (by (try simp only [List.map_toArray, List.map_cons, List.map_nil]); first | done | rfl | (simp only [List.length_drop, List.length_take]; rfl)) ?_; (with_reducible refine (sets_Check.calls k _ _ l0 t141 _ ?side1 ?side2 ?side3 A3.out).mono ?_); (case side1 => repeat (first | exact HR0.out | (with_reducible refine Kd.C_alloc ?_ _) | (with_reducible refine Kd.C_drewN ?_ _) | (with_reducible refine Kd.C_drew ?_))); (case side2 => exact HC0.out); (case side3 => first | exact hG | exact Glob.of_below hG (by repeat (first | (with_reducible first | exact HB.out | apply below_alloc | apply pw_below_drewN | apply below_drew1) | exact HB.out)) | exact Glob.of_below hG HB.out | exact Glob.drewN hG _ | exact Glob.drew hG | (with_reducible repeat (first | exact hG | apply Glob.drewN | apply Glob.drew | apply Glob.alloc))); rintro e w8 ⟨rfl, hb⟩; refine ⟨_, rfl, ?_⟩; have n0_ := Aside0.mk (below_step (by repeat (first | (with_reducible first | exact HB.out | apply below_alloc | apply pw_below_drewN | apply below_drew1) | exact HB.out)) hb); clear HB; have HB := n0_; clear n0_; (try clear hb); (try clear hb2); (try clear hk); (try clear hi)))
  go_ret2
  exact ⟨by first | rfl | (simp [errW_none, errW_some] <;> rfl) | (simp [*, errW_none, errW_some] <;> rfl), by repeat (first | (with_reducible first | exact HB.out | apply below_alloc | apply pw_below_drewN | apply below_drew1) | exact HB.out)⟩

/-! ### sets_Size: function 18 -/
def sets_Size.l0 : Nat → Int → List (S29) → Int → Int → Option (Int × Int)
 | 0, _, _, _, _ => none
 | k + 1, x5, x13, x14, x15 => if x15 < x14 then (if 0 ≤ x15 then (if x15 < (x13.length : Int) then (sets_Size.l0 k (wrap64 (x5 + (wrap64 ((wrap64 (wrap32 (((rd_T29 x13 x15).f1) - ((rd_T29 x13 x15).f0)))) + 1)))) x13 x14 (wrap64 (x15 + 1))) else (none)) else (none)) else (some (x5, 0))
def sets_Size.f (k : Nat) (l0 : List (S29)) : Option (Int × Int) := (sets_Check.f k l0).bind fun t143 => (if t143 = 0 then (sets_Size.l0 k 0 l0 (l0.length : Int) 0) else (some (0, t143)))
theorem sets_Size.mono_l : ∀ k, (∀ y0 y1 y2 y3, LeO (sets_Size.l0 k y0 y1 y2 y3) (sets_Size.l0 (k + 1) y0 y1 y2 y3))
 | 0 => fun _ _ _ _ r h => by simp [sets_Size.l0] at h
 | k + 1 => by
  have ih0 := sets_Size.mono_l k
  ·
   intro y0 y1 y2 y3
   unfold sets_Size.l0
   repeat' first
   | (with_reducible exact ih0 _ _ _ _)
   | (with_reducible exact sets_Check.mono _ _)
   | (with_reducible exact LeO.refl _)
   | (with_reducible exact LeO.none _)
   | (with_reducible refine LeO.ite ?_ ?_)
   | (with_reducible refine LeO.bind ?_ (fun _ => ?_))
   | exact ih0 _ _ _ _
   | exact sets_Check.mono _ _
   | exact LeO.none _
   | refine LeO.ite ?_ ?_
   | refine LeO.bind ?_ (fun _ => ?_)
theorem sets_Size.mono : ∀ a0 k, LeO (sets_Size.f k a0) (sets_Size.f (k + 1) a0) := by
 intro a0 k
 have ih0 := sets_Size.mono_l k
 unfold sets_Size.f
 repeat' first
   | (with_reducible exact ih0 _ _ _ _)
   | (with_reducible exact sets_Check.mono _ _)
   | (with_reducible exact LeO.refl _)
   | (with_reducible exact LeO.none _)
   | (with_reducible refine LeO.ite ?_ ?_)
   | (with_reducible refine LeO.bind ?_ (fun _ => ?_))
   | exact ih0 _ _ _ _
   | exact sets_Check.mono _ _
   | exact LeO.none _
   | refine LeO.ite ?_ ?_
   | refine LeO.bind ?_ (fun _ => ?_)
set_option maxHeartbeats 8000000 in
set_option maxRecDepth 100000 in
theorem sets_Size.calls (k : Nat) (A0 : Option Addr) (c0 : Nat) (l0 : List (S29)) (r1 : Int) (r2 : Int) (w : World) (hr0 : Kd.C k29 w A0 l0.length l0) (hc0 : l0.length ≤ c0) (hG : Glob w) (h : sets_Size.f k l0 = some (r1, r2)) :
  Calls Tryd.prog 18 #[.slice A0 l0.length c0] w fun e w' => e = .returned (.tuple #[.int .i64 r1, .int .i64 r2]) ∧ Below w.heap.size w w' := by
 have hu29 := Tryd.underlying29
 have HR0 := Aside0.mk hr0
 have HC0 := Aside0.mk hc0
 clear hr0 hc0
 have HB := Aside0.mk (Below.refl w.heap.size w)
 have H : ((sets_Check.f k l0).bind fun t143 => (if t143 = 0 then (sets_Size.l0 k 0 l0 (l0.length : Int) 0) else (some (0, t143)))) = some (r1, r2) := h
 clear h
 replace H := Option.bind_eq_some_iff.mp H
 obtain ⟨t143, A20, H⟩ := H
 replace H : (if t143 = 0 then (sets_Size.l0 k 0 l0 (l0.length : Int) 0) else (some (0, t143))) = some (r1, r2) := H
 have A2 := Aside0.mk A20
 clear A20
 by_cases c3 : t143 = 0
 ·
  rw [if_pos c3] at H
  have c3b0 : (t143 == 0) = true := beq_iff_eq.mpr c3
  have c3b1 : (t143 != 0) = false := bne_eq_false_iff_eq.mpr c3
  clear c3
  have H' := Aside0.mk H
  clear H
  go_enter Tryd.func18, Tryd.ntmps18
  go_wp2_with (first | ((with_reducible refine gate_callee (f := 10) rfl ?_); refine goesL_ (some 9) rfl rfl Tryd.func10 (by kernel_rfl) rfl #[.slice A0 l0.length c0] rfl (by (try simp only [List.map_toArray, List.map_cons, List.map_nil]); first | done | rfl | (simp only [List.length_drop, List.length_take]; rfl)) ?_; (with_reducible refine (sets_Check.calls k _ _ l0 t143 _ ?side1 ?side2 ?side3 A2.out).mono ?_); (case side1 => repeat (first | exact HR0.out | (with_reducible refine Kd.C_alloc ?_ _) | (with_reducible refine Kd.C_drewN ?_ _) | (with_reducible refine Kd.C_drew ?_))); (case side2 => exact HC0.out); (case side3 => first | exact hG | exact Glob.of_below hG (by repeat (first | (with_reducible first | exact HB.out | apply below_alloc | apply pw_below_drewN | apply below_drew1) | exact HB.out)) | exact Glob.of_below hG HB.out | exact Glob.drewN hG _ | exact Glob.drew hG | (with_reducible repeat (first | exact hG | apply Glob.drewN | apply Glob.drew | apply Glob.alloc))); rintro e w4 ⟨rfl, hb⟩; refine ⟨_, rfl, ?_⟩; have n0_ := Aside0.mk (below_step (by repeat (first | (with_reducible first | exact HB.out | apply below_alloc | apply pw_below_drewN | apply below_drew1) | exact HB.out)) hb); clear HB; have HB := n0_; clear n0_; (try clear hb); (try clear hb2); (try clear hk); (try clear hi)))
  go_loopg [5, 15] k (fun kq v5 v15 w' => ∃ (x5_1 : Int) (x15_1 : Int), v5 = .int .i64 x5_1 ∧ v15 = .int .i64 x15_1 ∧ Aside0 (sets_Size.l0 kq x5_1 l0 (l0.length : Int) x15_1 = some (r1, r2)) ∧ Aside0 (kq ≤ k) ∧ Aside0 (Below w.heap.size w w'))
  case atStart => exact ⟨(0), (0), (by first | rfl | (simp; done) | (simp [*]; done)), (by first | rfl | (simp; done) | (simp [*]; done)), H', ⟨Nat.le_refl _⟩, ⟨by repeat (first | (with_reducible first | exact HB.out | apply below_alloc | apply pw_below_drewN | apply below_drew1) | exact HB.out)⟩⟩
  case round =>
   clear H'
   try clear c1
   try clear p2
   try clear c3
   try clear c3b0
   try clear c3b1
   obtain ⟨x5_1, x15_1, rfl, rfl, HA, HK1, HB⟩ := hrel
   cases gk with
   | zero => exact absurd HA.out (by simp [sets_Size.l0])
   | succ k1 =>
    have H := HA.out
    clear HA
    simp only [sets_Size.l0] at H
    by_cases c5 : x15_1 < (l0.length : Int)
    ·
     rw [if_pos c5] at H
     have c5b0 : decide (x15_1 < (l0.length : Int)) = true := decide_eq_true c5
     clear c5
     by_cases c6 : 0 ≤ x15_1
     ·
      rw [if_pos c6] at H
      have c6b0 : decide (0 ≤ x15_1) = true := decide_eq_true c6
      clear c6
      by_cases c7 : x15_1 < (l0.length : Int)
      ·
       rw [if_pos c7] at H
       have c7b0 : decide (x15_1 < (l0.length : Int)) = true := decide_eq_true c7
       clear c7
       have H' := Aside0.mk H
       clear H
       have p144 : 0 ≤ (x15_1 : Int) := of_decide_eq_true (by first | (with_reducible assumption) | assumption)
       have q144 : x15_1 < (l0.length : Int) := of_decide_eq_true (by first | (with_reducible assumption) | assumption)
       obtain ⟨ad144, e144, hx144_0, hx144_1⟩ := at_T29 HR0.out x15_1 p144 q144
       cases e144
       replace hx144_0 := (HB.out.cell (World.block_lt_of_cell? w _ hx144_0)).trans hx144_0
       replace hx144_1 := (HB.out.cell (World.block_lt_of_cell? w _ hx144_1)).trans hx144_1
       replace p144 := eq_true p144
       replace q144 := eq_true q144
       go_wp2_with (first | ((with_reducible refine gate_dst (N := 7) rfl ?_); refine box_event ?hg (N := 7) ?hd (cs := #[.int .i32 0, .int .i32 0]) (t := 29) ?hr ?_; (case hd => rfl); (case hg => rfl); (case hr => first | (go_simp; done) | (go_simp; rfl)); intro gb145 hg w8 hbox hb; have n0_ := Aside0.mk (below_step (by repeat (first | (with_reducible first | exact HB.out | apply below_alloc | apply pw_below_drewN | apply below_drew1) | exact HB.out)) hb); have n1_ := Aside0.mk (hbox); have n2_ := Aside0.mk ((by rw [hg]; exact (below_size (by repeat (first | (with_reducible first | exact HB.out | apply below_alloc | apply pw_below_drewN | apply below_drew1) | exact HB.out))) : w.heap.size ≤ gb145)); have n3_ := Aside0.mk ((by rw [hg]; exact (below_size (by repeat (first | (with_reducible first | exact HB.out | apply below_alloc | apply pw_below_drewN | apply below_drew1) | exact HB.out))) : w.heap.size ≤ gb145)); clear HB; have HB := n0_; have BK145 := n1_; have GW145 := n2_; have GE145 := n3_; clear n0_ n1_ n2_ n3_; clear hb hbox hg; have hcz9_0 : w8.cell? ⟨gb145, 0, none⟩ = some (.int .i32 0) := (blk_cell BK145.out 0).trans rfl; have hcz9_1 : w8.cell? ⟨gb145, 1, none⟩ = some (.int .i32 0) := (blk_cell BK145.out 1).trans rfl; have hfz9_0 := blk_frozen BK145.out 0; have hfz9_1 := blk_frozen BK145.out 1))
       go_roundg k1
       case measure => have := HK1.out; omega
       case rel => exact ⟨(wrap64 (x5_1 + (wrap64 ((wrap64 (wrap32 (((rd_T29 l0 x15_1).f1) - ((rd_T29 l0 x15_1).f0)))) + 1)))), (wrap64 (x15_1 + 1)), (by first | rfl | (simp; done) | (simp [*]; done)), (by first | rfl | (simp; done) | (simp [*]; done)), H', ⟨by have := HK1.out; omega⟩, ⟨by repeat (first | (with_reducible first | exact HB.out | apply below_alloc | apply pw_below_drewN | apply below_drew1 | refine below_set ?_ GE145.out) | exact HB.out)⟩⟩
      ·
       rw [if_neg c7] at H
       exact absurd H (by simp)
     ·
      rw [if_neg c6] at H
      exact absurd H (by simp)
    ·
     rw [if_neg c5] at H
     have c5b0 : decide (x15_1 < (l0.length : Int)) = false := decide_eq_false c5
     clear c5
     simp only [Option.some.injEq, Prod.mk.injEq] at H
     obtain ⟨rfl, rfl⟩ := H
     go_wp2
     go_ret2
     exact ⟨by first | rfl | (simp [errW_none, errW_some] <;> rfl) | (simp [*, errW_none, errW_some] <;> rfl), by repeat (first | (with_reducible first | exact HB.out | apply below_alloc | apply pw_below_drewN | apply below_drew1) | exact HB.out)⟩
 ·
  rw [if_neg c3] at H
  have c3b0 : (t143 == 0) = false := beq_eq_false_iff_ne.mpr c3
  have c3b1 : (t143 != 0) = true := bne_iff_ne.mpr c3
  simp only [Option.some.injEq, Prod.mk.injEq] at H
  obtain ⟨rfl, rfl⟩ := H
  go_enter Tryd.func18, Tryd.ntmps18
  go_wp2_with (first | ((with_reducible refine gate_callee (f := 10) rfl ?_); refine goesL_ (some 9) rfl rfl Tryd.func10 (by kernel_rfl) rfl #[.slice A0 l0.length c0] rfl (by (try simp only [List.map_toArray, List.map_cons, List.map_nil]); first | done | rfl | (simp only [List.length_drop, List.length_take]; rfl)) ?_; (with_reducible refine (sets_Check.calls k _ _ l0 t143 _ ?side1 ?side2 ?side3 A2.out).mono ?_); (case side1 => repeat (first | exact HR0.out | (with_reducible refine Kd.C_alloc ?_ _) | (with_reducible refine Kd.C_drewN ?_ _) | (with_reducible refine Kd.C_drew ?_))); (case side2 => exact HC0.out); (case side3 => first | exact hG | exact Glob.of_below hG (by repeat (first | (with_reducible first | exact HB.out | apply below_alloc | apply pw_below_drewN | apply below_drew1) | exact HB.out)) | exact Glob.of_below hG HB.out | exact Glob.drewN hG _ | exact Glob.drew hG | (with_reducible repeat (first | exact hG | apply Glob.drewN | apply Glob.drew | apply Glob.alloc))); rintro e w10 ⟨rfl, hb⟩; refine ⟨_, rfl, ?_⟩; have n0_ := Aside0.mk (below_step (by repeat (first | (with_reducible first | exact HB.out | apply below_alloc | apply pw_below_drewN | apply below_drew1) | exact HB.out)) hb); clear HB; have HB := n0_; clear n0_; (try clear hb); (try clear hb2); (try clear hk); (try clear hi)))
  go_ret2
  exact ⟨by first | rfl | (simp [errW_none, errW_some] <;> rfl) | (simp [*, errW_none, errW_some] <;> rfl), by repeat (first | (with_reducible first | exact HB.out | apply below_alloc | apply pw_below_drewN | apply below_drew1) | exact HB.out)⟩

/-! ### sets_Pick: function 21 -/
def sets_Pick.l0 : Nat → Int → List (S29) → Int → Int → Option (Int × Int)
 | 0, _, _, _, _ => none
 | k + 1, x1, x17, x18, x19 => if x19 < x18 then (if 0 ≤ x19 then (if x19 < (x17.length : Int) then (if x1 < (wrap64 ((wrap64 (wrap32 (((rd_T29 x17 x19).f1) - ((rd_T29 x17 x19).f0)))) + 1)) then (some (wrap32 (((rd_T29 x17 x19).f0) + (wrap32 (x1))), 0)) else (sets_Pick.l0 k (wrap64 (x1 - (wrap64 ((wrap64 (wrap32 (((rd_T29 x17 x19).f1) - ((rd_T29 x17 x19).f0)))) + 1)))) x17 x18 (wrap64 (x19 + 1)))) else (none)) else (none)) else (some (0, 2))
def sets_Pick.f (k : Nat) (l0 : List (S29)) (a1 : Int) : Option (Int × Int) := (sets_Check.f k l0).bind fun t146 => (if t146 = 0 then (if a1 < 0 then (some (0, 2)) else (sets_Pick.l0 k a1 l0 (l0.length : Int) 0)) else (some (0, t146)))
theorem sets_Pick.mono_l : ∀ k, (∀ y0 y1 y2 y3, LeO (sets_Pick.l0 k y0 y1 y2 y3) (sets_Pick.l0 (k + 1) y0 y1 y2 y3))
 | 0 => fun _ _ _ _ r h => by simp [sets_Pick.l0] at h
 | k + 1 => by
  have ih0 := sets_Pick.mono_l k
  ·
   intro y0 y1 y2 y3
   unfold sets_Pick.l0
   repeat' first
   | (with_reducible exact ih0 _ _ _ _)
   | (with_reducible exact sets_Check.mono _ _)
   | (with_reducible exact LeO.refl _)
   | (with_reducible exact LeO.none _)
   | (with_reducible refine LeO.ite ?_ ?_)
   | (with_reducible refine LeO.bind ?_ (fun _ => ?_))
   | exact ih0 _ _ _ _
   | exact sets_Check.mono _ _
   | exact LeO.none _
   | refine LeO.ite ?_ ?_
   | refine LeO.bind ?_ (fun _ => ?_)
theorem sets_Pick.mono : ∀ a0 a1 k, LeO (sets_Pick.f k a0 a1) (sets_Pick.f (k + 1) a0 a1) := by
 intro a0 a1 k
 have ih0 := sets_Pick.mono_l k
 unfold sets_Pick.f
 repeat' first
   | (with_reducible exact ih0 _ _ _ _)
   | (with_reducible exact sets_Check.mono _ _)
   | (with_reducible exact LeO.refl _)
   | (with_reducible exact LeO.none _)
   | (with_reducible refine LeO.ite ?_ ?_)
   | (with_reducible refine LeO.bind ?_ (fun _ => ?_))
   | exact ih0 _ _ _ _
   | exact sets_Check.mono _ _
   | exact LeO.none _
   | refine LeO.ite ?_ ?_
   | refine LeO.bind ?_ (fun _ => ?_)
set_option maxHeartbeats 8000000 in
set_option maxRecDepth 100000 in
theorem sets_Pick.calls (k : Nat) (A0 : Option Addr) (c0 : Nat) (l0 : List (S29)) (a1 : Int) (r1 : Int) (r2 : Int) (w : World) (hr0 : Kd.C k29 w A0 l0.length l0) (hc0 : l0.length ≤ c0) (hG : Glob w) (h : sets_Pick.f k l0 a1 = some (r1, r2)) :
  Calls Tryd.prog 21 #[.slice A0 l0.length c0, .int .i64 a1] w fun e w' => e = .returned (.tuple #[.int .i32 r1, .int .i64 r2]) ∧ Below w.heap.size w w' := by
 have hu29 := Tryd.underlying29
 have HR0 := Aside0.mk hr0
 have HC0 := Aside0.mk hc0
 clear hr0 hc0
 have HB := Aside0.mk (Below.refl w.heap.size w)
 have H : ((sets_Check.f k l0).bind fun t146 => (if t146 = 0 then (if a1 < 0 then (some (0, 2)) else (sets_Pick.l0 k a1 l0 (l0.length : Int) 0)) else (some (0, t146)))) = some (r1, r2) := h
 clear h
 replace H := Option.bind_eq_some_iff.mp H
 obtain ⟨t146, A30, H⟩ := H
 replace H : (if t146 = 0 then (if a1 < 0 then (some (0, 2)) else (sets_Pick.l0 k a1 l0 (l0.length : Int) 0)) else (some (0, t146))) = some (r1, r2) := H
 have A3 := Aside0.mk A30
 clear A30
 by_cases c4 : t146 = 0
 ·
  rw [if_pos c4] at H
  have c4b0 : (t146 == 0) = true := beq_iff_eq.mpr c4
  have c4b1 : (t146 != 0) = false := bne_eq_false_iff_eq.mpr c4
  clear c4
  by_cases c5 : a1 < 0
  ·
   rw [if_pos c5] at H
   have c5b0 : decide (a1 < 0) = true := decide_eq_true c5
   clear c5
   simp only [Option.some.injEq, Prod.mk.injEq] at H
   obtain ⟨rfl, rfl⟩ := H
   go_enter Tryd.func21, Tryd.ntmps21
   go_wp2_with (first | ((with_reducible refine gate_callee (f := 10) rfl ?_); refine goesL_ (some 11) rfl rfl Tryd.func10 (by kernel_rfl) rfl #[.slice A0 l0.length c0] rfl (by (try simp only [List.map_toArray, List.map_cons, List.map_nil]); first | done | rfl | (simp only [List.length_drop, List.length_take]; rfl)) ?_; (with_reducible refine (sets_Check.calls k _ _ l0 t146 _ ?side1 ?side2 ?side3 A3.out).mono ?_); (case side1 => repeat (first | exact HR0.out | (with_reducible refine Kd.C_alloc ?_ _) | (with_reducible refine Kd.C_drewN ?_ _) | (with_reducible refine Kd.C_drew ?_))); (case side2 => exact HC0.out); (case side3 => first | exact hG | exact Glob.of_below hG (by repeat (first | (with_reducible first | exact HB.out | apply below_alloc | apply pw_below_drewN | apply below_drew1) | exact HB.out)) | exact Glob.of_below hG HB.out | exact Glob.drewN hG _ | exact Glob.drew hG | (with_reducible repeat (first | exact hG | apply Glob.drewN | apply Glob.drew | apply Glob.alloc))); rintro e w6 ⟨rfl, hb⟩; refine ⟨_, rfl, ?_⟩; have n0_ := Aside0.mk (below_step (by repeat (first | (with_reducible first | exact HB.out | apply below_alloc | apply pw_below_drewN | apply below_drew1) | exact HB.out)) hb); clear HB; have HB := n0_; clear n0_; (try clear hb); (try clear hb2); (try clear hk); (try clear hi)))
   go_ret2
   exact ⟨by first | rfl | (simp [errW_none, errW_some] <;> rfl) | (simp [*, errW_none, errW_some] <;> rfl), by repeat (first | (with_reducible first | exact HB.out | apply below_alloc | apply pw_below_drewN | apply below_drew1) | exact HB.out)⟩
  ·
   rw [if_neg c5] at H
   have c5b0 : decide (a1 < 0) = false := decide_eq_false c5
   clear c5
   have H' := Aside0.mk H
   clear H
   go_enter Tryd.func21, Tryd.ntmps21
   go_wp2_with (first | ((with_reducible refine gate_callee (f := 10) rfl ?_); refine goesL_ (some 11) rfl rfl Tryd.func10 (by kernel_rfl) rfl #[.slice A0 l0.length c0] rfl (by (try simp only [List.map_toArray, List.map_cons, List.map_nil]); first | done | rfl | (simp only [List.length_drop, List.length_take]; rfl)) ?_; (with_reducible refine (sets_Check.calls k _ _ l0 t146 _ ?side1 ?side2 ?side3 A3.out).mono ?_); (case side1 => repeat (first | exact HR0.out | (with_reducible refine Kd.C_alloc ?_ _) | (with_reducible refine Kd.C_drewN ?_ _) | (with_reducible refine Kd.C_drew ?_))); (case side2 => exact HC0.out); (case side3 => first | exact hG | exact Glob.of_below hG (by repeat (first | (with_reducible first | exact HB.out | apply below_alloc | apply pw_below_drewN | apply below_drew1) | exact HB.out)) | exact Glob.of_below hG HB.out | exact Glob.drewN hG _ | exact Glob.drew hG | (with_reducible repeat (first | exact hG | apply Glob.drewN | apply Glob.drew | apply Glob.alloc))); rintro e w7 ⟨rfl, hb⟩; refine ⟨_, rfl, ?_⟩; have n0_ := Aside0.mk (below_step (by repeat (first | (with_reducible first | exact HB.out | apply below_alloc | apply pw_below_drewN | apply below_drew1) | exact HB.out)) hb); clear HB; have HB := n0_; clear n0_; (try clear hb); (try clear hb2); (try clear hk); (try clear hi)))
   go_loopg [1, 19] k (fun kq v1 v19 w' => ∃ (x1_1 : Int) (x19_1 : Int), v1 = .int .i64 x1_1 ∧ v19 = .int .i64 x19_1 ∧ Aside0 (sets_Pick.l0 kq x1_1 l0 (l0.length : Int) x19_1 = some (r1, r2)) ∧ Aside0 (kq ≤ k) ∧ Aside0 (Below w.heap.size w w'))
   case atStart => exact ⟨(a1), (0), (by first | rfl | (simp; done) | (simp [*]; done)), (by first | rfl | (simp; done) | (simp [*]; done)), H', ⟨Nat.le_refl _⟩, ⟨by repeat (first | (with_reducible first | exact HB.out | apply below_alloc | apply pw_below_drewN | apply below_drew1) | exact HB.out)⟩⟩
   case round =>
    clear H'
    try clear c1
    try clear c2
    try clear p2
    try clear c4
    try clear c4b0
    try clear c4b1
    try clear c5
    try clear c5b0
    obtain ⟨x1_1, x19_1, rfl, rfl, HA, HK1, HB⟩ := hrel
    cases gk with
    | zero => exact absurd HA.out (by simp [sets_Pick.l0])
    | succ k1 =>
     have H := HA.out
     clear HA
     simp only [sets_Pick.l0] at H
     by_cases c8 : x19_1 < (l0.length : Int)
     ·
      rw [if_pos c8] at H
      have c8b0 : decide (x19_1 < (l0.length : Int)) = true := decide_eq_true c8
      clear c8
      by_cases c9 : 0 ≤ x19_1
      ·
       rw [if_pos c9] at H
       have c9b0 : decide (0 ≤ x19_1) = true := decide_eq_true c9
       clear c9
       by_cases c10 : x19_1 < (l0.length : Int)
       ·
        rw [if_pos c10] at H
        have c10b0 : decide (x19_1 < (l0.length : Int)) = true := decide_eq_true c10
        clear c10
        by_cases c11 : x1_1 < (wrap64 ((wrap64 (wrap32 (((rd_T29 l0 x19_1).f1) - ((rd_T29 l0 x19_1).f0)))) + 1))
        ·
         rw [if_pos c11] at H
         have c11b0 : decide (x1_1 < (wrap64 ((wrap64 (wrap32 (((rd_T29 l0 x19_1).f1) - ((rd_T29 l0 x19_1).f0)))) + 1))) = true := decide_eq_true c11
         clear c11
         simp only [Option.some.injEq, Prod.mk.injEq] at H
         obtain ⟨rfl, rfl⟩ := H
         have p147 : 0 ≤ (x19_1 : Int) := of_decide_eq_true (by first | (with_reducible assumption) | assumption)
         have q147 : x19_1 < (l0.length : Int) := of_decide_eq_true (by first | (with_reducible assumption) | assumption)
         obtain ⟨ad147, e147, hx147_0, hx147_1⟩ := at_T29 HR0.out x19_1 p147 q147
         cases e147
         replace hx147_0 := (HB.out.cell (World.block_lt_of_cell? w _ hx147_0)).trans hx147_0
         replace hx147_1 := (HB.out.cell (World.block_lt_of_cell? w _ hx147_1)).trans hx147_1
         replace p147 := eq_true p147
         replace q147 := eq_true q147
         go_wp2_with (first | ((with_reducible refine gate_dst (N := 8) rfl ?_); refine box_event ?hg (N := 8) ?hd (cs := #[.int .i32 0, .int .i32 0]) (t := 29) ?hr ?_; (case hd => rfl); (case hg => rfl); (case hr => first | (go_simp; done) | (go_simp; rfl)); intro gb148 hg w12 hbox hb; have n0_ := Aside0.mk (below_step (by repeat (first | (with_reducible first | exact HB.out | apply below_alloc | apply pw_below_drewN | apply below_drew1) | exact HB.out)) hb); have n1_ := Aside0.mk (hbox); have n2_ := Aside0.mk ((by rw [hg]; exact (below_size (by repeat (first | (with_reducible first | exact HB.out | apply below_alloc | apply pw_below_drewN | apply below_drew1) | exact HB.out))) : w.heap.size ≤ gb148)); have n3_ := Aside0.mk ((by rw [hg]; exact (below_size (by repeat (first | (with_reducible first | exact HB.out | apply below_alloc | apply pw_below_drewN | apply below_drew1) | exact HB.out))) : w.heap.size ≤ gb148)); clear HB; have HB := n0_; have BK148 := n1_; have GW148 := n2_; have GE148 := n3_; clear n0_ n1_ n2_ n3_; clear hb hbox hg; have hcz13_0 : w12.cell? ⟨gb148, 0, none⟩ = some (.int .i32 0) := (blk_cell BK148.out 0).trans rfl; have hcz13_1 : w12.cell? ⟨gb148, 1, none⟩ = some (.int .i32 0) := (blk_cell BK148.out 1).trans rfl; have hfz13_0 := blk_frozen BK148.out 0; have hfz13_1 := blk_frozen BK148.out 1))
         go_ret2
         exact ⟨by first | rfl | (simp [errW_none, errW_some] <;> rfl) | (simp [*, errW_none, errW_some] <;> rfl), by repeat (first | (with_reducible first | exact HB.out | apply below_alloc | apply pw_below_drewN | apply below_drew1 | refine below_set ?_ GE148.out) | exact HB.out)⟩
        ·
         rw [if_neg c11] at H
         have c11b0 : decide (x1_1 < (wrap64 ((wrap64 (wrap32 (((rd_T29 l0 x19_1).f1) - ((rd_T29 l0 x19_1).f0)))) + 1))) = false := decide_eq_false c11
         clear c11
         have H' := Aside0.mk H
         clear H
         have p147 : 0 ≤ (x19_1 : Int) := of_decide_eq_true (by first | (with_reducible assumption) | assumption)
         have q147 : x19_1 < (l0.length : Int) := of_decide_eq_true (by first | (with_reducible assumption) | assumption)
         obtain ⟨ad147, e147, hx147_0, hx147_1⟩ := at_T29 HR0.out x19_1 p147 q147
         cases e147
         replace hx147_0 := (HB.out.cell (World.block_lt_of_cell? w _ hx147_0)).trans hx147_0
         replace hx147_1 := (HB.out.cell (World.block_lt_of_cell? w _ hx147_1)).trans hx147_1
         replace p147 := eq_true p147
         replace q147 := eq_true q147
         go_wp2_with (first | ((with_reducible refine gate_dst (N := 8) rfl ?_); refine box_event ?hg (N := 8) ?hd (cs := #[.int .i32 0, .int .i32 0]) (t := 29) ?hr ?_; (case hd => rfl); (case hg => rfl); (case hr => first | (go_simp; done) | (go_simp; rfl)); intro gb148 hg w14 hbox hb; have n0_ := Aside0.mk (below_step (by repeat (first | (with_reducible first | exact HB.out | apply below_alloc | apply pw_below_drewN | apply below_drew1) | exact HB.out)) hb); have n1_ := Aside0.mk (hbox); have n2_ := Aside0.mk ((by rw [hg]; exact (below_size (by repeat (first | (with_reducible first | exact HB.out | apply below_alloc | apply pw_below_drewN | apply below_drew1) | exact HB.out))) : w.heap.size ≤ gb148)); have n3_ := Aside0.mk ((by rw [hg]; exact (below_size (by repeat (first | (with_reducible first | exact HB.out | apply below_alloc | apply pw_below_drewN | apply below_drew1) | exact HB.out))) : w.heap.size ≤ gb148)); clear HB; have HB := n0_; have BK148 := n1_; have GW148 := n2_; have GE148 := n3_; clear n0_ n1_ n2_ n3_; clear hb hbox hg; have hcz15_0 : w14.cell? ⟨gb148, 0, none⟩ = some (.int .i32 0) := (blk_cell BK148.out 0).trans rfl; have hcz15_1 : w14.cell? ⟨gb148, 1, none⟩ = some (.int .i32 0) := (blk_cell BK148.out 1).trans rfl; have hfz15_0 := blk_frozen BK148.out 0; have hfz15_1 := blk_frozen BK148.out 1))
         go_roundg k1
         case measure => have := HK1.out; omega
         case rel => exact ⟨(wrap64 (x1_1 - (wrap64 ((wrap64 (wrap32 (((rd_T29 l0 x19_1).f1) - ((rd_T29 l0 x19_1).f0)))) + 1)))), (wrap64 (x19_1 + 1)), (by first | rfl | (simp; done) | (simp [*]; done)), (by first | rfl | (simp; done) | (simp [*]; done)), H', ⟨by have := HK1.out; omega⟩, ⟨by repeat (first | (with_reducible first | exact HB.out | apply below_alloc | apply pw_below_drewN | apply below_drew1 | refine below_set ?_ GE148.out) | exact HB.out)⟩⟩
       ·
        rw [if_neg c10] at H
        exact absurd H (by simp)
      ·
       rw [if_neg c9] at H
       exact absurd H (by simp)
     ·
      rw [if_neg c8] at H
      have c8b0 : decide (x19_1 < (l0.length : Int)) = false := decide_eq_false c8
      clear c8
      simp only [Option.some.injEq, Prod.mk.injEq] at H
      obtain ⟨rfl, rfl⟩ := H
      go_wp2
      go_ret2
      exact ⟨by first | rfl | (simp [errW_none, errW_some] <;> rfl) | (simp [*, errW_none, errW_some] <;> rfl), by repeat (first | (with_reducible first | exact HB.out | apply below_alloc | apply pw_below_drewN | apply below_drew1) | exact HB.out)⟩
 ·
  rw [if_neg c4] at H
  have c4b0 : (t146 == 0) = false := beq_eq_false_iff_ne.mpr c4
  have c4b1 : (t146 != 0) = true := bne_iff_ne.mpr c4
  simp only [Option.some.injEq, Prod.mk.injEq] at H
  obtain ⟨rfl, rfl⟩ := H
  go_enter Tryd.func21, Tryd.ntmps21
  go_wp2_with (first | ((with_reducible refine gate_callee (f := 10) rfl ?_); refine goesL_ (some 11) rfl rfl Tryd.func10 (by kernel_rfl) rfl #[.slice A0 l0.length c0] rfl (by (try simp only [List.map_toArray, List.map_cons, List.map_nil]); first | done | rfl | (simp only [List.length_drop, List.length_take]; rfl)) ?_; (with_reducible refine (sets_Check.calls k _ _ l0 t146 _ ?side1 ?side2 ?side3 A3.out).mono ?_); (case side1 => repeat (first | exact HR0.out | (with_reducible refine Kd.C_alloc ?_ _) | (with_reducible refine Kd.C_drewN ?_ _) | (with_reducible refine Kd.C_drew ?_))); (case side2 => exact HC0.out); (case side3 => first | exact hG | exact Glob.of_below hG (by repeat (first | (with_reducible first | exact HB.out | apply below_alloc | apply pw_below_drewN | apply below_drew1) | exact HB.out)) | exact Glob.of_below hG HB.out | exact Glob.drewN hG _ | exact Glob.drew hG | (with_reducible repeat (first | exact hG | apply Glob.drewN | apply Glob.drew | apply Glob.alloc))); rintro e w16 ⟨rfl, hb⟩; refine ⟨_, rfl, ?_⟩; have n0_ := Aside0.mk (below_step (by repeat (first | (with_reducible first | exact HB.out | apply below_alloc | apply pw_below_drewN | apply below_drew1) | exact HB.out)) hb); clear HB; have HB := n0_; clear n0_; (try clear hb); (try clear hb2); (try clear hk); (try clear hi)))
  go_ret2
  exact ⟨by first | rfl | (simp [errW_none, errW_some] <;> rfl) | (simp [*, errW_none, errW_some] <;> rfl), by repeat (first | (with_reducible first | exact HB.out | apply below_alloc | apply pw_below_drewN | apply below_drew1) | exact HB.out)⟩

end Go.Proofs.YtoggmegpodmfnaaDoor.PY
