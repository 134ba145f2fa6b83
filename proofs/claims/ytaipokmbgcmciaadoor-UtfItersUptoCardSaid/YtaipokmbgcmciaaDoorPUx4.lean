/- Contracts of functions that the law reaches: what each call answers, as a plain function of what it reads; on condition that the function answers there. Printed by this session's own tool. -/
import Derived.Test.YtaipokmbgcmciaaDoorPUx0
namespace Go.Proofs.YtaipokmbgcmciaaDoor.PU
open Go.RowKit Go.Proofs.YtaipokmbgcmciaaDoor.B Go.Proofs.YtaipokmbgcmciaaDoorW.PrintWords Go.Proofs.YtaipokmbgcmciaaDoorW.PrintLast Go.Proofs.YtaipokmbgcmciaaDoorW.PrintMore
attribute [local go_sem] max2_int min2_int max_two min_two max_three min_three max_four min_four   -- for this text's walks alone
set_option linter.unusedVariables false
set_option linter.unusedSimpArgs false

/-! ### thistleref01_char: function 53 -/
mutual
def thistleref01_char.j0 : Nat → ByteArray → Int → Int → Int → Int → Int → Option (Int × Int)
  | 0, _, _, _, _, _, _ => none
  | k + 1, x0, x1, x6, x7, x8, x9 => if x6 ≥ 240 then (thistleref01_char.j1 k x0 x1 x6 4 65536 (wrap64 (x6 - 240))) else (thistleref01_char.j1 k x0 x1 x6 x7 x8 x9)
def thistleref01_char.j1 : Nat → ByteArray → Int → Int → Int → Int → Int → Option (Int × Int)
  | 0, _, _, _, _, _, _ => none
  | k + 1, x0, x1, x6, x7, x8, x9 => if x6 < 192 then (thistleref01_char.j2 k x0 x1 x7 x8 x9 true) else (if x6 ≥ 248 then (thistleref01_char.j2 k x0 x1 x7 x8 x9 true) else (thistleref01_char.j2 k x0 x1 x7 x8 x9 (decide ((wrap64 (x1 + x7)) > (x0.size : Int)))))
def thistleref01_char.j2 : Nat → ByteArray → Int → Int → Int → Int → Bool → Option (Int × Int)
  | 0, _, _, _, _, _, _ => none
  | k + 1, x0, x1, x7, x8, x9, x43 => if x43 = true then (some (0, 0)) else (thistleref01_char.l0 k x0 x1 x7 x8 x9 1)
def thistleref01_char.l0 : Nat → ByteArray → Int → Int → Int → Int → Int → Option (Int × Int)
  | 0, _, _, _, _, _, _ => none
  | k + 1, x0, x1, x7, x8, x9, x10 => if x10 < x7 then (if 0 ≤ (wrap64 (x1 + x10)) then (if (wrap64 (x1 + x10)) < (x0.size : Int) then (if (wrap64 (bt x0 (wrap64 (x1 + x10)))) < 128 then (some (0, 0)) else (if (wrap64 (bt x0 (wrap64 (x1 + x10)))) > 191 then (some (0, 0)) else (thistleref01_char.l0 k x0 x1 x7 x8 (wrap64 ((wrap64 ((wrap64 (x9 * 64)) + (wrap64 (bt x0 (wrap64 (x1 + x10)))))) - 128)) (wrap64 (x10 + 1))))) else (none)) else (none)) else (if x9 < x8 then (some (0, 0)) else (if x9 > 1114111 then (some (0, 0)) else (if x9 ≥ 55296 then (if x9 ≤ 57343 then (some (0, 0)) else (some (wrap32 (x9), x7))) else (some (wrap32 (x9), x7)))))
end
def thistleref01_char.f (k : Nat) (a0 : ByteArray) (a1 : Int) : Option (Int × Int) := if 0 ≤ a1 then (if a1 < (a0.size : Int) then (if (wrap64 (bt a0 a1)) < 128 then (some (wrap32 (wrap64 (bt a0 a1)), 1)) else (if (wrap64 (bt a0 a1)) ≥ 224 then (thistleref01_char.j0 k a0 a1 (wrap64 (bt a0 a1)) 3 2048 (wrap64 ((wrap64 (bt a0 a1)) - 224))) else (thistleref01_char.j0 k a0 a1 (wrap64 (bt a0 a1)) 2 128 (wrap64 ((wrap64 (bt a0 a1)) - 192))))) else (none)) else (none)
theorem thistleref01_char.mono_l : ∀ k, (∀ y0 y1 y2 y3 y4 y5, LeO (thistleref01_char.j0 k y0 y1 y2 y3 y4 y5) (thistleref01_char.j0 (k + 1) y0 y1 y2 y3 y4 y5)) ∧ (∀ y0 y1 y2 y3 y4 y5, LeO (thistleref01_char.j1 k y0 y1 y2 y3 y4 y5) (thistleref01_char.j1 (k + 1) y0 y1 y2 y3 y4 y5)) ∧ (∀ y0 y1 y2 y3 y4 y5, LeO (thistleref01_char.j2 k y0 y1 y2 y3 y4 y5) (thistleref01_char.j2 (k + 1) y0 y1 y2 y3 y4 y5)) ∧ (∀ y0 y1 y2 y3 y4 y5, LeO (thistleref01_char.l0 k y0 y1 y2 y3 y4 y5) (thistleref01_char.l0 (k + 1) y0 y1 y2 y3 y4 y5))
  | 0 => ⟨fun _ _ _ _ _ _ r h => by simp [thistleref01_char.j0] at h, fun _ _ _ _ _ _ r h => by simp [thistleref01_char.j1] at h, fun _ _ _ _ _ _ r h => by simp [thistleref01_char.j2] at h, fun _ _ _ _ _ _ r h => by simp [thistleref01_char.l0] at h⟩
  | k + 1 => by
    obtain ⟨ih0, ih1, ih2, ih3⟩ := thistleref01_char.mono_l k
    refine ⟨?_, ?_, ?_, ?_⟩
    · intro y0 y1 y2 y3 y4 y5
      unfold thistleref01_char.j0
      repeat' first
      | (with_reducible exact ih0 _ _ _ _ _ _)
      | (with_reducible exact ih1 _ _ _ _ _ _)
      | (with_reducible exact ih2 _ _ _ _ _ _)
      | (with_reducible exact ih3 _ _ _ _ _ _)
      | (with_reducible exact LeO.refl _)
      | (with_reducible exact LeO.none _)
      | (with_reducible refine LeO.ite ?_ ?_)
      | (with_reducible refine LeO.bind ?_ (fun _ => ?_))
      | exact ih0 _ _ _ _ _ _
      | exact ih1 _ _ _ _ _ _
      | exact ih2 _ _ _ _ _ _
      | exact ih3 _ _ _ _ _ _
      | exact LeO.none _
      | refine LeO.ite ?_ ?_
      | refine LeO.bind ?_ (fun _ => ?_)
    · intro y0 y1 y2 y3 y4 y5
      unfold thistleref01_char.j1
      repeat' first
      | (with_reducible exact ih0 _ _ _ _ _ _)
      | (with_reducible exact ih1 _ _ _ _ _ _)
      | (with_reducible exact ih2 _ _ _ _ _ _)
      | (with_reducible exact ih3 _ _ _ _ _ _)
      | (with_reducible exact LeO.refl _)
      | (with_reducible exact LeO.none _)
      | (with_reducible refine LeO.ite ?_ ?_)
      | (with_reducible refine LeO.bind ?_ (fun _ => ?_))
      | exact ih0 _ _ _ _ _ _
      | exact ih1 _ _ _ _ _ _
      | exact ih2 _ _ _ _ _ _
      | exact ih3 _ _ _ _ _ _
      | exact LeO.none _
      | refine LeO.ite ?_ ?_
      | refine LeO.bind ?_ (fun _ => ?_)
    · intro y0 y1 y2 y3 y4 y5
      unfold thistleref01_char.j2
      repeat' first
      | (with_reducible exact ih0 _ _ _ _ _ _)
      | (with_reducible exact ih1 _ _ _ _ _ _)
      | (with_reducible exact ih2 _ _ _ _ _ _)
      | (with_reducible exact ih3 _ _ _ _ _ _)
      | (with_reducible exact LeO.refl _)
      | (with_reducible exact LeO.none _)
      | (with_reducible refine LeO.ite ?_ ?_)
      | (with_reducible refine LeO.bind ?_ (fun _ => ?_))
      | exact ih0 _ _ _ _ _ _
      | exact ih1 _ _ _ _ _ _
      | exact ih2 _ _ _ _ _ _
      | exact ih3 _ _ _ _ _ _
      | exact LeO.none _
      | refine LeO.ite ?_ ?_
      | refine LeO.bind ?_ (fun _ => ?_)
    · intro y0 y1 y2 y3 y4 y5
      unfold thistleref01_char.l0
      repeat' first
      | (with_reducible exact ih0 _ _ _ _ _ _)
      | (with_reducible exact ih1 _ _ _ _ _ _)
      | (with_reducible exact ih2 _ _ _ _ _ _)
      | (with_reducible exact ih3 _ _ _ _ _ _)
      | (with_reducible exact LeO.refl _)
      | (with_reducible exact LeO.none _)
      | (with_reducible refine LeO.ite ?_ ?_)
      | (with_reducible refine LeO.bind ?_ (fun _ => ?_))
      | exact ih0 _ _ _ _ _ _
      | exact ih1 _ _ _ _ _ _
      | exact ih2 _ _ _ _ _ _
      | exact ih3 _ _ _ _ _ _
      | exact LeO.none _
      | refine LeO.ite ?_ ?_
      | refine LeO.bind ?_ (fun _ => ?_)
theorem thistleref01_char.mono : ∀ a0 a1 k, LeO (thistleref01_char.f k a0 a1) (thistleref01_char.f (k + 1) a0 a1) := by
  intro a0 a1 k
  obtain ⟨ih0, ih1, ih2, ih3⟩ := thistleref01_char.mono_l k
  unfold thistleref01_char.f
  repeat' first
      | (with_reducible exact ih0 _ _ _ _ _ _)
      | (with_reducible exact ih1 _ _ _ _ _ _)
      | (with_reducible exact ih2 _ _ _ _ _ _)
      | (with_reducible exact ih3 _ _ _ _ _ _)
      | (with_reducible exact LeO.refl _)
      | (with_reducible exact LeO.none _)
      | (with_reducible refine LeO.ite ?_ ?_)
      | (with_reducible refine LeO.bind ?_ (fun _ => ?_))
      | exact ih0 _ _ _ _ _ _
      | exact ih1 _ _ _ _ _ _
      | exact ih2 _ _ _ _ _ _
      | exact ih3 _ _ _ _ _ _
      | exact LeO.none _
      | refine LeO.ite ?_ ?_
      | refine LeO.bind ?_ (fun _ => ?_)
set_option maxHeartbeats 8000000 in
set_option maxRecDepth 100000 in
theorem thistleref01_char.calls (k : Nat) (a0 : ByteArray) (a1 : Int) (r1 : Int) (r2 : Int) (w : World) (h : thistleref01_char.f k a0 a1 = some (r1, r2)) :
    Calls Tryd.prog 53 #[.string a0, .int .i64 a1] w fun e w' => e = .returned (.tuple #[.int .i32 r1, .int .i64 r2]) ∧ Drawn0 w w' := by
  have H : (if 0 ≤ a1 then (if a1 < (a0.size : Int) then (if (wrap64 (bt a0 a1)) < 128 then (some (wrap32 (wrap64 (bt a0 a1)), 1)) else (if (wrap64 (bt a0 a1)) ≥ 224 then (thistleref01_char.j0 k a0 a1 (wrap64 (bt a0 a1)) 3 2048 (wrap64 ((wrap64 (bt a0 a1)) - 224))) else (thistleref01_char.j0 k a0 a1 (wrap64 (bt a0 a1)) 2 128 (wrap64 ((wrap64 (bt a0 a1)) - 192))))) else (none)) else (none)) = some (r1, r2) := h
  clear h
  by_cases c3 : 0 ≤ a1
  · rw [if_pos c3] at H
    have c3b0 : decide (0 ≤ a1) = true := decide_eq_true c3
    clear c3
    by_cases c4 : a1 < (a0.size : Int)
    · rw [if_pos c4] at H
      have c4b0 : decide (a1 < (a0.size : Int)) = true := decide_eq_true c4
      clear c4
      by_cases c6 : (wrap64 (bt a0 a1)) < 128
      · rw [if_pos c6] at H
        have c6b0 : decide ((wrap64 (bt a0 a1)) < 128) = true := decide_eq_true c6
        clear c6
        simp only [Option.some.injEq, Prod.mk.injEq] at H
        obtain ⟨rfl, rfl⟩ := H
        have p5 : 0 ≤ (a1 : Int) := of_decide_eq_true (by first | (with_reducible assumption) | assumption)
        have q5 : a1 < (a0.size : Int) := of_decide_eq_true (by first | (with_reducible assumption) | assumption)
        have hx5 := bt_at a0 a1
        replace p5 := eq_true p5
        replace q5 := eq_true q5
        go_enter Tryd.func53, Tryd.ntmps53
        go_wp2
        go_ret2
        exact ⟨by first | rfl | (simp; done) | (simp [*]; done), by repeat (first | exact Drawn0.refl _ | apply Drawn0.step)⟩
      · rw [if_neg c6] at H
        have c6b0 : decide ((wrap64 (bt a0 a1)) < 128) = false := decide_eq_false c6
        clear c6
        have HC7 := Aside0.mk H
        clear H
        have p5 : 0 ≤ (a1 : Int) := of_decide_eq_true (by first | (with_reducible assumption) | assumption)
        have q5 : a1 < (a0.size : Int) := of_decide_eq_true (by first | (with_reducible assumption) | assumption)
        have hx5 := bt_at a0 a1
        replace p5 := eq_true p5
        replace q5 := eq_true q5
        go_enter Tryd.func53, Tryd.ntmps53
        go_upto_if 23 with (fail)
        go_cut [7, 8, 9] (fun v7 v8 v9 wc => ∃ (kq : Nat) (x7_6 : Int) (x8_6 : Int) (x9_6 : Int), v7 = .int .i64 x7_6 ∧ v8 = .int .i64 x8_6 ∧ v9 = .int .i64 x9_6 ∧ Aside0 (thistleref01_char.j0 kq a0 a1 (wrap64 (bt a0 a1)) x7_6 x8_6 x9_6 = some (r1, r2)) ∧ Aside0 (kq ≤ k) ∧ Drawn0 w wc)
        case first =>
          have H := HC7.out
          clear HC7
          by_cases c8 : (wrap64 (bt a0 a1)) ≥ 224
          · rw [if_pos c8] at H
            have c8b0 : decide (224 ≤ (wrap64 (bt a0 a1))) = true := decide_eq_true c8
            clear c8
            (first | rw [c8b0] | (simp only [i64_w, i32_w]; rw [c8b0]) | skip)
            have H' := Aside0.mk H
            clear H
            go_wp2
            go_meet
            case rel => exact ⟨_, (3), (2048), (wrap64 ((wrap64 (bt a0 a1)) - 224)), (by first | rfl | (simp; done) | (simp [*]; done)), (by first | rfl | (simp; done) | (simp [*]; done)), (by first | rfl | (simp; done) | (simp [*]; done)), H', ⟨by first | omega | exact Nat.le_refl _⟩, by repeat (first | exact Drawn0.refl _ | apply Drawn0.step)⟩
          · rw [if_neg c8] at H
            have c8b0 : decide (224 ≤ (wrap64 (bt a0 a1))) = false := decide_eq_false c8
            clear c8
            (first | rw [c8b0] | (simp only [i64_w, i32_w]; rw [c8b0]) | skip)
            have H' := Aside0.mk H
            clear H
            go_wp2
            go_meet
            case rel => exact ⟨_, (2), (128), (wrap64 ((wrap64 (bt a0 a1)) - 192)), (by first | rfl | (simp; done) | (simp [*]; done)), (by first | rfl | (simp; done) | (simp [*]; done)), (by first | rfl | (simp; done) | (simp [*]; done)), H', ⟨by first | omega | exact Nat.le_refl _⟩, by repeat (first | exact Drawn0.refl _ | apply Drawn0.step)⟩
        case rest =>
          clear HC7
          try clear p2
          try clear c3
          try clear c3b0
          try clear p3
          try clear c4
          try clear c4b0
          try clear c5
          try clear p5
          try clear q5
          try clear hx5
          try clear c6
          try clear c6b0
          try clear p6
          try clear c8
          try clear c8b0
          try clear p5
          try clear q5
          obtain ⟨kq, x7_6, x8_6, x9_6, rfl, rfl, rfl, HA, HJ6, ⟨mc6, rfl⟩⟩ := hcut
          cases kq with
          | zero => exact absurd HA.out (by simp [thistleref01_char.j0])
          | succ kj6 =>
            have H := HA.out
            clear HA
            simp only [thistleref01_char.j0] at H
            have HC9 := Aside0.mk H
            clear H
            go_upto_if 27 with (fail)
            go_cut [7, 8, 9] (fun v7 v8 v9 wc => ∃ (kq : Nat) (x7_8 : Int) (x8_8 : Int) (x9_8 : Int), v7 = .int .i64 x7_8 ∧ v8 = .int .i64 x8_8 ∧ v9 = .int .i64 x9_8 ∧ Aside0 (thistleref01_char.j1 kq a0 a1 (wrap64 (bt a0 a1)) x7_8 x8_8 x9_8 = some (r1, r2)) ∧ Aside0 (kq ≤ kj6) ∧ Drawn0 w wc)
            case first =>
              have H := HC9.out
              clear HC9
              by_cases c10 : (wrap64 (bt a0 a1)) ≥ 240
              · rw [if_pos c10] at H
                have c10b0 : decide (240 ≤ (wrap64 (bt a0 a1))) = true := decide_eq_true c10
                clear c10
                (first | rw [c10b0] | (simp only [i64_w, i32_w]; rw [c10b0]) | skip)
                have H' := Aside0.mk H
                clear H
                go_wp2
                go_meet
                case rel => exact ⟨_, (4), (65536), (wrap64 ((wrap64 (bt a0 a1)) - 240)), (by first | rfl | (simp; done) | (simp [*]; done)), (by first | rfl | (simp; done) | (simp [*]; done)), (by first | rfl | (simp; done) | (simp [*]; done)), H', ⟨by have := HJ6.out; first | omega | exact Nat.le_refl _⟩, by repeat (first | exact Drawn0.refl _ | apply Drawn0.step)⟩
              · rw [if_neg c10] at H
                have c10b0 : decide (240 ≤ (wrap64 (bt a0 a1))) = false := decide_eq_false c10
                clear c10
                (first | rw [c10b0] | (simp only [i64_w, i32_w]; rw [c10b0]) | skip)
                have H' := Aside0.mk H
                clear H
                go_wp2
                go_meet
                case rel => exact ⟨_, (x7_6), (x8_6), (x9_6), (by first | rfl | (simp; done) | (simp [*]; done)), (by first | rfl | (simp; done) | (simp [*]; done)), (by first | rfl | (simp; done) | (simp [*]; done)), H', ⟨by have := HJ6.out; first | omega | exact Nat.le_refl _⟩, by repeat (first | exact Drawn0.refl _ | apply Drawn0.step)⟩
            case rest =>
              clear HC9
              try clear c1
              try clear p2
              try clear c3
              try clear c3b0
              try clear p3
              try clear c4
              try clear c4b0
              try clear c5
              try clear p5
              try clear q5
              try clear hx5
              try clear c6
              try clear c6b0
              try clear p6
              try clear c8
              try clear c8b0
              try clear c10
              try clear c10b0
              try clear p2
              try clear p3
              try clear p5
              try clear p6
              try clear q5
              obtain ⟨kq, x7_8, x8_8, x9_8, rfl, rfl, rfl, HA, HJ8, ⟨mc8, rfl⟩⟩ := hcut
              cases kq with
              | zero => exact absurd HA.out (by simp [thistleref01_char.j1])
              | succ kj8 =>
                have H := HA.out
                clear HA
                simp only [thistleref01_char.j1] at H
                have HC11 := Aside0.mk H
                clear H
                go_upto_region 12 with (fail)
                go_cut [43] (fun v43 wc => ∃ (kq : Nat) (x43_10 : Bool), v43 = .bool x43_10 ∧ Aside0 (thistleref01_char.j2 kq a0 a1 x7_8 x8_8 x9_8 x43_10 = some (r1, r2)) ∧ Aside0 (kq ≤ kj8) ∧ Drawn0 w wc)
                case first =>
                  have H := HC11.out
                  clear HC11
                  by_cases c12 : (wrap64 (bt a0 a1)) < 192
                  · rw [if_pos c12] at H
                    have c12b0 : decide ((wrap64 (bt a0 a1)) < 192) = true := decide_eq_true c12
                    clear c12
                    (first | rw [c12b0] | (simp only [i64_w, i32_w]; rw [c12b0]) | skip)
                    have H' := Aside0.mk H
                    clear H
                    go_wp2
                    go_meet
                    case rel => exact ⟨_, (true), (by first | rfl | (simp; done) | (simp [*]; done)), H', ⟨by have := HJ6.out; have := HJ8.out; first | omega | exact Nat.le_refl _⟩, by repeat (first | exact Drawn0.refl _ | apply Drawn0.step)⟩
                  · rw [if_neg c12] at H
                    have c12b0 : decide ((wrap64 (bt a0 a1)) < 192) = false := decide_eq_false c12
                    clear c12
                    (first | rw [c12b0] | (simp only [i64_w, i32_w]; rw [c12b0]) | skip)
                    by_cases c13 : (wrap64 (bt a0 a1)) ≥ 248
                    · rw [if_pos c13] at H
                      have c13b0 : decide (248 ≤ (wrap64 (bt a0 a1))) = true := decide_eq_true c13
                      clear c13
                      have H' := Aside0.mk H
                      clear H
                      go_wp2
                      go_meet
                      case rel => exact ⟨_, (true), (by first | rfl | (simp; done) | (simp [*]; done)), H', ⟨by have := HJ6.out; have := HJ8.out; first | omega | exact Nat.le_refl _⟩, by repeat (first | exact Drawn0.refl _ | apply Drawn0.step)⟩
                    · rw [if_neg c13] at H
                      have c13b0 : decide (248 ≤ (wrap64 (bt a0 a1))) = false := decide_eq_false c13
                      clear c13
                      have H' := Aside0.mk H
                      clear H
                      go_wp2
                      go_meet
                      case rel => exact ⟨_, (decide ((wrap64 (a1 + x7_8)) > (a0.size : Int))), (by first | rfl | (simp; done) | (simp [*]; done)), H', ⟨by have := HJ6.out; have := HJ8.out; first | omega | exact Nat.le_refl _⟩, by repeat (first | exact Drawn0.refl _ | apply Drawn0.step)⟩
                case rest =>
                  clear HC11
                  try clear c1
                  try clear p2
                  try clear c3
                  try clear c3b0
                  try clear p3
                  try clear c4
                  try clear c4b0
                  try clear c5
                  try clear p5
                  try clear q5
                  try clear hx5
                  try clear c6
                  try clear c6b0
                  try clear p6
                  try clear c8
                  try clear c8b0
                  try clear c10
                  try clear c10b0
                  try clear c12
                  try clear c12b0
                  try clear c13
                  try clear c13b0
                  try clear p2
                  try clear p3
                  try clear p5
                  try clear p6
                  try clear q5
                  obtain ⟨kq, x43_10, rfl, HA, HJ10, ⟨mc10, rfl⟩⟩ := hcut
                  cases kq with
                  | zero => exact absurd HA.out (by simp [thistleref01_char.j2])
                  | succ kj10 =>
                    have H := HA.out
                    clear HA
                    simp only [thistleref01_char.j2] at H
                    by_cases c14 : x43_10 = true
                    · subst c14
                      have H1 : (some (0, 0)) = some (r1, r2) := by rw [if_pos rfl] at H; exact H
                      clear H
                      have H := H1
                      clear H1
                      simp only [Option.some.injEq, Prod.mk.injEq] at H
                      obtain ⟨rfl, rfl⟩ := H
                      go_wp2
                      go_ret2
                      exact ⟨by first | rfl | (simp; done) | (simp [*]; done), by repeat (first | exact Drawn0.refl _ | apply Drawn0.step)⟩
                    · replace c14 := Bool.eq_false_iff.mpr c14
                      subst c14
                      have H1 : (thistleref01_char.l0 kj10 a0 a1 x7_8 x8_8 x9_8 1) = some (r1, r2) := by rw [if_neg (show ¬ (false = true) by decide)] at H; exact H
                      clear H
                      have H := H1
                      clear H1
                      have H' := Aside0.mk H
                      clear H
                      go_wp2
                      go_loopg [9, 10] kj10 (fun kq v9 v10 w' => ∃ (x9_4 : Int) (x10_4 : Int), v9 = .int .i64 x9_4 ∧ v10 = .int .i64 x10_4 ∧ Aside0 (thistleref01_char.l0 kq a0 a1 x7_8 x8_8 x9_4 x10_4 = some (r1, r2)) ∧ Aside0 (kq ≤ kj10) ∧ Drawn0 w w')
                      case atStart => exact ⟨(x9_8), (1), (by first | rfl | (simp; done) | (simp [*]; done)), (by first | rfl | (simp; done) | (simp [*]; done)), H', ⟨Nat.le_refl _⟩, by repeat (first | exact Drawn0.refl _ | apply Drawn0.step)⟩
                      case round =>
                        clear H'
                        try clear c1
                        try clear p2
                        try clear c3
                        try clear c3b0
                        try clear p3
                        try clear c4
                        try clear c4b0
                        try clear c5
                        try clear p5
                        try clear q5
                        try clear hx5
                        try clear c6
                        try clear c6b0
                        try clear p6
                        try clear c8
                        try clear c8b0
                        try clear c10
                        try clear c10b0
                        try clear c12
                        try clear c12b0
                        try clear c13
                        try clear c13b0
                        try clear c14
                        try clear p2
                        try clear p3
                        try clear p5
                        try clear p6
                        try clear q5
                        obtain ⟨x9_4, x10_4, rfl, rfl, HA, HK4, ⟨m4, rfl⟩⟩ := hrel
                        cases gk with
                        | zero => exact absurd HA.out (by simp [thistleref01_char.l0])
                        | succ k4 =>
                          have H := HA.out
                          clear HA
                          simp only [thistleref01_char.l0] at H
                          by_cases c15 : x10_4 < x7_8
                          · rw [if_pos c15] at H
                            have c15b0 : decide (x10_4 < x7_8) = true := decide_eq_true c15
                            clear c15
                            obtain ⟨ji16, hji16⟩ : ∃ j_ : Int, (wrap64 (a1 + x10_4)) = j_ := ⟨_, rfl⟩
                            replace H : (if 0 ≤ (ji16) then (if (ji16) < (a0.size : Int) then (if (wrap64 (bt a0 (ji16))) < 128 then (some (0, 0)) else (if (wrap64 (bt a0 (ji16))) > 191 then (some (0, 0)) else (thistleref01_char.l0 k4 a0 a1 x7_8 x8_8 (wrap64 ((wrap64 ((wrap64 (x9_4 * 64)) + (wrap64 (bt a0 (ji16))))) - 128)) (wrap64 (x10_4 + 1))))) else (none)) else (none)) = some (r1, r2) := by first | (rw [hji16] at H; exact H) | (simp only [hji16] at H ⊢; exact H)
                            have hji16w : (IntKind.i64.wrap (a1 + x10_4)) = ji16 := (i64_w _).trans hji16
                            by_cases c17 : 0 ≤ (ji16)
                            · rw [if_pos c17] at H
                              have c17b0 : decide (0 ≤ (ji16)) = true := decide_eq_true c17
                              clear c17
                              by_cases c18 : (ji16) < (a0.size : Int)
                              · rw [if_pos c18] at H
                                have c18b0 : decide ((ji16) < (a0.size : Int)) = true := decide_eq_true c18
                                clear c18
                                by_cases c20 : (wrap64 (bt a0 (ji16))) < 128
                                · rw [if_pos c20] at H
                                  have c20b0 : decide ((wrap64 (bt a0 (ji16))) < 128) = true := decide_eq_true c20
                                  clear c20
                                  simp only [Option.some.injEq, Prod.mk.injEq] at H
                                  obtain ⟨rfl, rfl⟩ := H
                                  have p19 : 0 ≤ ((ji16) : Int) := of_decide_eq_true (by first | (with_reducible assumption) | assumption)
                                  have q19 : (ji16) < (a0.size : Int) := of_decide_eq_true (by first | (with_reducible assumption) | assumption)
                                  have hx19 := bt_at a0 (ji16)
                                  replace p19 := eq_true p19
                                  replace q19 := eq_true q19
                                  go_wp2
                                  go_ret2
                                  exact ⟨by first | rfl | (simp; done) | (simp only [← hji16] <;> (first | rfl | simp)) | (simp [*]; done), by repeat (first | exact Drawn0.refl _ | apply Drawn0.step)⟩
                                · rw [if_neg c20] at H
                                  have c20b0 : decide ((wrap64 (bt a0 (ji16))) < 128) = false := decide_eq_false c20
                                  clear c20
                                  by_cases c21 : (wrap64 (bt a0 (ji16))) > 191
                                  · rw [if_pos c21] at H
                                    have c21b0 : decide (191 < (wrap64 (bt a0 (ji16)))) = true := decide_eq_true c21
                                    clear c21
                                    simp only [Option.some.injEq, Prod.mk.injEq] at H
                                    obtain ⟨rfl, rfl⟩ := H
                                    have p19 : 0 ≤ ((ji16) : Int) := of_decide_eq_true (by first | (with_reducible assumption) | assumption)
                                    have q19 : (ji16) < (a0.size : Int) := of_decide_eq_true (by first | (with_reducible assumption) | assumption)
                                    have hx19 := bt_at a0 (ji16)
                                    replace p19 := eq_true p19
                                    replace q19 := eq_true q19
                                    go_wp2
                                    go_ret2
                                    exact ⟨by first | rfl | (simp; done) | (simp only [← hji16] <;> (first | rfl | simp)) | (simp [*]; done), by repeat (first | exact Drawn0.refl _ | apply Drawn0.step)⟩
                                  · rw [if_neg c21] at H
                                    have c21b0 : decide (191 < (wrap64 (bt a0 (ji16)))) = false := decide_eq_false c21
                                    clear c21
                                    have H' := Aside0.mk H
                                    clear H
                                    have p19 : 0 ≤ ((ji16) : Int) := of_decide_eq_true (by first | (with_reducible assumption) | assumption)
                                    have q19 : (ji16) < (a0.size : Int) := of_decide_eq_true (by first | (with_reducible assumption) | assumption)
                                    have hx19 := bt_at a0 (ji16)
                                    replace p19 := eq_true p19
                                    replace q19 := eq_true q19
                                    go_wp2
                                    go_roundg k4
                                    case measure => have := HJ6.out; have := HJ8.out; have := HJ10.out; have := HK4.out; omega
                                    case rel => exact ⟨(wrap64 ((wrap64 ((wrap64 (x9_4 * 64)) + (wrap64 (bt a0 (ji16))))) - 128)), (wrap64 (x10_4 + 1)), (by first | rfl | (simp; done) | (simp only [← hji16] <;> (first | rfl | simp)) | (simp [*]; done)), (by first | rfl | (simp; done) | (simp [*]; done)), H', ⟨by have := HJ6.out; have := HJ8.out; have := HJ10.out; have := HK4.out; omega⟩, by repeat (first | exact Drawn0.refl _ | apply Drawn0.step)⟩
                              · rw [if_neg c18] at H
                                exact absurd H (by simp)
                            · rw [if_neg c17] at H
                              exact absurd H (by simp)
                          · rw [if_neg c15] at H
                            have c15b0 : decide (x10_4 < x7_8) = false := decide_eq_false c15
                            clear c15
                            by_cases c22 : x9_4 < x8_8
                            · rw [if_pos c22] at H
                              have c22b0 : decide (x9_4 < x8_8) = true := decide_eq_true c22
                              clear c22
                              simp only [Option.some.injEq, Prod.mk.injEq] at H
                              obtain ⟨rfl, rfl⟩ := H
                              go_wp2
                              go_ret2
                              exact ⟨by first | rfl | (simp; done) | (simp [*]; done), by repeat (first | exact Drawn0.refl _ | apply Drawn0.step)⟩
                            · rw [if_neg c22] at H
                              have c22b0 : decide (x9_4 < x8_8) = false := decide_eq_false c22
                              clear c22
                              by_cases c23 : x9_4 > 1114111
                              · rw [if_pos c23] at H
                                have c23b0 : decide (1114111 < x9_4) = true := decide_eq_true c23
                                clear c23
                                simp only [Option.some.injEq, Prod.mk.injEq] at H
                                obtain ⟨rfl, rfl⟩ := H
                                go_wp2
                                go_ret2
                                exact ⟨by first | rfl | (simp; done) | (simp [*]; done), by repeat (first | exact Drawn0.refl _ | apply Drawn0.step)⟩
                              · rw [if_neg c23] at H
                                have c23b0 : decide (1114111 < x9_4) = false := decide_eq_false c23
                                clear c23
                                by_cases c24 : x9_4 ≥ 55296
                                · rw [if_pos c24] at H
                                  have c24b0 : decide (55296 ≤ x9_4) = true := decide_eq_true c24
                                  clear c24
                                  by_cases c25 : x9_4 ≤ 57343
                                  · rw [if_pos c25] at H
                                    have c25b0 : decide (x9_4 ≤ 57343) = true := decide_eq_true c25
                                    clear c25
                                    simp only [Option.some.injEq, Prod.mk.injEq] at H
                                    obtain ⟨rfl, rfl⟩ := H
                                    go_wp2
                                    go_ret2
                                    exact ⟨by first | rfl | (simp; done) | (simp [*]; done), by repeat (first | exact Drawn0.refl _ | apply Drawn0.step)⟩
                                  · rw [if_neg c25] at H
                                    have c25b0 : decide (x9_4 ≤ 57343) = false := decide_eq_false c25
                                    clear c25
                                    simp only [Option.some.injEq, Prod.mk.injEq] at H
                                    obtain ⟨rfl, rfl⟩ := H
                                    go_wp2
                                    go_ret2
                                    exact ⟨by first | rfl | (simp; done) | (simp [*]; done), by repeat (first | exact Drawn0.refl _ | apply Drawn0.step)⟩
                                · rw [if_neg c24] at H
                                  have c24b0 : decide (55296 ≤ x9_4) = false := decide_eq_false c24
                                  clear c24
                                  simp only [Option.some.injEq, Prod.mk.injEq] at H
                                  obtain ⟨rfl, rfl⟩ := H
                                  go_wp2
                                  go_ret2
                                  exact ⟨by first | rfl | (simp; done) | (simp [*]; done), by repeat (first | exact Drawn0.refl _ | apply Drawn0.step)⟩
    · rw [if_neg c4] at H
      exact absurd H (by simp)
  · rw [if_neg c3] at H
    exact absurd H (by simp)

/-! ### thistleref01_unit: function 42 -/
def thistleref01_unit.f (k : Nat) (a0 : ByteArray) (a1 : Int) : Option (Int × Int) := (thistleref01_char.f k a0 a1).bind fun bt133 => (if bt133.2 = 0 then (if 0 ≤ a1 then (if a1 < (a0.size : Int) then (some (wrap32 (wrap64 (1114112 + (wrap64 (bt a0 a1)))), 1)) else (none)) else (none)) else (some (bt133.1, bt133.2)))
theorem thistleref01_unit.mono : ∀ a0 a1 k, LeO (thistleref01_unit.f k a0 a1) (thistleref01_unit.f (k + 1) a0 a1) := by
  intro a0 a1 k
  unfold thistleref01_unit.f
  repeat' first
      | (with_reducible exact thistleref01_char.mono _ _ _)
      | (with_reducible exact LeO.refl _)
      | (with_reducible exact LeO.none _)
      | (with_reducible refine LeO.ite ?_ ?_)
      | (with_reducible refine LeO.bind ?_ (fun _ => ?_))
      | exact thistleref01_char.mono _ _ _
      | exact LeO.none _
      | refine LeO.ite ?_ ?_
      | refine LeO.bind ?_ (fun _ => ?_)
set_option maxHeartbeats 8000000 in
set_option maxRecDepth 100000 in
theorem thistleref01_unit.calls (k : Nat) (a0 : ByteArray) (a1 : Int) (r1 : Int) (r2 : Int) (w : World) (h : thistleref01_unit.f k a0 a1 = some (r1, r2)) :
    Calls Tryd.prog 42 #[.string a0, .int .i64 a1] w fun e w' => e = .returned (.tuple #[.int .i32 r1, .int .i64 r2]) ∧ Drawn0 w w' := by
  have H : ((thistleref01_char.f k a0 a1).bind fun bt133 => (if bt133.2 = 0 then (if 0 ≤ a1 then (if a1 < (a0.size : Int) then (some (wrap32 (wrap64 (1114112 + (wrap64 (bt a0 a1)))), 1)) else (none)) else (none)) else (some (bt133.1, bt133.2)))) = some (r1, r2) := h
  clear h
  replace H := Option.bind_eq_some_iff.mp H
  obtain ⟨⟨t133, t134⟩, A30, H⟩ := H
  replace H : (if t134 = 0 then (if 0 ≤ a1 then (if a1 < (a0.size : Int) then (some (wrap32 (wrap64 (1114112 + (wrap64 (bt a0 a1)))), 1)) else (none)) else (none)) else (some (t133, t134))) = some (r1, r2) := H
  have A3 := Aside0.mk A30
  clear A30
  by_cases c4 : t134 = 0
  · rw [if_pos c4] at H
    have c4b0 : (t134 == 0) = true := beq_iff_eq.mpr c4
    have c4b1 : (t134 != 0) = false := bne_eq_false_iff_eq.mpr c4
    clear c4
    by_cases c5 : 0 ≤ a1
    · rw [if_pos c5] at H
      have c5b0 : decide (0 ≤ a1) = true := decide_eq_true c5
      clear c5
      by_cases c6 : a1 < (a0.size : Int)
      · rw [if_pos c6] at H
        have c6b0 : decide (a1 < (a0.size : Int)) = true := decide_eq_true c6
        clear c6
        simp only [Option.some.injEq, Prod.mk.injEq] at H
        obtain ⟨rfl, rfl⟩ := H
        go_enter Tryd.func42, Tryd.ntmps42
        go_wp2_with (first | ((with_reducible refine gate_callee (f := 53) rfl ?_); refine goesL_ (some 11) rfl rfl Tryd.func53 (by kernel_rfl) rfl #[.string a0, .int .i64 a1] rfl (by (try simp only [List.map_toArray, List.map_cons, List.map_nil]); first | done | rfl | (simp only [List.length_drop, List.length_take]; rfl)) ?_; (with_reducible refine (thistleref01_char.calls k a0 a1 t133 t134 _ A3.out).mono ?_); rintro e w' ⟨rfl, ⟨nd, rfl⟩⟩; refine ⟨_, rfl, ?_⟩; have p7 : 0 ≤ (a1 : Int) := of_decide_eq_true (by first | (with_reducible assumption) | assumption); have q7 : a1 < (a0.size : Int) := of_decide_eq_true (by first | (with_reducible assumption) | assumption); have hx7 := bt_at a0 a1; replace p7 := eq_true p7; replace q7 := eq_true q7))
        go_ret2
        exact ⟨by first | rfl | (simp; done) | (simp [*]; done), by repeat (first | exact Drawn0.refl _ | apply Drawn0.step)⟩
      · rw [if_neg c6] at H
        exact absurd H (by simp)
    · rw [if_neg c5] at H
      exact absurd H (by simp)
  · rw [if_neg c4] at H
    have c4b0 : (t134 == 0) = false := beq_eq_false_iff_ne.mpr c4
    have c4b1 : (t134 != 0) = true := bne_iff_ne.mpr c4
    simp only [Option.some.injEq, Prod.mk.injEq] at H
    obtain ⟨rfl, rfl⟩ := H
    go_enter Tryd.func42, Tryd.ntmps42
    go_wp2_with (first | ((with_reducible refine gate_callee (f := 53) rfl ?_); refine goesL_ (some 11) rfl rfl Tryd.func53 (by kernel_rfl) rfl #[.string a0, .int .i64 a1] rfl (by (try simp only [List.map_toArray, List.map_cons, List.map_nil]); first | done | rfl | (simp only [List.length_drop, List.length_take]; rfl)) ?_; (with_reducible refine (thistleref01_char.calls k a0 a1 t133 t134 _ A3.out).mono ?_); rintro e w' ⟨rfl, ⟨nd, rfl⟩⟩; refine ⟨_, rfl, ?_⟩))
    go_ret2
    exact ⟨by first | rfl | (simp; done) | (simp [*]; done), by repeat (first | exact Drawn0.refl _ | apply Drawn0.step)⟩

/-! ### thistleref01_Next: function 26 -/
def thistleref01_Next.j0 : Nat → ByteArray → Int → Bool → Option (Int × Int × Int)
  | 0, _, _, _ => none
  | k + 1, x0, x1, x16 => if x16 = true then (some (0, 0, 3)) else (if x1 = (x0.size : Int) then (some (0, 0, 7)) else ((thistleref01_unit.f k x0 x1).bind fun bt135 => (some (bt135.1, bt135.2, 0))))
def thistleref01_Next.f (k : Nat) (a0 : ByteArray) (a1 : Int) : Option (Int × Int × Int) := if a1 < 0 then (thistleref01_Next.j0 k a0 a1 true) else (thistleref01_Next.j0 k a0 a1 (decide (a1 > (a0.size : Int))))
theorem thistleref01_Next.mono_l : ∀ k, (∀ y0 y1 y2, LeO (thistleref01_Next.j0 k y0 y1 y2) (thistleref01_Next.j0 (k + 1) y0 y1 y2))
  | 0 => fun _ _ _ r h => by simp [thistleref01_Next.j0] at h
  | k + 1 => by
    have ih0 := thistleref01_Next.mono_l k
    · intro y0 y1 y2
      unfold thistleref01_Next.j0
      repeat' first
      | (with_reducible exact ih0 _ _ _)
      | (with_reducible exact thistleref01_unit.mono _ _ _)
      | (with_reducible exact LeO.refl _)
      | (with_reducible exact LeO.none _)
      | (with_reducible refine LeO.ite ?_ ?_)
      | (with_reducible refine LeO.bind ?_ (fun _ => ?_))
      | exact ih0 _ _ _
      | exact thistleref01_unit.mono _ _ _
      | exact LeO.none _
      | refine LeO.ite ?_ ?_
      | refine LeO.bind ?_ (fun _ => ?_)
theorem thistleref01_Next.mono : ∀ a0 a1 k, LeO (thistleref01_Next.f k a0 a1) (thistleref01_Next.f (k + 1) a0 a1) := by
  intro a0 a1 k
  have ih0 := thistleref01_Next.mono_l k
  unfold thistleref01_Next.f
  repeat' first
      | (with_reducible exact ih0 _ _ _)
      | (with_reducible exact thistleref01_unit.mono _ _ _)
      | (with_reducible exact LeO.refl _)
      | (with_reducible exact LeO.none _)
      | (with_reducible refine LeO.ite ?_ ?_)
      | (with_reducible refine LeO.bind ?_ (fun _ => ?_))
      | exact ih0 _ _ _
      | exact thistleref01_unit.mono _ _ _
      | exact LeO.none _
      | refine LeO.ite ?_ ?_
      | refine LeO.bind ?_ (fun _ => ?_)
set_option maxHeartbeats 8000000 in
set_option maxRecDepth 100000 in
theorem thistleref01_Next.calls (k : Nat) (a0 : ByteArray) (a1 : Int) (r1 : Int) (r2 : Int) (r3 : Int) (w : World) (h : thistleref01_Next.f k a0 a1 = some (r1, r2, r3)) :
    Calls Tryd.prog 26 #[.string a0, .int .i64 a1] w fun e w' => e = .returned (.tuple #[.int .i32 r1, .int .i64 r2, .int .i64 r3]) ∧ Drawn0 w w' := by
  have H : (if a1 < 0 then (thistleref01_Next.j0 k a0 a1 true) else (thistleref01_Next.j0 k a0 a1 (decide (a1 > (a0.size : Int))))) = some (r1, r2, r3) := h
  clear h
  have HC3 := Aside0.mk H
  clear H
  go_enter Tryd.func26, Tryd.ntmps26
  go_upto_region 1 with (fail)
  go_cut [16] (fun v16 wc => ∃ (kq : Nat) (x16_2 : Bool), v16 = .bool x16_2 ∧ Aside0 (thistleref01_Next.j0 kq a0 a1 x16_2 = some (r1, r2, r3)) ∧ Aside0 (kq ≤ k) ∧ Drawn0 w wc)
  case first =>
    have H := HC3.out
    clear HC3
    by_cases c4 : a1 < 0
    · rw [if_pos c4] at H
      have c4b0 : decide (a1 < 0) = true := decide_eq_true c4
      clear c4
      (first | rw [c4b0] | (simp only [i64_w, i32_w]; rw [c4b0]) | skip)
      have H' := Aside0.mk H
      clear H
      go_wp2
      go_meet
      case rel => exact ⟨_, (true), (by first | rfl | (simp; done) | (simp [*]; done)), H', ⟨by first | omega | exact Nat.le_refl _⟩, by repeat (first | exact Drawn0.refl _ | apply Drawn0.step)⟩
    · rw [if_neg c4] at H
      have c4b0 : decide (a1 < 0) = false := decide_eq_false c4
      clear c4
      (first | rw [c4b0] | (simp only [i64_w, i32_w]; rw [c4b0]) | skip)
      have H' := Aside0.mk H
      clear H
      go_wp2
      go_meet
      case rel => exact ⟨_, (decide (a1 > (a0.size : Int))), (by first | rfl | (simp; done) | (simp [*]; done)), H', ⟨by first | omega | exact Nat.le_refl _⟩, by repeat (first | exact Drawn0.refl _ | apply Drawn0.step)⟩
  case rest =>
    clear HC3
    try clear c2
    try clear p2
    try clear c4
    try clear c4b0
    obtain ⟨kq, x16_2, rfl, HA, HJ2, ⟨mc2, rfl⟩⟩ := hcut
    cases kq with
    | zero => exact absurd HA.out (by simp [thistleref01_Next.j0])
    | succ kj2 =>
      have H := HA.out
      clear HA
      simp only [thistleref01_Next.j0] at H
      by_cases c5 : x16_2 = true
      · subst c5
        have H1 : (some (0, 0, 3)) = some (r1, r2, r3) := by rw [if_pos rfl] at H; exact H
        clear H
        have H := H1
        clear H1
        simp only [Option.some.injEq, Prod.mk.injEq] at H
        obtain ⟨rfl, rfl, rfl⟩ := H
        go_wp2
        go_ret3
        exact ⟨by first | rfl | (simp; done) | (simp [*]; done), by repeat (first | exact Drawn0.refl _ | apply Drawn0.step)⟩
      · replace c5 := Bool.eq_false_iff.mpr c5
        subst c5
        have H1 : (if a1 = (a0.size : Int) then (some (0, 0, 7)) else ((thistleref01_unit.f kj2 a0 a1).bind fun bt135 => (some (bt135.1, bt135.2, 0)))) = some (r1, r2, r3) := by rw [if_neg (show ¬ (false = true) by decide)] at H; exact H
        clear H
        have H := H1
        clear H1
        by_cases c6 : a1 = (a0.size : Int)
        · rw [if_pos c6] at H
          have c6b0 : (a1 == (a0.size : Int)) = true := beq_iff_eq.mpr c6
          have c6b1 : (a1 != (a0.size : Int)) = false := bne_eq_false_iff_eq.mpr c6
          clear c6
          simp only [Option.some.injEq, Prod.mk.injEq] at H
          obtain ⟨rfl, rfl, rfl⟩ := H
          go_wp2
          go_ret3
          exact ⟨by first | rfl | (simp; done) | (simp [*]; done), by repeat (first | exact Drawn0.refl _ | apply Drawn0.step)⟩
        · rw [if_neg c6] at H
          have c6b0 : (a1 == (a0.size : Int)) = false := beq_eq_false_iff_ne.mpr c6
          have c6b1 : (a1 != (a0.size : Int)) = true := bne_iff_ne.mpr c6
          replace H := Option.bind_eq_some_iff.mp H
          obtain ⟨⟨t135, t136⟩, A70, H⟩ := H
          replace H : (some (t135, t136, 0)) = some (r1, r2, r3) := H
          have A7 := Aside0.mk A70
          clear A70
          simp only [Option.some.injEq, Prod.mk.injEq] at H
          obtain ⟨rfl, rfl, rfl⟩ := H
          go_wp2_with (first | ((with_reducible refine gate_callee (f := 42) rfl ?_); refine goesL_ (some 24) rfl rfl Tryd.func42 (by kernel_rfl) rfl #[.string a0, .int .i64 a1] rfl (by (try simp only [List.map_toArray, List.map_cons, List.map_nil]); first | done | rfl | (simp only [List.length_drop, List.length_take]; rfl)) ?_; (with_reducible refine (thistleref01_unit.calls kj2 a0 a1 t135 t136 _ A7.out).mono ?_); rintro e w' ⟨rfl, ⟨nd, rfl⟩⟩; refine ⟨_, rfl, ?_⟩))
          go_ret3
          exact ⟨by first | rfl | (simp; done) | (simp [*]; done), by repeat (first | exact Drawn0.refl _ | apply Drawn0.step)⟩

end Go.Proofs.YtaipokmbgcmciaaDoor.PU
