/- Contracts of functions that the law reaches: what each call answers, as a plain function of what it reads; on condition that the function answers there. Printed by this session's own tool. -/
import Derived.Test.YtaipokmbgcmciaaDoorPUx0
import Derived.Test.YtaipokmbgcmciaaDoorPUx1
namespace Go.Proofs.YtaipokmbgcmciaaDoor.PU
open Go.RowKit Go.Proofs.YtaipokmbgcmciaaDoor.B Go.Proofs.YtaipokmbgcmciaaDoorW.PrintWords Go.Proofs.YtaipokmbgcmciaaDoorW.PrintLast Go.Proofs.YtaipokmbgcmciaaDoorW.PrintMore
attribute [local go_sem] max2_int min2_int max_two min_two max_three min_three max_four min_four   -- for this text's walks alone
set_option linter.unusedVariables false
set_option linter.unusedSimpArgs false

/-! ### thistleref01_Same: function 45 -/
def thistleref01_Same.l0 : Nat → List Int → List Int → Int → Option (Bool)
  | 0, _, _, _ => none
  | k + 1, x0, x1, x5 => if x5 < (x0.length : Int) then (if 0 ≤ x5 then (if x5 < (x1.length : Int) then (if (rd x0 x5) = (rd x1 x5) then (thistleref01_Same.l0 k x0 x1 (wrap64 (x5 + 1))) else (some false)) else (none)) else (none)) else (some true)
def thistleref01_Same.f (k : Nat) (l0 : List Int) (l1 : List Int) : Option (Bool) := if (l0.length : Int) = (l1.length : Int) then (thistleref01_Same.l0 k l0 l1 0) else (some false)
theorem thistleref01_Same.mono_l : ∀ k, (∀ y0 y1 y2, LeO (thistleref01_Same.l0 k y0 y1 y2) (thistleref01_Same.l0 (k + 1) y0 y1 y2))
  | 0 => fun _ _ _ r h => by simp [thistleref01_Same.l0] at h
  | k + 1 => by
    have ih0 := thistleref01_Same.mono_l k
    · intro y0 y1 y2
      unfold thistleref01_Same.l0
      repeat' first
      | (with_reducible exact ih0 _ _ _)
      | (with_reducible exact LeO.refl _)
      | (with_reducible exact LeO.none _)
      | (with_reducible refine LeO.ite ?_ ?_)
      | (with_reducible refine LeO.bind ?_ (fun _ => ?_))
      | exact ih0 _ _ _
      | exact LeO.none _
      | refine LeO.ite ?_ ?_
      | refine LeO.bind ?_ (fun _ => ?_)
theorem thistleref01_Same.mono : ∀ a0 a1 k, LeO (thistleref01_Same.f k a0 a1) (thistleref01_Same.f (k + 1) a0 a1) := by
  intro a0 a1 k
  have ih0 := thistleref01_Same.mono_l k
  unfold thistleref01_Same.f
  repeat' first
      | (with_reducible exact ih0 _ _ _)
      | (with_reducible exact LeO.refl _)
      | (with_reducible exact LeO.none _)
      | (with_reducible refine LeO.ite ?_ ?_)
      | (with_reducible refine LeO.bind ?_ (fun _ => ?_))
      | exact ih0 _ _ _
      | exact LeO.none _
      | refine LeO.ite ?_ ?_
      | refine LeO.bind ?_ (fun _ => ?_)
set_option maxHeartbeats 8000000 in
set_option maxRecDepth 100000 in
theorem thistleref01_Same.calls (k : Nat) (A0 : Option Addr) (c0 : Nat) (l0 : List Int) (A1 : Option Addr) (c1 : Nat) (l1 : List Int) (r : Bool) (w : World) (hr0 : Kd.C (Kd.int .i32) w A0 l0.length l0) (hc0 : l0.length ≤ c0) (hr1 : Kd.C (Kd.int .i32) w A1 l1.length l1) (hc1 : l1.length ≤ c1) (h : thistleref01_Same.f k l0 l1 = some r) :
    Calls Tryd.prog 45 #[.slice A0 l0.length c0, .slice A1 l1.length c1] w fun e w' => e = .returned (.bool r) ∧ Drawn0 w w' := by
  have HR0 := Aside0.mk hr0
  have HC0 := Aside0.mk hc0
  clear hr0 hc0
  have HR1 := Aside0.mk hr1
  have HC1 := Aside0.mk hc1
  clear hr1 hc1
  have H : (if (l0.length : Int) = (l1.length : Int) then (thistleref01_Same.l0 k l0 l1 0) else (some false)) = some r := h
  clear h
  by_cases c3 : (l0.length : Int) = (l1.length : Int)
  · rw [if_pos c3] at H
    have c3b0 : ((l0.length : Int) == (l1.length : Int)) = true := beq_iff_eq.mpr c3
    have c3b1 : ((l0.length : Int) != (l1.length : Int)) = false := bne_eq_false_iff_eq.mpr c3
    have c3b2 : (l0.length == l1.length) = true := by first | simpa using c3 | (simp at c3 ⊢; omega)
    clear c3
    have H' := Aside0.mk H
    clear H
    go_enter Tryd.func45, Tryd.ntmps45
    go_wp2
    repeat (go_quiet (fail); try go_wp2)
    go_loopg [5] k (fun kq v5 w' => ∃ (x5_1 : Int), v5 = .int .i64 x5_1 ∧ Aside0 (thistleref01_Same.l0 kq l0 l1 x5_1 = some r) ∧ Aside0 (kq ≤ k) ∧ Drawn0 w w')
    case atStart => exact ⟨(0), (by first | rfl | (simp; done) | (simp [*]; done)), H', ⟨Nat.le_refl _⟩, by repeat (first | exact Drawn0.refl _ | apply Drawn0.step)⟩
    case round =>
      clear H'
      try clear c1
      try clear p2
      try clear c3
      try clear c3b0
      try clear c3b1
      try clear c3b2
      obtain ⟨x5_1, rfl, HA, HK1, ⟨m1, rfl⟩⟩ := hrel
      cases gk with
      | zero => exact absurd HA.out (by simp [thistleref01_Same.l0])
      | succ k1 =>
        have H := HA.out
        clear HA
        simp only [thistleref01_Same.l0] at H
        by_cases c4 : x5_1 < (l0.length : Int)
        · rw [if_pos c4] at H
          have c4b0 : decide (x5_1 < (l0.length : Int)) = true := decide_eq_true c4
          clear c4
          by_cases c5 : 0 ≤ x5_1
          · rw [if_pos c5] at H
            have c5b0 : decide (0 ≤ x5_1) = true := decide_eq_true c5
            clear c5
            by_cases c6 : x5_1 < (l1.length : Int)
            · rw [if_pos c6] at H
              have c6b0 : decide (x5_1 < (l1.length : Int)) = true := decide_eq_true c6
              clear c6
              by_cases c7 : (rd l0 x5_1) = (rd l1 x5_1)
              · rw [if_pos c7] at H
                have c7b0 : ((rd l0 x5_1) == (rd l1 x5_1)) = true := beq_iff_eq.mpr c7
                have c7b1 : ((rd l0 x5_1) != (rd l1 x5_1)) = false := bne_eq_false_iff_eq.mpr c7
                clear c7
                have H' := Aside0.mk H
                clear H
                have p112 : 0 ≤ (x5_1 : Int) := of_decide_eq_true (by first | (with_reducible assumption) | assumption)
                have q112 : x5_1 < (l0.length : Int) := of_decide_eq_true (by first | (with_reducible assumption) | assumption)
                obtain ⟨ad112, e112, hx112_0⟩ := Kd.at_int HR0.out x5_1 p112 q112
                cases e112
                replace p112 := eq_true p112
                replace q112 := eq_true q112
                have p113 : 0 ≤ (x5_1 : Int) := of_decide_eq_true (by first | (with_reducible assumption) | assumption)
                have q113 : x5_1 < (l1.length : Int) := of_decide_eq_true (by first | (with_reducible assumption) | assumption)
                obtain ⟨ad113, e113, hx113_0⟩ := Kd.at_int HR1.out x5_1 p113 q113
                cases e113
                replace p113 := eq_true p113
                replace q113 := eq_true q113
                go_wp2
                repeat (go_quiet (fail); try go_wp2)
                go_roundg k1
                case measure => have := HK1.out; omega
                case rel => exact ⟨(wrap64 (x5_1 + 1)), (by first | rfl | (simp; done) | (simp [*]; done)), H', ⟨by have := HK1.out; omega⟩, by repeat (first | exact Drawn0.refl _ | apply Drawn0.step)⟩
              · rw [if_neg c7] at H
                have c7b0 : ((rd l0 x5_1) == (rd l1 x5_1)) = false := beq_eq_false_iff_ne.mpr c7
                have c7b1 : ((rd l0 x5_1) != (rd l1 x5_1)) = true := bne_iff_ne.mpr c7
                obtain rfl := Option.some.inj H
                have p112 : 0 ≤ (x5_1 : Int) := of_decide_eq_true (by first | (with_reducible assumption) | assumption)
                have q112 : x5_1 < (l0.length : Int) := of_decide_eq_true (by first | (with_reducible assumption) | assumption)
                obtain ⟨ad112, e112, hx112_0⟩ := Kd.at_int HR0.out x5_1 p112 q112
                cases e112
                replace p112 := eq_true p112
                replace q112 := eq_true q112
                have p113 : 0 ≤ (x5_1 : Int) := of_decide_eq_true (by first | (with_reducible assumption) | assumption)
                have q113 : x5_1 < (l1.length : Int) := of_decide_eq_true (by first | (with_reducible assumption) | assumption)
                obtain ⟨ad113, e113, hx113_0⟩ := Kd.at_int HR1.out x5_1 p113 q113
                cases e113
                replace p113 := eq_true p113
                replace q113 := eq_true q113
                go_wp2
                repeat (go_quiet (fail); try go_wp2)
                go_ret
                exact ⟨by first | rfl | (simp; done) | (simp [*]; done), by repeat (first | exact Drawn0.refl _ | apply Drawn0.step)⟩
            · rw [if_neg c6] at H
              exact absurd H (by simp)
          · rw [if_neg c5] at H
            exact absurd H (by simp)
        · rw [if_neg c4] at H
          have c4b0 : decide (x5_1 < (l0.length : Int)) = false := decide_eq_false c4
          clear c4
          obtain rfl := Option.some.inj H
          go_wp2
          repeat (go_quiet (fail); try go_wp2)
          go_ret
          exact ⟨by first | rfl | (simp; done) | (simp [*]; done), by repeat (first | exact Drawn0.refl _ | apply Drawn0.step)⟩
  · rw [if_neg c3] at H
    have c3b0 : ((l0.length : Int) == (l1.length : Int)) = false := beq_eq_false_iff_ne.mpr c3
    have c3b1 : ((l0.length : Int) != (l1.length : Int)) = true := bne_iff_ne.mpr c3
    have c3b2 : (l0.length == l1.length) = false := by first | simpa using c3 | (simp at c3 ⊢; omega)
    obtain rfl := Option.some.inj H
    go_enter Tryd.func45, Tryd.ntmps45
    go_wp2
    repeat (go_quiet (fail); try go_wp2)
    go_ret
    exact ⟨by first | rfl | (simp; done) | (simp [*]; done), by repeat (first | exact Drawn0.refl _ | apply Drawn0.step)⟩

/-! ### thistlelaw01_same: function 17 -/
def thistlelaw01_same.f (k : Nat) (l0 : List Int) (l1 : List Int) : Option (Bool) := (thistleref01_Same.f k l0 l1).bind fun t114 => (some t114)
theorem thistlelaw01_same.mono : ∀ a0 a1 k, LeO (thistlelaw01_same.f k a0 a1) (thistlelaw01_same.f (k + 1) a0 a1) := by
  intro a0 a1 k
  unfold thistlelaw01_same.f
  repeat' first
      | (with_reducible exact thistleref01_Same.mono _ _ _)
      | (with_reducible exact LeO.refl _)
      | (with_reducible exact LeO.none _)
      | (with_reducible refine LeO.ite ?_ ?_)
      | (with_reducible refine LeO.bind ?_ (fun _ => ?_))
      | exact thistleref01_Same.mono _ _ _
      | exact LeO.none _
      | refine LeO.ite ?_ ?_
      | refine LeO.bind ?_ (fun _ => ?_)
set_option maxHeartbeats 8000000 in
set_option maxRecDepth 100000 in
theorem thistlelaw01_same.calls (k : Nat) (A0 : Option Addr) (c0 : Nat) (l0 : List Int) (A1 : Option Addr) (c1 : Nat) (l1 : List Int) (r : Bool) (w : World) (hr0 : Kd.C (Kd.int .i32) w A0 l0.length l0) (hc0 : l0.length ≤ c0) (hr1 : Kd.C (Kd.int .i32) w A1 l1.length l1) (hc1 : l1.length ≤ c1) (h : thistlelaw01_same.f k l0 l1 = some r) :
    Calls Tryd.prog 17 #[.slice A0 l0.length c0, .slice A1 l1.length c1] w fun e w' => e = .returned (.bool r) ∧ Drawn0 w w' := by
  have HR0 := Aside0.mk hr0
  have HC0 := Aside0.mk hc0
  clear hr0 hc0
  have HR1 := Aside0.mk hr1
  have HC1 := Aside0.mk hc1
  clear hr1 hc1
  have H : ((thistleref01_Same.f k l0 l1).bind fun t114 => (some t114)) = some r := h
  clear h
  replace H := Option.bind_eq_some_iff.mp H
  obtain ⟨t114, A30, H⟩ := H
  replace H : (some t114) = some r := H
  have A3 := Aside0.mk A30
  clear A30
  obtain rfl := Option.some.inj H
  go_enter Tryd.func17, Tryd.ntmps17
  go_wp2_with (first | ((with_reducible refine gate_callee (f := 45) rfl ?_); refine goesL_ (some 7) rfl rfl Tryd.func45 (by kernel_rfl) rfl #[.slice A0 l0.length c0, .slice A1 l1.length c1] rfl (by (try simp only [List.map_toArray, List.map_cons, List.map_nil]); first | done | rfl | (simp only [List.length_drop, List.length_take]; rfl)) ?_; (with_reducible refine (thistleref01_Same.calls k _ _ l0 _ _ l1 t114 _ ?side1 ?side2 ?side3 ?side4 A3.out).mono ?_); (case side1 => repeat (first | exact HR0.out | (with_reducible refine Kd.C_alloc ?_ _) | (with_reducible refine Kd.C_drewN ?_ _) | (with_reducible refine Kd.C_drew ?_))); (case side2 => exact HC0.out); (case side3 => repeat (first | exact HR1.out | (with_reducible refine Kd.C_alloc ?_ _) | (with_reducible refine Kd.C_drewN ?_ _) | (with_reducible refine Kd.C_drew ?_))); (case side4 => exact HC1.out); rintro e w' ⟨rfl, ⟨nd, rfl⟩⟩; refine ⟨_, rfl, ?_⟩))
  go_ret
  exact ⟨by first | rfl | (simp; done) | (simp [*]; done), by repeat (first | exact Drawn0.refl _ | apply Drawn0.step)⟩

/-! ### utf_Runes: function 18 -/
def utf_Runes.f (a0 : ByteArray) : Option (List Int) := if a0.size ≤ 1073741824 then some (utfRunes a0 a0.size 0) else none
set_option maxHeartbeats 1000000 in
set_option maxRecDepth 100000 in
theorem utf_Runes.calls (a0 : ByteArray) (r : List Int) (w : World) (h : utf_Runes.f a0 = some r) :
    Calls Tryd.prog 18 #[.string a0] w fun e w' => ∃ v0_ : Value, e = .returned (v0_) ∧ Kd.R (Kd.int .i32) 21 w' w.heap.size (fun _ => True) v0_ r ∧ Below w.heap.size w w' := by
  unfold utf_Runes.f at h
  by_cases hs : a0.size ≤ 1073741824
  · rw [if_pos hs] at h
    obtain rfl := Option.some.inj h
    have hz := size_runesFrom a0 a0.size 0 #[]
    simp only [List.size_toArray, List.length_nil, Nat.zero_add] at hz
    have hrun := run_runes_of_string (P := Tryd.prog) w 9 27 21 a0 Tryd.underlying9 Tryd.underlying27 Tryd.underlying21 (by omega)
    have hge := grownCap_ge w (Conv.runesFrom a0 a0.size 0 #[]).size 0 21
    have hmx := grownCap_le_maxLen w (Conv.runesFrom a0 a0.size 0 #[]).size 0 21 (by unfold maxLen; omega)
    have hrow := utfRunes_own w 21 a0 (grownCap w (Conv.runesFrom a0 a0.size 0 #[]).size 0 21) hge hmx
    generalize grownCap w (Conv.runesFrom a0 a0.size 0 #[]).size 0 21 = cap at *
    have HR := Aside0.mk hrow
    clear hrow hge hmx hz h
    go_enter Tryd.func18, Tryd.ntmps18
    go_wp2
    go_ret
    exact ⟨_, rfl, HR.out, ((Below.refl _ w).drew).alloc (Nat.le_refl _) _⟩
  · rw [if_neg hs] at h
    exact absurd h (by simp)

/-! ### utf_Mend: function 19 -/
def utf_Mend.f (a0 : ByteArray) : Option ByteArray := if a0.size ≤ 1073741824 then some (runesBytes (utfRunes a0 a0.size 0)) else none
set_option maxHeartbeats 1000000 in
set_option maxRecDepth 100000 in
theorem utf_Mend.calls (a0 : ByteArray) (r : ByteArray) (w : World) (h : utf_Mend.f a0 = some r) :
    Calls Tryd.prog 19 #[.string a0] w fun e w' => e = .returned (.string r) ∧ Below w.heap.size w w' := by
  unfold utf_Mend.f at h
  by_cases hs : a0.size ≤ 1073741824
  · rw [if_pos hs] at h
    obtain rfl := Option.some.inj h
    have hz := size_runesFrom a0 a0.size 0 #[]
    simp only [List.size_toArray, List.length_nil, Nat.zero_add] at hz
    have hrun := run_runes_of_string (P := Tryd.prog) w 9 27 21 a0 Tryd.underlying9 Tryd.underlying27 Tryd.underlying21 (by omega)
    have hge := grownCap_ge w (Conv.runesFrom a0 a0.size 0 #[]).size 0 21
    have hmx := grownCap_le_maxLen w (Conv.runesFrom a0 a0.size 0 #[]).size 0 21 (by unfold maxLen; omega)
    have hrow := utfRunes_own w 21 a0 (grownCap w (Conv.runesFrom a0 a0.size 0 #[]).size 0 21) hge hmx
    generalize grownCap w (Conv.runesFrom a0 a0.size 0 #[]).size 0 21 = cap at *
    obtain ⟨A1, c1, he1, hl1, hC⟩ := Kd.R_reads hrow
    rw [← utfRunes_len] at he1
    injection he1 with e1 e2 e3
    subst e1 e3
    have hlen := utfRunes_len a0
    have hback := run_convert_runes (P := Tryd.prog) _ 27 9 21 ⟨w.heap.size, 0, none⟩ (utfRunes a0 a0.size 0).length cap (utfRunes a0 a0.size 0) (Nat.le_refl _) Tryd.underlying27 Tryd.underlying21 Tryd.underlying9 (fun j hj => utfRunes_bytes _ 0 _ _ _ hC _ rfl j hj (by omega))
    rw [List.take_of_length_le (Nat.le_refl _), ← hlen, World.alloc_drew] at hback
    clear hrow hge hmx hz h hC hl1 hlen hs
    go_enter Tryd.func19, Tryd.ntmps19
    go_wp2
    go_ret
    exact ⟨rfl, ((Below.refl _ w).drew).alloc (Nat.le_refl _) _⟩
  · rw [if_neg hs] at h
    exact absurd h (by simp)

/-! ### utf_FromRunes: function 20 -/
def utf_FromRunes.f (l0 : List Int) : Option ByteArray := if l0.length ≤ 1073741824 then some (runesBytes l0) else none
set_option maxHeartbeats 1000000 in
set_option maxRecDepth 100000 in
theorem utf_FromRunes.calls (A0 : Option Addr) (c0 : Nat) (l0 : List Int) (r : ByteArray) (w : World) (hr0 : Kd.C (Kd.int .i32) w A0 l0.length l0) (hc0 : l0.length ≤ c0) (h : utf_FromRunes.f l0 = some r) :
    Calls Tryd.prog 20 #[.slice A0 l0.length c0] w fun e w' => e = .returned (.string r) ∧ Drawn0 w w' := by
  unfold utf_FromRunes.f at h
  by_cases hs : l0.length ≤ 1073741824
  · rw [if_pos hs] at h
    obtain rfl := Option.some.inj h
    have hrun : (convert 27 9 (.slice A0 l0.length c0)).run Tryd.prog w = .ok (.string (runesBytes l0)) w := by
      cases A0 with
      | none =>
        have hz : l0 = [] := by
          cases l0 with
          | nil => rfl
          | cons a t =>
            obtain ⟨ad, ha, _⟩ := hr0.2.2 (by simp)
            cases ha
        subst hz
        exact run_convert_runes_nil w 27 9 21 _ _ Tryd.underlying27 Tryd.underlying21 Tryd.underlying9
      | some ad =>
        have := run_convert_runes (P := Tryd.prog) w 27 9 21 ad l0.length c0 l0 (Nat.le_refl _) Tryd.underlying27 Tryd.underlying21 Tryd.underlying9 (fun j hj => utfRunes_bytes w 0 _ _ _ hr0 ad rfl j hj (by omega))
        rw [List.take_of_length_le (Nat.le_refl _)] at this
        exact this
    clear hr0 h hs hc0
    go_enter Tryd.func20, Tryd.ntmps20
    go_wp2
    go_ret
    exact ⟨rfl, Drawn0.refl _⟩
  · rw [if_neg hs] at h
    exact absurd h (by simp)

/-! ### utf8_RuneLen: function 60 -/
def utf8_RuneLen.j0 : Nat → Int → Bool → Option (Int)
  | 0, _, _ => none
  | k + 1, x0, x12 => if x12 = true then (some (-1)) else (if x0 ≤ 65535 then (some 3) else (if x0 ≤ 1114111 then (some 4) else (some (-1))))
def utf8_RuneLen.f (k : Nat) (a0 : Int) : Option (Int) := if a0 < 0 then (some (-1)) else (if a0 ≤ 127 then (some 1) else (if a0 ≤ 2047 then (some 2) else (if 55296 ≤ a0 then (utf8_RuneLen.j0 k a0 (decide (a0 ≤ 57343))) else (utf8_RuneLen.j0 k a0 false))))
theorem utf8_RuneLen.mono_l : ∀ k, (∀ y0 y1, LeO (utf8_RuneLen.j0 k y0 y1) (utf8_RuneLen.j0 (k + 1) y0 y1))
  | 0 => fun _ _ r h => by simp [utf8_RuneLen.j0] at h
  | k + 1 => by
    have ih0 := utf8_RuneLen.mono_l k
    · intro y0 y1
      unfold utf8_RuneLen.j0
      repeat' first
      | (with_reducible exact ih0 _ _)
      | (with_reducible exact LeO.refl _)
      | (with_reducible exact LeO.none _)
      | (with_reducible refine LeO.ite ?_ ?_)
      | (with_reducible refine LeO.bind ?_ (fun _ => ?_))
      | exact ih0 _ _
      | exact LeO.none _
      | refine LeO.ite ?_ ?_
      | refine LeO.bind ?_ (fun _ => ?_)
theorem utf8_RuneLen.mono : ∀ a0 k, LeO (utf8_RuneLen.f k a0) (utf8_RuneLen.f (k + 1) a0) := by
  intro a0 k
  have ih0 := utf8_RuneLen.mono_l k
  unfold utf8_RuneLen.f
  repeat' first
      | (with_reducible exact ih0 _ _)
      | (with_reducible exact LeO.refl _)
      | (with_reducible exact LeO.none _)
      | (with_reducible refine LeO.ite ?_ ?_)
      | (with_reducible refine LeO.bind ?_ (fun _ => ?_))
      | exact ih0 _ _
      | exact LeO.none _
      | refine LeO.ite ?_ ?_
      | refine LeO.bind ?_ (fun _ => ?_)
set_option maxHeartbeats 8000000 in
set_option maxRecDepth 100000 in
theorem utf8_RuneLen.calls (k : Nat) (a0 : Int) (r : Int) (w : World) (h : utf8_RuneLen.f k a0 = some r) :
    Calls Tryd.prog 60 #[.int .i32 a0] w fun e w' => e = .returned (.int .i64 r) ∧ Drawn0 w w' := by
  have H : (if a0 < 0 then (some (-1)) else (if a0 ≤ 127 then (some 1) else (if a0 ≤ 2047 then (some 2) else (if 55296 ≤ a0 then (utf8_RuneLen.j0 k a0 (decide (a0 ≤ 57343))) else (utf8_RuneLen.j0 k a0 false))))) = some r := h
  clear h
  by_cases c2 : a0 < 0
  · rw [if_pos c2] at H
    have c2b0 : decide (a0 < 0) = true := decide_eq_true c2
    clear c2
    obtain rfl := Option.some.inj H
    go_enter Tryd.func60, Tryd.ntmps60
    go_wp2
    go_ret
    exact ⟨by first | rfl | (simp; done) | (simp [*]; done), by repeat (first | exact Drawn0.refl _ | apply Drawn0.step)⟩
  · rw [if_neg c2] at H
    have c2b0 : decide (a0 < 0) = false := decide_eq_false c2
    clear c2
    by_cases c3 : a0 ≤ 127
    · rw [if_pos c3] at H
      have c3b0 : decide (a0 ≤ 127) = true := decide_eq_true c3
      clear c3
      obtain rfl := Option.some.inj H
      go_enter Tryd.func60, Tryd.ntmps60
      go_wp2
      go_ret
      exact ⟨by first | rfl | (simp; done) | (simp [*]; done), by repeat (first | exact Drawn0.refl _ | apply Drawn0.step)⟩
    · rw [if_neg c3] at H
      have c3b0 : decide (a0 ≤ 127) = false := decide_eq_false c3
      clear c3
      by_cases c4 : a0 ≤ 2047
      · rw [if_pos c4] at H
        have c4b0 : decide (a0 ≤ 2047) = true := decide_eq_true c4
        clear c4
        obtain rfl := Option.some.inj H
        go_enter Tryd.func60, Tryd.ntmps60
        go_wp2
        go_ret
        exact ⟨by first | rfl | (simp; done) | (simp [*]; done), by repeat (first | exact Drawn0.refl _ | apply Drawn0.step)⟩
      · rw [if_neg c4] at H
        have c4b0 : decide (a0 ≤ 2047) = false := decide_eq_false c4
        clear c4
        have HC5 := Aside0.mk H
        clear H
        go_enter Tryd.func60, Tryd.ntmps60
        go_upto_region 7 with (fail)
        go_cut [12] (fun v12 wc => ∃ (kq : Nat) (x12_4 : Bool), v12 = .bool x12_4 ∧ Aside0 (utf8_RuneLen.j0 kq a0 x12_4 = some r) ∧ Aside0 (kq ≤ k) ∧ Drawn0 w wc)
        case first =>
          have H := HC5.out
          clear HC5
          by_cases c6 : 55296 ≤ a0
          · rw [if_pos c6] at H
            have c6b0 : decide (55296 ≤ a0) = true := decide_eq_true c6
            clear c6
            (first | rw [c6b0] | (simp only [i64_w, i32_w]; rw [c6b0]) | skip)
            have H' := Aside0.mk H
            clear H
            go_wp2
            go_meet
            case rel => exact ⟨_, (decide (a0 ≤ 57343)), (by first | rfl | (simp; done) | (simp [*]; done)), H', ⟨by first | omega | exact Nat.le_refl _⟩, by repeat (first | exact Drawn0.refl _ | apply Drawn0.step)⟩
          · rw [if_neg c6] at H
            have c6b0 : decide (55296 ≤ a0) = false := decide_eq_false c6
            clear c6
            (first | rw [c6b0] | (simp only [i64_w, i32_w]; rw [c6b0]) | skip)
            have H' := Aside0.mk H
            clear H
            go_wp2
            go_meet
            case rel => exact ⟨_, (false), (by first | rfl | (simp; done) | (simp [*]; done)), H', ⟨by first | omega | exact Nat.le_refl _⟩, by repeat (first | exact Drawn0.refl _ | apply Drawn0.step)⟩
        case rest =>
          clear HC5
          try clear c2
          try clear c2b0
          try clear p2
          try clear c3
          try clear c3b0
          try clear c4
          try clear c4b0
          try clear c6
          try clear c6b0
          obtain ⟨kq, x12_4, rfl, HA, HJ4, ⟨mc4, rfl⟩⟩ := hcut
          cases kq with
          | zero => exact absurd HA.out (by simp [utf8_RuneLen.j0])
          | succ kj4 =>
            have H := HA.out
            clear HA
            simp only [utf8_RuneLen.j0] at H
            by_cases c7 : x12_4 = true
            · subst c7
              have H1 : (some (-1)) = some r := by rw [if_pos rfl] at H; exact H
              clear H
              have H := H1
              clear H1
              obtain rfl := Option.some.inj H
              go_wp2
              go_ret
              exact ⟨by first | rfl | (simp; done) | (simp [*]; done), by repeat (first | exact Drawn0.refl _ | apply Drawn0.step)⟩
            · replace c7 := Bool.eq_false_iff.mpr c7
              subst c7
              have H1 : (if a0 ≤ 65535 then (some 3) else (if a0 ≤ 1114111 then (some 4) else (some (-1)))) = some r := by rw [if_neg (show ¬ (false = true) by decide)] at H; exact H
              clear H
              have H := H1
              clear H1
              by_cases c8 : a0 ≤ 65535
              · rw [if_pos c8] at H
                have c8b0 : decide (a0 ≤ 65535) = true := decide_eq_true c8
                clear c8
                obtain rfl := Option.some.inj H
                go_wp2
                go_ret
                exact ⟨by first | rfl | (simp; done) | (simp [*]; done), by repeat (first | exact Drawn0.refl _ | apply Drawn0.step)⟩
              · rw [if_neg c8] at H
                have c8b0 : decide (a0 ≤ 65535) = false := decide_eq_false c8
                clear c8
                by_cases c9 : a0 ≤ 1114111
                · rw [if_pos c9] at H
                  have c9b0 : decide (a0 ≤ 1114111) = true := decide_eq_true c9
                  clear c9
                  obtain rfl := Option.some.inj H
                  go_wp2
                  go_ret
                  exact ⟨by first | rfl | (simp; done) | (simp [*]; done), by repeat (first | exact Drawn0.refl _ | apply Drawn0.step)⟩
                · rw [if_neg c9] at H
                  have c9b0 : decide (a0 ≤ 1114111) = false := decide_eq_false c9
                  clear c9
                  obtain rfl := Option.some.inj H
                  go_wp2
                  go_ret
                  exact ⟨by first | rfl | (simp; done) | (simp [*]; done), by repeat (first | exact Drawn0.refl _ | apply Drawn0.step)⟩

/-! ### utf_width: function 46 -/
def utf_width.f (k : Nat) (a0 : Int) : Option (Int) := if a0 > 1114111 then (some 1) else ((utf8_RuneLen.f k a0).bind fun t115 => (some t115))
theorem utf_width.mono : ∀ a0 k, LeO (utf_width.f k a0) (utf_width.f (k + 1) a0) := by
  intro a0 k
  unfold utf_width.f
  repeat' first
      | (with_reducible exact utf8_RuneLen.mono _ _)
      | (with_reducible exact LeO.refl _)
      | (with_reducible exact LeO.none _)
      | (with_reducible refine LeO.ite ?_ ?_)
      | (with_reducible refine LeO.bind ?_ (fun _ => ?_))
      | exact utf8_RuneLen.mono _ _
      | exact LeO.none _
      | refine LeO.ite ?_ ?_
      | refine LeO.bind ?_ (fun _ => ?_)
set_option maxHeartbeats 8000000 in
set_option maxRecDepth 100000 in
theorem utf_width.calls (k : Nat) (a0 : Int) (r : Int) (w : World) (h : utf_width.f k a0 = some r) :
    Calls Tryd.prog 46 #[.int .i32 a0] w fun e w' => e = .returned (.int .i64 r) ∧ Drawn0 w w' := by
  have H : (if a0 > 1114111 then (some 1) else ((utf8_RuneLen.f k a0).bind fun t115 => (some t115))) = some r := h
  clear h
  by_cases c2 : a0 > 1114111
  · rw [if_pos c2] at H
    have c2b0 : decide (1114111 < a0) = true := decide_eq_true c2
    clear c2
    obtain rfl := Option.some.inj H
    go_enter Tryd.func46, Tryd.ntmps46
    go_wp2
    go_ret
    exact ⟨by first | rfl | (simp; done) | (simp [*]; done), by repeat (first | exact Drawn0.refl _ | apply Drawn0.step)⟩
  · rw [if_neg c2] at H
    have c2b0 : decide (1114111 < a0) = false := decide_eq_false c2
    clear c2
    replace H := Option.bind_eq_some_iff.mp H
    obtain ⟨t115, A30, H⟩ := H
    replace H : (some t115) = some r := H
    have A3 := Aside0.mk A30
    clear A30
    obtain rfl := Option.some.inj H
    go_enter Tryd.func46, Tryd.ntmps46
    go_wp2_with (first | ((with_reducible refine gate_callee (f := 60) rfl ?_); refine goesL_ (some 6) rfl rfl Tryd.func60 (by kernel_rfl) rfl #[.int .i32 a0] rfl (by (try simp only [List.map_toArray, List.map_cons, List.map_nil]); first | done | rfl | (simp only [List.length_drop, List.length_take]; rfl)) ?_; (with_reducible refine (utf8_RuneLen.calls k a0 t115 _ A3.out).mono ?_); rintro e w' ⟨rfl, ⟨nd, rfl⟩⟩; refine ⟨_, rfl, ?_⟩))
    go_ret
    exact ⟨by first | rfl | (simp; done) | (simp [*]; done), by repeat (first | exact Drawn0.refl _ | apply Drawn0.step)⟩
theorem utfWidth_is (u : Int) : utf_width.f 5 u = some (utfWidthOf u) := by
  unfold utf_width.f utf8_RuneLen.f utfWidthOf
  simp only [utf8_RuneLen.j0]
  by_cases h1 : u > 1114111
  · rw [if_pos h1, if_pos h1]
  · rw [if_neg h1, if_neg h1]
    by_cases h2 : u < 0
    · simp [h2]
    · by_cases h3 : u ≤ 127
      · simp [h2, h3]
      · by_cases h4 : u ≤ 2047
        · simp [h2, h3, h4]
        · by_cases h5 : 55296 ≤ u
          · by_cases h6 : u ≤ 57343
            · simp [h2, h3, h4, h5, h6]
            · by_cases h7 : u ≤ 65535
              · simp [h2, h3, h4, h5, h6, h7]
              · have h8 : u ≤ 1114111 := by omega
                simp [h2, h3, h4, h5, h6, h7, h8]
          · have h6 : u ≤ 65535 := by omega
            simp [h2, h3, h4, h5, h6]

/-! ### utf_Next: function 21 -/
/-- What the unit is that begins a text that is not empty, and its width. -/
def utf_Next.f (a0 : ByteArray) (a1 : Int) : Option (Int × Int × Int) :=
  if a0.size ≤ 1073741824 then
    if a1 < 0 then some (0, 0, 3) else if a1 > a0.size then some (0, 0, 3) else if a1 = a0.size then some (0, 0, 7)
    else some (utfUnitAt (a0.extract a1.toNat a0.size) 0, utfWidthOf (utfUnitAt (a0.extract a1.toNat a0.size) 0), 0)
  else none
set_option maxHeartbeats 4000000 in
set_option maxRecDepth 100000 in
theorem utf_Next.calls_out (a0 : ByteArray) (a1 : Int) (w : World) (hs : a0.size ≤ 1073741824) (h : a1 < 0 ∨ (0 ≤ a1 ∧ a1 > a0.size)) :
    Calls Tryd.prog 21 #[.string a0, .int .i64 a1] w fun e w' => e = .returned (.tuple #[.int .i32 0, .int .i64 0, .int .i64 3]) ∧ Below w.heap.size w w' := by
  rcases h with h | ⟨h0, h⟩
  · go_enter Tryd.func21, Tryd.ntmps21
    go_wp2
    go_ret3
    exact ⟨rfl, Below.refl _ w⟩
  · go_enter Tryd.func21, Tryd.ntmps21
    have hd : decide (a1 < 0) = false := decide_eq_false (by omega)
    have hd2 : decide ((a0.size : Int) < a1) = true := decide_eq_true h
    go_wp2
    go_ret3
    exact ⟨rfl, Below.refl _ w⟩
set_option maxHeartbeats 4000000 in
set_option maxRecDepth 100000 in
theorem utf_Next.calls_end (a0 : ByteArray) (a1 : Int) (w : World) (hs : a0.size ≤ 1073741824) (h0 : 0 ≤ a1) (h1 : a1 ≤ a0.size) (h2 : a1 ≥ a0.size) :
    Calls Tryd.prog 21 #[.string a0, .int .i64 a1] w fun e w' => e = .returned (.tuple #[.int .i32 0, .int .i64 0, .int .i64 7]) ∧ Below w.heap.size w w' := by
  have hsz : ¬ 0 < (a0.extract a1.toNat a0.size).size := by rw [ByteArray.size_extract]; omega
  have hnx : ∀ ty, (Instr.next (.pointer (some ⟨w.heap.size, 0, none⟩)) true ty).run Tryd.prog (w.iter (a0.extract a1.toNat a0.size) 0) = _ := fun ty => Lib.run_next_end_at (w.iter (a0.extract a1.toNat a0.size) 0) w.heap.size _ 0 ty (World.iter_heap w _ 0) hsz
  have hd : decide (a1 < 0) = false := decide_eq_false (by omega)
  have hd2 : decide ((a0.size : Int) < a1) = false := decide_eq_false (by omega)
  have hd3 : decide (a1 ≤ (a0.size : Int)) = true := decide_eq_true h1
  clear hsz h2
  go_enter Tryd.func21, Tryd.ntmps21
  go_wp2
  refine wp_loop_once ?_
  go_wp2
  go_ret3
  exact ⟨rfl, (Below.refl _ w).alloc (Nat.le_refl _) _⟩
set_option maxHeartbeats 4000000 in
set_option maxRecDepth 100000 in
theorem utf_Next.calls_in (a0 : ByteArray) (a1 : Int) (w : World) (hs : a0.size ≤ 1073741824) (h0 : 0 ≤ a1) (h1 : a1 < a0.size) :
    Calls Tryd.prog 21 #[.string a0, .int .i64 a1] w fun e w' => e = .returned (.tuple #[.int .i32 (utfUnitAt (a0.extract a1.toNat a0.size) 0), .int .i64 (utfWidthOf (utfUnitAt (a0.extract a1.toNat a0.size) 0)), .int .i64 0]) ∧ Below w.heap.size w w' := by
  have hsz : 0 < (a0.extract a1.toNat a0.size).size := by rw [ByteArray.size_extract]; omega
  have hnum := Aside0.mk (utfNumber_at (a0.extract a1.toNat a0.size) 0 hsz (by rw [ByteArray.size_extract]; omega))
  have hwid := Aside0.mk (utfWidth_is (utfUnitAt (a0.extract a1.toNat a0.size) 0))
  have hnx : ∀ ty, (Instr.next (.pointer (some ⟨w.heap.size, 0, none⟩)) true ty).run Tryd.prog (w.iter (a0.extract a1.toNat a0.size) 0) = _ := fun ty => Lib.run_next_any_at (w.iter (a0.extract a1.toNat a0.size) 0) w.heap.size _ 0 ty (World.iter_heap w _ 0) hsz
  have HB := Aside0.mk (Lib.below_iterAt ((Below.refl _ w).alloc (Nat.le_refl _) (.stringIter (a0.extract a1.toNat a0.size) 0)) (k := w.heap.size) (Nat.le_refl _) (a0.extract a1.toNat a0.size) (0 + (Utf8.decode (a0.extract a1.toNat a0.size) 0).2))
  have hd : decide (a1 < 0) = false := decide_eq_false (by omega)
  have hd2 : decide ((a0.size : Int) < a1) = false := decide_eq_false (by omega)
  have hd3 : decide (a1 ≤ (a0.size : Int)) = true := decide_eq_true (by omega)
  clear hsz
  go_enter Tryd.func21, Tryd.ntmps21
  go_wp2
  refine wp_loop_once ?_
  go_wp2_with (first | (go_at_call 40; refine (utf_number.calls _ _ _ _ _ hnum.out).mono ?_; rintro e w1 ⟨rfl, ⟨nd, rfl⟩⟩) | (go_at_call 46; refine (utf_width.calls 5 _ _ _ hwid.out).mono ?_; rintro e w1 ⟨rfl, ⟨nd2, rfl⟩⟩))
  go_ret3
  have HBz := HB.out
  rw [Nat.zero_add] at HBz
  exact ⟨rfl, pw_below_drewN HBz _⟩
theorem utf_Next.calls (a0 : ByteArray) (a1 : Int) (r1 r2 r3 : Int) (w : World) (h : utf_Next.f a0 a1 = some (r1, r2, r3)) :
    Calls Tryd.prog 21 #[.string a0, .int .i64 a1] w fun e w' => e = .returned (.tuple #[.int .i32 r1, .int .i64 r2, .int .i64 r3]) ∧ Below w.heap.size w w' := by
  unfold utf_Next.f at h
  by_cases hs : a0.size ≤ 1073741824
  · rw [if_pos hs] at h
    by_cases c1 : a1 < 0
    · rw [if_pos c1] at h
      simp only [Option.some.injEq, Prod.mk.injEq] at h
      obtain ⟨rfl, rfl, rfl⟩ := h
      exact utf_Next.calls_out a0 a1 w hs (.inl c1)
    · rw [if_neg c1] at h
      by_cases c2 : a1 > a0.size
      · rw [if_pos c2] at h
        simp only [Option.some.injEq, Prod.mk.injEq] at h
        obtain ⟨rfl, rfl, rfl⟩ := h
        exact utf_Next.calls_out a0 a1 w hs (.inr ⟨by omega, c2⟩)
      · rw [if_neg c2] at h
        by_cases c3 : a1 = a0.size
        · rw [if_pos c3] at h
          simp only [Option.some.injEq, Prod.mk.injEq] at h
          obtain ⟨rfl, rfl, rfl⟩ := h
          exact utf_Next.calls_end a0 a1 w hs (by omega) (by omega) (by omega)
        · rw [if_neg c3] at h
          simp only [Option.some.injEq, Prod.mk.injEq] at h
          obtain ⟨rfl, rfl, rfl⟩ := h
          exact utf_Next.calls_in a0 a1 w hs (by omega) (by omega)
  · rw [if_neg hs] at h
    exact absurd h (by simp)

/-! ### utf8_RuneStart: function 61 -/
def utf8_RuneStart.f (a0 : Int) : Option (Bool) := some ((Go.bits .and .u8 a0 192) != 128)
set_option maxHeartbeats 8000000 in
set_option maxRecDepth 100000 in
theorem utf8_RuneStart.calls (a0 : Int) (r : Bool) (w : World) (h : utf8_RuneStart.f a0 = some r) :
    Calls Tryd.prog 61 #[.int .u8 a0] w fun e w' => e = .returned (.bool r) ∧ Drawn0 w w' := by
  have H : (some ((Go.bits .and .u8 a0 192) != 128)) = some r := h
  clear h
  obtain rfl := Option.some.inj H
  go_enter Tryd.func61, Tryd.ntmps61
  go_wp2
  go_ret
  exact ⟨by first | rfl | (simp; done) | (simp [*]; done), by repeat (first | exact Drawn0.refl _ | apply Drawn0.step)⟩

/-! ### utf8_DecodeLastRuneInString: function 47 -/
def utf8_DecodeLastRuneInString.f (a0 : ByteArray) : Option (Int × Int) := if a0.size ≤ 1073741824 then some (((Lib.decodeLastL a0.data.toList).1 : Int), ((Lib.decodeLastL a0.data.toList).2 : Int)) else none
theorem utf8_DecodeLastRuneInString.calls (a0 : ByteArray) (r1 r2 : Int) (w : World) (hG : Glob w) (h : utf8_DecodeLastRuneInString.f a0 = some (r1, r2)) :
    Calls Tryd.prog 47 #[.string a0] w fun e w' => e = .returned (.tuple #[.int .i32 r1, .int .i64 r2]) ∧ Below w.heap.size w w' := by
  unfold utf8_DecodeLastRuneInString.f at h
  by_cases hs : a0.size ≤ 1073741824
  · rw [if_pos hs] at h
    simp only [Option.some.injEq, Prod.mk.injEq] at h
    obtain ⟨rfl, rfl⟩ := h
    exact Tryd.utf8_DecodeLastRuneInString a0 w (by omega) hG
  · rw [if_neg hs] at h
    exact absurd h (by simp)

/-! ### utf_Prev: function 22 -/
def utf_Prev.j0 : Nat → ByteArray → Int → Bool → Option (Int × Int × Int)
  | 0, _, _, _ => none
  | k + 1, x0, x1, x9 => if x9 = true then (some (0, 0, 3)) else (if x1 = 0 then (some (0, 0, 7)) else (if 0 ≤ x1 then (if x1 ≤ (x0.size : Int) then ((utf8_DecodeLastRuneInString.f (x0.extract 0 (x1 : Int).toNat)).bind fun bt116 => (if bt116.1 = 65533 then (if bt116.2 = 1 then (if 0 ≤ (wrap64 (x1 - 1)) then (if (wrap64 (x1 - 1)) < (x0.size : Int) then (some (wrap32 (1114112 + (wrap32 (bt x0 (wrap64 (x1 - 1))))), 1, 0)) else (none)) else (none)) else (some (bt116.1, bt116.2, 0))) else (some (bt116.1, bt116.2, 0)))) else (none)) else (none)))
def utf_Prev.f (k : Nat) (a0 : ByteArray) (a1 : Int) : Option (Int × Int × Int) := if a1 < 0 then (utf_Prev.j0 k a0 a1 true) else (utf_Prev.j0 k a0 a1 (decide (a1 > (a0.size : Int))))
theorem utf_Prev.mono_l : ∀ k, (∀ y0 y1 y2, LeO (utf_Prev.j0 k y0 y1 y2) (utf_Prev.j0 (k + 1) y0 y1 y2))
  | 0 => fun _ _ _ r h => by simp [utf_Prev.j0] at h
  | k + 1 => by
    have ih0 := utf_Prev.mono_l k
    · intro y0 y1 y2
      unfold utf_Prev.j0
      repeat' first
      | (with_reducible exact ih0 _ _ _)
      | (with_reducible exact LeO.refl _)
      | (with_reducible exact LeO.none _)
      | (with_reducible refine LeO.ite ?_ ?_)
      | (with_reducible refine LeO.bind ?_ (fun _ => ?_))
      | exact ih0 _ _ _
      | exact LeO.none _
      | refine LeO.ite ?_ ?_
      | refine LeO.bind ?_ (fun _ => ?_)
theorem utf_Prev.mono : ∀ a0 a1 k, LeO (utf_Prev.f k a0 a1) (utf_Prev.f (k + 1) a0 a1) := by
  intro a0 a1 k
  have ih0 := utf_Prev.mono_l k
  unfold utf_Prev.f
  repeat' first
      | (with_reducible exact ih0 _ _ _)
      | (with_reducible exact LeO.refl _)
      | (with_reducible exact LeO.none _)
      | (with_reducible refine LeO.ite ?_ ?_)
      | (with_reducible refine LeO.bind ?_ (fun _ => ?_))
      | exact ih0 _ _ _
      | exact LeO.none _
      | refine LeO.ite ?_ ?_
      | refine LeO.bind ?_ (fun _ => ?_)
set_option maxHeartbeats 8000000 in
set_option maxRecDepth 100000 in
theorem utf_Prev.calls (k : Nat) (a0 : ByteArray) (a1 : Int) (r1 : Int) (r2 : Int) (r3 : Int) (w : World) (hG : Glob w) (h : utf_Prev.f k a0 a1 = some (r1, r2, r3)) :
    Calls Tryd.prog 22 #[.string a0, .int .i64 a1] w fun e w' => e = .returned (.tuple #[.int .i32 r1, .int .i64 r2, .int .i64 r3]) ∧ Below w.heap.size w w' := by
  have HB := Aside0.mk (Below.refl w.heap.size w)
  have H : (if a1 < 0 then (utf_Prev.j0 k a0 a1 true) else (utf_Prev.j0 k a0 a1 (decide (a1 > (a0.size : Int))))) = some (r1, r2, r3) := h
  clear h
  have HC3 := Aside0.mk H
  clear H
  go_enter Tryd.func22, Tryd.ntmps22
  go_upto_region 1 with (fail)
  go_cut [9] (fun v9 wc => ∃ (kq : Nat) (x9_2 : Bool), v9 = .bool x9_2 ∧ Aside0 (utf_Prev.j0 kq a0 a1 x9_2 = some (r1, r2, r3)) ∧ Aside0 (kq ≤ k) ∧ Aside0 (Below w.heap.size w wc))
  case first =>
    have H := HC3.out
    clear HC3
    by_cases c4 : a1 < 0
    · rw [if_pos c4] at H
      have c4b0 : decide (a1 < 0) = true := decide_eq_true c4
      clear c4
      (first | rw [c4b0] | (simp only [i64_w, i32_w]; rw [c4b0]) | skip)
      have H' := Aside0.mk H
      clear H
      go_wp2
      go_meet
      case rel => exact ⟨_, (true), (by first | rfl | (simp; done) | (simp [*]; done)), H', ⟨by first | omega | exact Nat.le_refl _⟩, ⟨by repeat (first | (with_reducible first | exact HB.out | apply below_alloc | apply pw_below_drewN | apply below_drew1) | exact HB.out)⟩⟩
    · rw [if_neg c4] at H
      have c4b0 : decide (a1 < 0) = false := decide_eq_false c4
      clear c4
      (first | rw [c4b0] | (simp only [i64_w, i32_w]; rw [c4b0]) | skip)
      have H' := Aside0.mk H
      clear H
      go_wp2
      go_meet
      case rel => exact ⟨_, (decide (a1 > (a0.size : Int))), (by first | rfl | (simp; done) | (simp [*]; done)), H', ⟨by first | omega | exact Nat.le_refl _⟩, ⟨by repeat (first | (with_reducible first | exact HB.out | apply below_alloc | apply pw_below_drewN | apply below_drew1) | exact HB.out)⟩⟩
  case rest =>
    clear HC3
    try clear c2
    try clear p2
    try clear c4
    try clear c4b0
    obtain ⟨kq, x9_2, rfl, HA, HJ2, HB⟩ := hcut
    cases kq with
    | zero => exact absurd HA.out (by simp [utf_Prev.j0])
    | succ kj2 =>
      have H := HA.out
      clear HA
      simp only [utf_Prev.j0] at H
      by_cases c5 : x9_2 = true
      · subst c5
        have H1 : (some (0, 0, 3)) = some (r1, r2, r3) := by rw [if_pos rfl] at H; exact H
        clear H
        have H := H1
        clear H1
        simp only [Option.some.injEq, Prod.mk.injEq] at H
        obtain ⟨rfl, rfl, rfl⟩ := H
        go_wp2
        go_ret3
        exact ⟨by first | rfl | (simp [errW_none, errW_some] <;> rfl) | (simp [*, errW_none, errW_some] <;> rfl), by repeat (first | (with_reducible first | exact HB.out | apply below_alloc | apply pw_below_drewN | apply below_drew1) | exact HB.out)⟩
      · replace c5 := Bool.eq_false_iff.mpr c5
        subst c5
        have H1 : (if a1 = 0 then (some (0, 0, 7)) else (if 0 ≤ a1 then (if a1 ≤ (a0.size : Int) then ((utf8_DecodeLastRuneInString.f (a0.extract 0 (a1 : Int).toNat)).bind fun bt116 => (if bt116.1 = 65533 then (if bt116.2 = 1 then (if 0 ≤ (wrap64 (a1 - 1)) then (if (wrap64 (a1 - 1)) < (a0.size : Int) then (some (wrap32 (1114112 + (wrap32 (bt a0 (wrap64 (a1 - 1))))), 1, 0)) else (none)) else (none)) else (some (bt116.1, bt116.2, 0))) else (some (bt116.1, bt116.2, 0)))) else (none)) else (none))) = some (r1, r2, r3) := by rw [if_neg (show ¬ (false = true) by decide)] at H; exact H
        clear H
        have H := H1
        clear H1
        by_cases c6 : a1 = 0
        · rw [if_pos c6] at H
          have c6b0 : (a1 == 0) = true := beq_iff_eq.mpr c6
          have c6b1 : (a1 != 0) = false := bne_eq_false_iff_eq.mpr c6
          clear c6
          simp only [Option.some.injEq, Prod.mk.injEq] at H
          obtain ⟨rfl, rfl, rfl⟩ := H
          go_wp2
          go_ret3
          exact ⟨by first | rfl | (simp [errW_none, errW_some] <;> rfl) | (simp [*, errW_none, errW_some] <;> rfl), by repeat (first | (with_reducible first | exact HB.out | apply below_alloc | apply pw_below_drewN | apply below_drew1) | exact HB.out)⟩
        · rw [if_neg c6] at H
          have c6b0 : (a1 == 0) = false := beq_eq_false_iff_ne.mpr c6
          have c6b1 : (a1 != 0) = true := bne_iff_ne.mpr c6
          by_cases c7 : 0 ≤ a1
          · rw [if_pos c7] at H
            have c7b0 := eq_true c7
            have c7b1 : decide (0 ≤ a1) = true := decide_eq_true c7
            clear c7
            by_cases c8 : a1 ≤ (a0.size : Int)
            · rw [if_pos c8] at H
              have c8b0 := eq_true c8
              have c8b1 : decide (a1 ≤ (a0.size : Int)) = true := decide_eq_true c8
              clear c8
              replace H := Option.bind_eq_some_iff.mp H
              obtain ⟨⟨t116, t117⟩, A90, H⟩ := H
              replace H : (if t116 = 65533 then (if t117 = 1 then (if 0 ≤ (wrap64 (a1 - 1)) then (if (wrap64 (a1 - 1)) < (a0.size : Int) then (some (wrap32 (1114112 + (wrap32 (bt a0 (wrap64 (a1 - 1))))), 1, 0)) else (none)) else (none)) else (some (t116, t117, 0))) else (some (t116, t117, 0))) = some (r1, r2, r3) := H
              have A9 := Aside0.mk A90
              clear A90
              by_cases c10 : t116 = 65533
              · rw [if_pos c10] at H
                have c10b0 : (t116 == 65533) = true := beq_iff_eq.mpr c10
                have c10b1 : (t116 != 65533) = false := bne_eq_false_iff_eq.mpr c10
                clear c10
                by_cases c11 : t117 = 1
                · rw [if_pos c11] at H
                  have c11b0 : (t117 == 1) = true := beq_iff_eq.mpr c11
                  have c11b1 : (t117 != 1) = false := bne_eq_false_iff_eq.mpr c11
                  clear c11
                  obtain ⟨ji12, hji12⟩ : ∃ j_ : Int, (wrap64 (a1 - 1)) = j_ := ⟨_, rfl⟩
                  replace H : (if 0 ≤ (ji12) then (if (ji12) < (a0.size : Int) then (some (wrap32 (1114112 + (wrap32 (bt a0 (ji12)))), 1, 0)) else (none)) else (none)) = some (r1, r2, r3) := by first | (rw [hji12] at H; exact H) | (simp only [hji12] at H ⊢; exact H)
                  (try rw [hji12] at A9)
                  have hji12w : (IntKind.i64.wrap (a1 - 1)) = ji12 := (i64_w _).trans hji12
                  by_cases c13 : 0 ≤ (ji12)
                  · rw [if_pos c13] at H
                    have c13b0 : decide (0 ≤ (ji12)) = true := decide_eq_true c13
                    clear c13
                    by_cases c14 : (ji12) < (a0.size : Int)
                    · rw [if_pos c14] at H
                      have c14b0 : decide ((ji12) < (a0.size : Int)) = true := decide_eq_true c14
                      clear c14
                      simp only [Option.some.injEq, Prod.mk.injEq] at H
                      obtain ⟨rfl, rfl, rfl⟩ := H
                      go_wp2_with (first | ((with_reducible refine gate_callee (f := 47) rfl ?_); refine goesL_ (some 25) rfl rfl Tryd.func47 (by kernel_rfl) rfl #[.string (a0.extract 0 (a1 : Int).toNat)] rfl (by (try simp only [List.map_toArray, List.map_cons, List.map_nil]); first | done | rfl | (simp only [List.length_drop, List.length_take]; rfl)) ?_; (with_reducible refine (utf8_DecodeLastRuneInString.calls (a0.extract 0 (a1 : Int).toNat) t116 t117 _ ?side1 A9.out).mono ?_); (case side1 => first | exact hG | exact Glob.of_below hG (by repeat (first | (with_reducible first | exact HB.out | apply below_alloc | apply pw_below_drewN | apply below_drew1) | exact HB.out)) | exact Glob.of_below hG HB.out | exact Glob.drewN hG _ | exact Glob.drew hG | (with_reducible repeat (first | exact hG | apply Glob.drewN | apply Glob.drew | apply Glob.alloc))); rintro e w16 ⟨rfl, hb⟩; refine ⟨_, rfl, ?_⟩; have n0_ := Aside0.mk (below_step (by repeat (first | (with_reducible first | exact HB.out | apply below_alloc | apply pw_below_drewN | apply below_drew1) | exact HB.out)) hb); clear HB; have HB := n0_; clear n0_; (try clear hb); (try clear hb2); (try clear hk); (try clear hi); have p15 : 0 ≤ ((ji12) : Int) := of_decide_eq_true (by first | (with_reducible assumption) | assumption); have q15 : (ji12) < (a0.size : Int) := of_decide_eq_true (by first | (with_reducible assumption) | assumption); have hx15 := bt_at a0 (ji12); replace p15 := eq_true p15; replace q15 := eq_true q15))
                      go_ret3
                      exact ⟨by first | rfl | (simp [errW_none, errW_some] <;> rfl) | (simp only [← hji12]; first | rfl | (simp [errW_none, errW_some] <;> rfl)) | (simp [*, errW_none, errW_some] <;> rfl), by repeat (first | (with_reducible first | exact HB.out | apply below_alloc | apply pw_below_drewN | apply below_drew1) | exact HB.out)⟩
                    · rw [if_neg c14] at H
                      exact absurd H (by simp)
                  · rw [if_neg c13] at H
                    exact absurd H (by simp)
                · rw [if_neg c11] at H
                  have c11b0 : (t117 == 1) = false := beq_eq_false_iff_ne.mpr c11
                  have c11b1 : (t117 != 1) = true := bne_iff_ne.mpr c11
                  simp only [Option.some.injEq, Prod.mk.injEq] at H
                  obtain ⟨rfl, rfl, rfl⟩ := H
                  go_wp2_with (first | ((with_reducible refine gate_callee (f := 47) rfl ?_); refine goesL_ (some 25) rfl rfl Tryd.func47 (by kernel_rfl) rfl #[.string (a0.extract 0 (a1 : Int).toNat)] rfl (by (try simp only [List.map_toArray, List.map_cons, List.map_nil]); first | done | rfl | (simp only [List.length_drop, List.length_take]; rfl)) ?_; (with_reducible refine (utf8_DecodeLastRuneInString.calls (a0.extract 0 (a1 : Int).toNat) t116 t117 _ ?side1 A9.out).mono ?_); (case side1 => first | exact hG | exact Glob.of_below hG (by repeat (first | (with_reducible first | exact HB.out | apply below_alloc | apply pw_below_drewN | apply below_drew1) | exact HB.out)) | exact Glob.of_below hG HB.out | exact Glob.drewN hG _ | exact Glob.drew hG | (with_reducible repeat (first | exact hG | apply Glob.drewN | apply Glob.drew | apply Glob.alloc))); rintro e w17 ⟨rfl, hb⟩; refine ⟨_, rfl, ?_⟩; have n0_ := Aside0.mk (below_step (by repeat (first | (with_reducible first | exact HB.out | apply below_alloc | apply pw_below_drewN | apply below_drew1) | exact HB.out)) hb); clear HB; have HB := n0_; clear n0_; (try clear hb); (try clear hb2); (try clear hk); (try clear hi)))
                  go_ret3
                  exact ⟨by first | rfl | (simp [errW_none, errW_some] <;> rfl) | (simp [*, errW_none, errW_some] <;> rfl), by repeat (first | (with_reducible first | exact HB.out | apply below_alloc | apply pw_below_drewN | apply below_drew1) | exact HB.out)⟩
              · rw [if_neg c10] at H
                have c10b0 : (t116 == 65533) = false := beq_eq_false_iff_ne.mpr c10
                have c10b1 : (t116 != 65533) = true := bne_iff_ne.mpr c10
                simp only [Option.some.injEq, Prod.mk.injEq] at H
                obtain ⟨rfl, rfl, rfl⟩ := H
                go_wp2_with (first | ((with_reducible refine gate_callee (f := 47) rfl ?_); refine goesL_ (some 25) rfl rfl Tryd.func47 (by kernel_rfl) rfl #[.string (a0.extract 0 (a1 : Int).toNat)] rfl (by (try simp only [List.map_toArray, List.map_cons, List.map_nil]); first | done | rfl | (simp only [List.length_drop, List.length_take]; rfl)) ?_; (with_reducible refine (utf8_DecodeLastRuneInString.calls (a0.extract 0 (a1 : Int).toNat) t116 t117 _ ?side1 A9.out).mono ?_); (case side1 => first | exact hG | exact Glob.of_below hG (by repeat (first | (with_reducible first | exact HB.out | apply below_alloc | apply pw_below_drewN | apply below_drew1) | exact HB.out)) | exact Glob.of_below hG HB.out | exact Glob.drewN hG _ | exact Glob.drew hG | (with_reducible repeat (first | exact hG | apply Glob.drewN | apply Glob.drew | apply Glob.alloc))); rintro e w18 ⟨rfl, hb⟩; refine ⟨_, rfl, ?_⟩; have n0_ := Aside0.mk (below_step (by repeat (first | (with_reducible first | exact HB.out | apply below_alloc | apply pw_below_drewN | apply below_drew1) | exact HB.out)) hb); clear HB; have HB := n0_; clear n0_; (try clear hb); (try clear hb2); (try clear hk); (try clear hi)))
                go_ret3
                exact ⟨by first | rfl | (simp [errW_none, errW_some] <;> rfl) | (simp [*, errW_none, errW_some] <;> rfl), by repeat (first | (with_reducible first | exact HB.out | apply below_alloc | apply pw_below_drewN | apply below_drew1) | exact HB.out)⟩
            · rw [if_neg c8] at H
              exact absurd H (by simp)
          · rw [if_neg c7] at H
            exact absurd H (by simp)

end Go.Proofs.YtaipokmbgcmciaaDoor.PU
