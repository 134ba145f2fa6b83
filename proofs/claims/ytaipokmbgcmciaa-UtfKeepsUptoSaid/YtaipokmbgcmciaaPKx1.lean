/- Contracts of functions that the law reaches: what each call answers, as a plain function of what it reads; on condition that the function answers there. Printed by this session's own tool. -/
import Derived.Test.YtaipokmbgcmciaaPKx0
namespace Go.Proofs.Ytaipokmbgcmciaa.PK
open Go.RowKit Go.Proofs.Ytaipokmbgcmciaa.B Go.Proofs.YtaipokmbgcmciaaW.PrintWords Go.Proofs.YtaipokmbgcmciaaW.PrintLast Go.Proofs.YtaipokmbgcmciaaW.PrintMore
attribute [local go_sem] max2_int min2_int max_two min_two max_three min_three max_four min_four   -- for this text's walks alone
set_option linter.unusedVariables false
set_option linter.unusedSimpArgs false

/-! ### stringslite_HasPrefix: function 41 -/
def stringslite_HasPrefix.f (a0 : ByteArray) (a1 : ByteArray) : Option (Bool) := if (a0.size : Int) ≥ (a1.size : Int) then (if 0 ≤ (a1.size : Int) then (if (a1.size : Int) ≤ (a0.size : Int) then (some ((a0.extract 0 ((a1.size : Int) : Int).toNat).toList == a1.toList)) else (none)) else (none)) else (some false)
set_option maxHeartbeats 8000000 in
set_option maxRecDepth 100000 in
theorem stringslite_HasPrefix.calls (a0 : ByteArray) (a1 : ByteArray) (r : Bool) (w : World) (h : stringslite_HasPrefix.f a0 a1 = some r) :
    Calls Try.prog 41 #[.string a0, .string a1] w fun e w' => e = .returned (.bool r) ∧ Drawn0 w w' := by
  have H : (if (a0.size : Int) ≥ (a1.size : Int) then (if 0 ≤ (a1.size : Int) then (if (a1.size : Int) ≤ (a0.size : Int) then (some ((a0.extract 0 ((a1.size : Int) : Int).toNat).toList == a1.toList)) else (none)) else (none)) else (some false)) = some r := h
  clear h
  by_cases c3 : (a0.size : Int) ≥ (a1.size : Int)
  · rw [if_pos c3] at H
    have c3b0 : decide ((a1.size : Int) ≤ (a0.size : Int)) = true := decide_eq_true c3
    have c3b1 : decide (a1.size ≤ a0.size) = true := decide_eq_true (Int.ofNat_le.mp c3)
    clear c3
    by_cases c4 : 0 ≤ (a1.size : Int)
    · rw [if_pos c4] at H
      have c4b0 := eq_true c4
      have c4b1 : decide (0 ≤ (a1.size : Int)) = true := decide_eq_true c4
      clear c4
      by_cases c5 : (a1.size : Int) ≤ (a0.size : Int)
      · rw [if_pos c5] at H
        have c5b0 := eq_true c5
        have c5b1 : decide ((a1.size : Int) ≤ (a0.size : Int)) = true := decide_eq_true c5
        clear c5
        obtain rfl := Option.some.inj H
        go_enter Try.func41, Try.ntmps41
        go_wp2
        go_ret
        exact ⟨by first | rfl | (simp; done) | (simp [*]; done), by repeat (first | exact Drawn0.refl _ | apply Drawn0.step)⟩
      · rw [if_neg c5] at H
        exact absurd H (by simp)
    · rw [if_neg c4] at H
      exact absurd H (by simp)
  · rw [if_neg c3] at H
    have c3b0 : decide ((a1.size : Int) ≤ (a0.size : Int)) = false := decide_eq_false c3
    have c3b1 : decide (a1.size ≤ a0.size) = false := decide_eq_false (fun h => c3 (Int.ofNat_le.mpr h))
    clear c3
    obtain rfl := Option.some.inj H
    go_enter Try.func41, Try.ntmps41
    go_wp2
    go_ret
    exact ⟨by first | rfl | (simp; done) | (simp [*]; done), by repeat (first | exact Drawn0.refl _ | apply Drawn0.step)⟩

/-! ### strings_HasPrefix: function 37 -/
def strings_HasPrefix.f (a0 : ByteArray) (a1 : ByteArray) : Option (Bool) := (stringslite_HasPrefix.f a0 a1).bind fun t101 => (some t101)
set_option maxHeartbeats 8000000 in
set_option maxRecDepth 100000 in
theorem strings_HasPrefix.calls (a0 : ByteArray) (a1 : ByteArray) (r : Bool) (w : World) (h : strings_HasPrefix.f a0 a1 = some r) :
    Calls Try.prog 37 #[.string a0, .string a1] w fun e w' => e = .returned (.bool r) ∧ Drawn0 w w' := by
  have H : ((stringslite_HasPrefix.f a0 a1).bind fun t101 => (some t101)) = some r := h
  clear h
  replace H := Option.bind_eq_some_iff.mp H
  obtain ⟨t101, A30, H⟩ := H
  replace H : (some t101) = some r := H
  have A3 := Aside0.mk A30
  clear A30
  obtain rfl := Option.some.inj H
  go_enter Try.func37, Try.ntmps37
  go_wp2_with (first | ((with_reducible refine gate_callee (f := 41) rfl ?_); refine goesL_ (some 7) rfl rfl Try.func41 (by kernel_rfl) rfl #[.string a0, .string a1] rfl (by (try simp only [List.map_toArray, List.map_cons, List.map_nil]); first | done | rfl | (simp only [List.length_drop, List.length_take]; rfl)) ?_; (with_reducible refine (stringslite_HasPrefix.calls a0 a1 t101 _ A3.out).mono ?_); rintro e w' ⟨rfl, ⟨nd, rfl⟩⟩; refine ⟨_, rfl, ?_⟩))
  go_ret
  exact ⟨by first | rfl | (simp; done) | (simp [*]; done), by repeat (first | exact Drawn0.refl _ | apply Drawn0.step)⟩

/-! ### utf_number: function 31 -/
def utf_number.f (a0 : ByteArray) (a1 : Int) (a2 : Int) : Option (Int) := if a2 = 65533 then (if 0 ≤ a1 then (if a1 ≤ (a0.size : Int) then ((strings_HasPrefix.f (a0.extract (a1 : Int).toNat a0.size) (⟨#[239, 191, 189]⟩ : ByteArray)).bind fun t102 => (if t102 = true then (some a2) else (if a1 < (a0.size : Int) then (some (wrap32 (1114112 + (wrap32 (bt a0 a1))))) else (none)))) else (none)) else (none)) else (some a2)
set_option maxHeartbeats 8000000 in
set_option maxRecDepth 100000 in
theorem utf_number.calls (a0 : ByteArray) (a1 : Int) (a2 : Int) (r : Int) (w : World) (h : utf_number.f a0 a1 a2 = some r) :
    Calls Try.prog 31 #[.string a0, .int .i64 a1, .int .i32 a2] w fun e w' => e = .returned (.int .i32 r) ∧ Drawn0 w w' := by
  have H : (if a2 = 65533 then (if 0 ≤ a1 then (if a1 ≤ (a0.size : Int) then ((strings_HasPrefix.f (a0.extract (a1 : Int).toNat a0.size) (⟨#[239, 191, 189]⟩ : ByteArray)).bind fun t102 => (if t102 = true then (some a2) else (if a1 < (a0.size : Int) then (some (wrap32 (1114112 + (wrap32 (bt a0 a1))))) else (none)))) else (none)) else (none)) else (some a2)) = some r := h
  clear h
  by_cases c4 : a2 = 65533
  · rw [if_pos c4] at H
    have c4b0 : (a2 == 65533) = true := beq_iff_eq.mpr c4
    have c4b1 : (a2 != 65533) = false := bne_eq_false_iff_eq.mpr c4
    clear c4
    by_cases c5 : 0 ≤ a1
    · rw [if_pos c5] at H
      have c5b0 := eq_true c5
      have c5b1 : decide (0 ≤ a1) = true := decide_eq_true c5
      clear c5
      by_cases c6 : a1 ≤ (a0.size : Int)
      · rw [if_pos c6] at H
        have c6b0 := eq_true c6
        have c6b1 : decide (a1 ≤ (a0.size : Int)) = true := decide_eq_true c6
        clear c6
        replace H := Option.bind_eq_some_iff.mp H
        obtain ⟨t102, A70, H⟩ := H
        replace H : (if t102 = true then (some a2) else (if a1 < (a0.size : Int) then (some (wrap32 (1114112 + (wrap32 (bt a0 a1))))) else (none))) = some r := H
        have A7 := Aside0.mk A70
        clear A70
        by_cases c8 : t102 = true
        · subst c8
          have H1 : (some a2) = some r := by rw [if_pos rfl] at H; exact H
          clear H
          have H := H1
          clear H1
          obtain rfl := Option.some.inj H
          go_enter Try.func31, Try.ntmps31
          go_wp2_with (first | (go_at_call 37; (with_reducible refine (strings_HasPrefix.calls (a0.extract (a1 : Int).toNat a0.size) (⟨#[239, 191, 189]⟩ : ByteArray) true _ A7.out).mono ?_); rintro e w' ⟨rfl, ⟨nd, rfl⟩⟩))
          go_ret
          exact ⟨by first | rfl | (simp; done) | (simp [*]; done), by repeat (first | exact Drawn0.refl _ | apply Drawn0.step)⟩
        · replace c8 := Bool.eq_false_iff.mpr c8
          subst c8
          have H1 : (if a1 < (a0.size : Int) then (some (wrap32 (1114112 + (wrap32 (bt a0 a1))))) else (none)) = some r := by rw [if_neg (show ¬ (false = true) by decide)] at H; exact H
          clear H
          have H := H1
          clear H1
          by_cases c9 : a1 < (a0.size : Int)
          · rw [if_pos c9] at H
            have c9b0 : decide (a1 < (a0.size : Int)) = true := decide_eq_true c9
            clear c9
            obtain rfl := Option.some.inj H
            go_enter Try.func31, Try.ntmps31
            go_wp2_with (first | (go_at_call 37; (with_reducible refine (strings_HasPrefix.calls (a0.extract (a1 : Int).toNat a0.size) (⟨#[239, 191, 189]⟩ : ByteArray) false _ A7.out).mono ?_); rintro e w' ⟨rfl, ⟨nd, rfl⟩⟩; have p10 : 0 ≤ (a1 : Int) := of_decide_eq_true (by first | (with_reducible assumption) | assumption); have q10 : a1 < (a0.size : Int) := of_decide_eq_true (by first | (with_reducible assumption) | assumption); have hx10 := bt_at a0 a1; replace p10 := eq_true p10; replace q10 := eq_true q10))
            go_ret
            exact ⟨by first | rfl | (simp; done) | (simp [*]; done), by repeat (first | exact Drawn0.refl _ | apply Drawn0.step)⟩
          · rw [if_neg c9] at H
            exact absurd H (by simp)
      · rw [if_neg c6] at H
        exact absurd H (by simp)
    · rw [if_neg c5] at H
      exact absurd H (by simp)
  · rw [if_neg c4] at H
    have c4b0 : (a2 == 65533) = false := beq_eq_false_iff_ne.mpr c4
    have c4b1 : (a2 != 65533) = true := bne_iff_ne.mpr c4
    obtain rfl := Option.some.inj H
    go_enter Try.func31, Try.ntmps31
    go_wp2
    go_ret
    exact ⟨by first | rfl | (simp; done) | (simp [*]; done), by repeat (first | exact Drawn0.refl _ | apply Drawn0.step)⟩
theorem utfNumber_at (s : ByteArray) (i : Nat) (hi : i < s.size) (hs : s.size ≤ 1073741824) :
    utf_number.f s (i : Int) ((Utf8.decode s i).1 : Int) = some (utfUnitAt s i) := by
  unfold utf_number.f strings_HasPrefix.f stringslite_HasPrefix.f utfUnitAt
  have hb := utfBt_span s i
  by_cases h : (Utf8.decode s i).1 = 65533
  · rw [if_pos (by omega), if_pos (by omega), if_pos (by omega)]
    have e3 : ((⟨#[239, 191, 189]⟩ : ByteArray).size : Int) = 3 := rfl
    have l3 : (⟨#[239, 191, 189]⟩ : ByteArray).toList = [239, 191, 189] := by decide +kernel
    rw [e3, l3]
    simp only [Int.toNat_natCast, h, true_and]
    by_cases hz : ((s.extract i s.size).size : Int) ≥ 3
    · rw [if_pos hz, if_pos (by omega), if_pos (by omega)]
      simp only [Option.bind_some]
      have t3 : (3 : Int).toNat = 3 := rfl
      rw [t3]
      by_cases hp : ((s.extract i s.size).extract 0 3).toList = [239, 191, 189]
      · rw [hp]
        simp
      · have : (((s.extract i s.size).extract 0 3).toList == [239, 191, 189]) = false := by simp [hp]
        rw [this]
        simp only [Bool.false_eq_true, if_false, hp, not_false_eq_true, if_true]
        rw [if_pos (by omega)]
        have w1 : wrap32 (bt s ↑i) = bt s ↑i := by unfold wrap32; omega
        rw [w1]
        have w2 : wrap32 (1114112 + bt s ↑i) = 1114112 + bt s ↑i := by unfold wrap32; omega
        rw [w2]
    · rw [if_neg hz]
      simp only [Option.bind_some, Bool.false_eq_true, if_false]
      have hp : ¬ ((s.extract i s.size).extract 0 3).toList = [239, 191, 189] := by
        intro e
        have e1 := congrArg List.length e
        have e2 : ((s.extract i s.size).extract 0 3).toList.length = ((s.extract i s.size).extract 0 3).size := by rw [ByteArray.toList_eq]; simp <;> omega
        rw [e2, ByteArray.size_extract] at e1
        simp at e1 hz
        omega
      rw [if_pos (by omega), if_pos hp]
      have w1 : wrap32 (bt s ↑i) = bt s ↑i := by unfold wrap32; omega
      rw [w1]
      have w2 : wrap32 (1114112 + bt s ↑i) = 1114112 + bt s ↑i := by unfold wrap32; omega
      rw [w2]
  · rw [if_neg (by omega), if_neg (by simp [h])]

/-! ### utf_Units: function 13 -/
def utf_Units.f (a0 : ByteArray) : Option (List Int) := if a0.size ≤ 1073741824 then some (utfFrom a0 a0.size 0) else none
set_option maxHeartbeats 4000000 in
set_option maxRecDepth 100000 in
theorem utf_Units.calls (a0 : ByteArray) (r : List Int) (w : World) (h : utf_Units.f a0 = some r) :
    Calls Try.prog 13 #[.string a0] w fun e w' => ∃ v0_ : Value, e = .returned (v0_) ∧ Kd.R (Kd.int .i32) 21 w' w.heap.size (fun _ => True) v0_ r ∧ Below w.heap.size w w' := by
  unfold utf_Units.f at h
  by_cases hs : a0.size ≤ 1073741824
  · rw [if_pos hs] at h
    obtain rfl := Option.some.inj h
    clear h
    go_enter Try.func13, Try.ntmps13
    go_wp2
    go_loopw [3] (fun v wr => ∃ (pos fuel : Nat) (acc : List Int), Aside0 (Kd.R (Kd.int .i32) 21 wr w.heap.size (fun q => q ≠ w.heap.size) v acc) ∧ Aside0 (wr.heap[w.heap.size]? = some (.stringIter a0 pos)) ∧ Aside0 (Below w.heap.size w wr) ∧ Aside0 (acc ++ utfFrom a0 fuel pos = utfFrom a0 a0.size 0) ∧ Aside0 (a0.size ≤ fuel + pos) ∧ Aside0 (acc.length ≤ pos ∧ pos ≤ a0.size)) (fun _ wr => a0.size - wr.iterPos w.heap.size)
    case atStart =>
      refine ⟨0, a0.size, [], ⟨Kd.R_nil _ _ _ _ _⟩, ⟨?_⟩, ⟨(Below.refl _ w).alloc (Nat.le_refl _) _⟩, ⟨rfl⟩, ⟨by omega⟩, ⟨by simp⟩⟩
      exact World.iter_heap w a0 0
    case round =>
      obtain ⟨pos, fuel, acc, HO, hit, HB, hacc, hfu, hle⟩ := hrel
      by_cases hp : pos < a0.size
      · have hnx : ∀ ty, (Instr.next (.pointer (some ⟨w.heap.size, 0, none⟩)) true ty).run Try.prog wr = _ := fun ty => Lib.run_next_any_at wr w.heap.size a0 pos ty hit.out hp
        have hwd := utfWidth_pos a0 pos hp
        have hd1 := decode_le a0 pos
        have hit2 := Aside0.mk (Lib.iterAt_heap wr w.heap.size a0 pos (pos + (Utf8.decode a0 pos).2) hit.out)
        have HB2 := Aside0.mk (Lib.below_iterAt HB.out (k := w.heap.size) (by omega) a0 (pos + (Utf8.decode a0 pos).2))
        have HO2 := Aside0.mk (utfKeeps_iter HO.out a0 (pos + (Utf8.decode a0 pos).2))
        have hnum := Aside0.mk (utfNumber_at a0 pos hp hs)
        have HIT := Aside0.mk hit.out
        have HSZ := Aside0.mk ((Array.getElem?_eq_some_iff.1 hit2.out).1)
        clear hit HB HO
        go_wp2_with (first | (go_at_call 31; refine (utf_number.calls a0 (pos : Int) ((Utf8.decode a0 pos).1 : Int) (utfUnitAt a0 pos) _ hnum.out).mono ?_; rintro e w1 ⟨rfl, ⟨nd, rfl⟩⟩) | (at_builtin; refine Kd.R_append (Kd.int .i32) (w0 := w) w.heap.size rfl (.tmp 12) (.tmp 17) 22 21 (.int .i32 0) 4 rfl Try.underlying22 info21 rfl (by decide) (by omega) _ acc (utfUnitAt a0 pos) [.int .i32 (utfUnitAt a0 pos)] (fun q => q ≠ w.heap.size) (fun _ => False) rfl rfl rfl (fun _ hk => hk.elim) ?aF ?aO ?aB ?aS ?aL ?_; (case aF => exact fun k hk => Nat.ne_of_gt (Nat.lt_of_lt_of_le HSZ.out hk)); (case aO => exact Kd.R_drewN HO2.out _); (case aB => exact pw_below_drewN HB2.out _); (case aS => exact below_size (pw_below_drewN HB2.out _)); (case aL => have := hle.out; omega); intro v1 w1 ho hb hg hat; have HO3 := Aside0.mk ho; have HB3 := Aside0.mk hb; have HG3 := Aside0.mk hg; clear ho hb hg hat))
        go_wp2
        have hit3 := Aside0.mk (utfIter_grown (show ((wr.iterAt w.heap.size a0 (pos + (Utf8.decode a0 pos).2)).drewN nd).heap[w.heap.size]? = some (.stringIter a0 (pos + (Utf8.decode a0 pos).2)) from hit2.out) HG3.out (utfRow_ne HO2.out))
        go_roundw
        case rel =>
          obtain ⟨f, rfl⟩ : ∃ f, fuel = f + 1 := ⟨fuel - 1, by have := hfu.out; omega⟩
          refine ⟨pos + (Utf8.decode a0 pos).2, f, acc ++ [utfUnitAt a0 pos], HO3, ⟨?_⟩, HB3, ⟨?_⟩, ⟨by have := hfu.out; omega⟩, ⟨?_⟩⟩
          · exact hit3.out
          · rw [← hacc.out]; simp [utfFrom, hp]
          · have := hle.out; have hd2 := utfDecode_fits a0 pos hp; simp; omega
        case measure =>
          have hd2 := utfDecode_fits a0 pos hp
          simp only [World.iterPos, hit3.out, HIT.out]
          omega
      · have hnx : ∀ ty, (Instr.next (.pointer (some ⟨w.heap.size, 0, none⟩)) true ty).run Try.prog wr = _ := fun ty => Lib.run_next_end_at wr w.heap.size a0 pos ty hit.out hp
        go_wp2
        go_ret
        have e1 := hacc.out
        rw [utfFrom_end a0 fuel pos hp, List.append_nil] at e1
        subst e1
        exact ⟨_, rfl, Kd.R_mono HO.out (fun _ _ => trivial), HB.out⟩
  · rw [if_neg hs] at h
    exact absurd h (by simp)

/-! ### thistlelaw01_awake: function 4 -/
def thistlelaw01_awake.f  : Option (Bool) := (utf_Units.f (⟨#[97, 195, 169, 255]⟩ : ByteArray)).bind fun t103 => (if (t103.length : Int) = 3 then (if 0 < (t103.length : Int) then (if (rd t103 0) = 97 then (if 1 < (t103.length : Int) then (if (rd t103 1) = 233 then (if 2 < (t103.length : Int) then (some ((rd t103 2) == 1114367)) else (none)) else (some false)) else (none)) else (some false)) else (none)) else (some false))
set_option maxHeartbeats 8000000 in
set_option maxRecDepth 100000 in
theorem thistlelaw01_awake.calls  (r : Bool) (w : World) (h : thistlelaw01_awake.f  = some r) :
    Calls Try.prog 4 #[] w fun e w' => e = .returned (.bool r) ∧ Below w.heap.size w w' := by
  have HB := Aside0.mk (Below.refl w.heap.size w)
  have H : ((utf_Units.f (⟨#[97, 195, 169, 255]⟩ : ByteArray)).bind fun t103 => (if (t103.length : Int) = 3 then (if 0 < (t103.length : Int) then (if (rd t103 0) = 97 then (if 1 < (t103.length : Int) then (if (rd t103 1) = 233 then (if 2 < (t103.length : Int) then (some ((rd t103 2) == 1114367)) else (none)) else (some false)) else (none)) else (some false)) else (none)) else (some false))) = some r := h
  clear h
  replace H := Option.bind_eq_some_iff.mp H
  obtain ⟨t103, A10, H⟩ := H
  replace H : (if (t103.length : Int) = 3 then (if 0 < (t103.length : Int) then (if (rd t103 0) = 97 then (if 1 < (t103.length : Int) then (if (rd t103 1) = 233 then (if 2 < (t103.length : Int) then (some ((rd t103 2) == 1114367)) else (none)) else (some false)) else (none)) else (some false)) else (none)) else (some false)) = some r := H
  have A1 := Aside0.mk A10
  clear A10
  by_cases c2 : (t103.length : Int) = 3
  · rw [if_pos c2] at H
    have c2b0 : ((t103.length : Int) == 3) = true := beq_iff_eq.mpr c2
    have c2b1 : ((t103.length : Int) != 3) = false := bne_eq_false_iff_eq.mpr c2
    clear c2
    by_cases c3 : 0 < (t103.length : Int)
    · rw [if_pos c3] at H
      have c3b0 : decide (0 < (t103.length : Int)) = true := decide_eq_true c3
      have c3b1 : decide (0 < t103.length) = true := decide_eq_true (by omega)
      clear c3
      by_cases c4 : (rd t103 0) = 97
      · rw [if_pos c4] at H
        have c4b0 : ((rd t103 0) == 97) = true := beq_iff_eq.mpr c4
        have c4b1 : ((rd t103 0) != 97) = false := bne_eq_false_iff_eq.mpr c4
        clear c4
        by_cases c5 : 1 < (t103.length : Int)
        · rw [if_pos c5] at H
          have c5b0 : decide (1 < (t103.length : Int)) = true := decide_eq_true c5
          have c5b1 : decide (1 < t103.length) = true := decide_eq_true (by omega)
          clear c5
          by_cases c6 : (rd t103 1) = 233
          · rw [if_pos c6] at H
            have c6b0 : ((rd t103 1) == 233) = true := beq_iff_eq.mpr c6
            have c6b1 : ((rd t103 1) != 233) = false := bne_eq_false_iff_eq.mpr c6
            clear c6
            by_cases c7 : 2 < (t103.length : Int)
            · rw [if_pos c7] at H
              have c7b0 : decide (2 < (t103.length : Int)) = true := decide_eq_true c7
              have c7b1 : decide (2 < t103.length) = true := decide_eq_true (by omega)
              clear c7
              obtain rfl := Option.some.inj H
              go_enter Try.func4, Try.ntmps4
              go_wp2_with (first | ((with_reducible refine gate_callee (f := 13) rfl ?_); refine goesL_ (some 2) rfl rfl Try.func13 (by kernel_rfl) rfl #[.string (⟨#[97, 195, 169, 255]⟩ : ByteArray)] rfl (by (try simp only [List.map_toArray, List.map_cons, List.map_nil]); first | done | rfl | (simp only [List.length_drop, List.length_take]; rfl)) ?_; (with_reducible refine (utf_Units.calls (⟨#[97, 195, 169, 255]⟩ : ByteArray) t103 _ A1.out).mono ?_); rintro e w8 ⟨v104, rfl, ho0, hb⟩; refine ⟨_, rfl, ?_⟩; have n0_ := Aside0.mk (Kd.R_lower ho0 (below_size (by repeat (first | (with_reducible first | exact HB.out | apply below_alloc | apply pw_below_drewN | apply below_drew1) | exact HB.out)))); have n1_ := Aside0.mk (below_step (by repeat (first | (with_reducible first | exact HB.out | apply below_alloc | apply pw_below_drewN | apply below_drew1) | exact HB.out)) hb); clear HB; have HO105 := n0_; have HB := n1_; clear n0_ n1_; (try clear hb); (try clear hb2); (try clear hk); (try clear hi); (try clear ho0); obtain ⟨Ao9, co9, eo9⟩ := Kd.R_slice HO105.out; subst eo9; have p106 : 0 ≤ (0 : Int) := (by omega); have q106 : 0 < (t103.length : Int) := of_decide_eq_true (by first | (with_reducible assumption) | assumption); obtain ⟨ad106, e106, hx106_0⟩ := Kd.at_int (Kd.R_reads' HO105.out).2.2 0 p106 q106; cases e106; have qi106 : (0 < t103.length) = True := eq_true (by omega); (try rw [show ((0 : Int)).toNat = 0 from rfl] at hx106_0); (try rw [Addr.add_zero'] at hx106_0); replace p106 := eq_true p106; replace q106 := eq_true q106; have p107 : 0 ≤ (1 : Int) := (by omega); have q107 : 1 < (t103.length : Int) := of_decide_eq_true (by first | (with_reducible assumption) | assumption); obtain ⟨ad107, e107, hx107_0⟩ := Kd.at_int (Kd.R_reads' HO105.out).2.2 1 p107 q107; obtain rfl : ad106 = ad107 := (by injection e107); (try simp only [show (1 : Int).toNat = 1 from rfl, Nat.reduceMul, Nat.reduceEqDiff, Go.Addr.add, ↓reduceIte] at hx107_0); have qi107 : (1 < t103.length) = True := eq_true (by omega); (try rw [show ((1 : Int)).toNat = 1 from rfl] at hx107_0); replace p107 := eq_true p107; replace q107 := eq_true q107; have p108 : 0 ≤ (2 : Int) := (by omega); have q108 : 2 < (t103.length : Int) := of_decide_eq_true (by first | (with_reducible assumption) | assumption); obtain ⟨ad108, e108, hx108_0⟩ := Kd.at_int (Kd.R_reads' HO105.out).2.2 2 p108 q108; obtain rfl : ad106 = ad108 := (by injection e108); (try simp only [show (2 : Int).toNat = 2 from rfl, Nat.reduceMul, Nat.reduceEqDiff, Go.Addr.add, ↓reduceIte] at hx108_0); have qi108 : (2 < t103.length) = True := eq_true (by omega); (try rw [show ((2 : Int)).toNat = 2 from rfl] at hx108_0); replace p108 := eq_true p108; replace q108 := eq_true q108))
              go_ret
              exact ⟨by first | rfl | (simp [errW_none, errW_some] <;> rfl) | (simp [*, errW_none, errW_some] <;> rfl), by repeat (first | (with_reducible first | exact HB.out | apply below_alloc | apply pw_below_drewN | apply below_drew1) | exact HB.out)⟩
            · rw [if_neg c7] at H
              exact absurd H (by simp)
          · rw [if_neg c6] at H
            have c6b0 : ((rd t103 1) == 233) = false := beq_eq_false_iff_ne.mpr c6
            have c6b1 : ((rd t103 1) != 233) = true := bne_iff_ne.mpr c6
            obtain rfl := Option.some.inj H
            go_enter Try.func4, Try.ntmps4
            go_wp2_with (first | ((with_reducible refine gate_callee (f := 13) rfl ?_); refine goesL_ (some 2) rfl rfl Try.func13 (by kernel_rfl) rfl #[.string (⟨#[97, 195, 169, 255]⟩ : ByteArray)] rfl (by (try simp only [List.map_toArray, List.map_cons, List.map_nil]); first | done | rfl | (simp only [List.length_drop, List.length_take]; rfl)) ?_; (with_reducible refine (utf_Units.calls (⟨#[97, 195, 169, 255]⟩ : ByteArray) t103 _ A1.out).mono ?_); rintro e w10 ⟨v104, rfl, ho0, hb⟩; refine ⟨_, rfl, ?_⟩; have n0_ := Aside0.mk (Kd.R_lower ho0 (below_size (by repeat (first | (with_reducible first | exact HB.out | apply below_alloc | apply pw_below_drewN | apply below_drew1) | exact HB.out)))); have n1_ := Aside0.mk (below_step (by repeat (first | (with_reducible first | exact HB.out | apply below_alloc | apply pw_below_drewN | apply below_drew1) | exact HB.out)) hb); clear HB; have HO105 := n0_; have HB := n1_; clear n0_ n1_; (try clear hb); (try clear hb2); (try clear hk); (try clear hi); (try clear ho0); obtain ⟨Ao11, co11, eo11⟩ := Kd.R_slice HO105.out; subst eo11; have p106 : 0 ≤ (0 : Int) := (by omega); have q106 : 0 < (t103.length : Int) := of_decide_eq_true (by first | (with_reducible assumption) | assumption); obtain ⟨ad106, e106, hx106_0⟩ := Kd.at_int (Kd.R_reads' HO105.out).2.2 0 p106 q106; cases e106; have qi106 : (0 < t103.length) = True := eq_true (by omega); (try rw [show ((0 : Int)).toNat = 0 from rfl] at hx106_0); (try rw [Addr.add_zero'] at hx106_0); replace p106 := eq_true p106; replace q106 := eq_true q106; have p107 : 0 ≤ (1 : Int) := (by omega); have q107 : 1 < (t103.length : Int) := of_decide_eq_true (by first | (with_reducible assumption) | assumption); obtain ⟨ad107, e107, hx107_0⟩ := Kd.at_int (Kd.R_reads' HO105.out).2.2 1 p107 q107; obtain rfl : ad106 = ad107 := (by injection e107); (try simp only [show (1 : Int).toNat = 1 from rfl, Nat.reduceMul, Nat.reduceEqDiff, Go.Addr.add, ↓reduceIte] at hx107_0); have qi107 : (1 < t103.length) = True := eq_true (by omega); (try rw [show ((1 : Int)).toNat = 1 from rfl] at hx107_0); replace p107 := eq_true p107; replace q107 := eq_true q107))
            go_ret
            exact ⟨by first | rfl | (simp [errW_none, errW_some] <;> rfl) | (simp [*, errW_none, errW_some] <;> rfl), by repeat (first | (with_reducible first | exact HB.out | apply below_alloc | apply pw_below_drewN | apply below_drew1) | exact HB.out)⟩
        · rw [if_neg c5] at H
          exact absurd H (by simp)
      · rw [if_neg c4] at H
        have c4b0 : ((rd t103 0) == 97) = false := beq_eq_false_iff_ne.mpr c4
        have c4b1 : ((rd t103 0) != 97) = true := bne_iff_ne.mpr c4
        obtain rfl := Option.some.inj H
        go_enter Try.func4, Try.ntmps4
        go_wp2_with (first | ((with_reducible refine gate_callee (f := 13) rfl ?_); refine goesL_ (some 2) rfl rfl Try.func13 (by kernel_rfl) rfl #[.string (⟨#[97, 195, 169, 255]⟩ : ByteArray)] rfl (by (try simp only [List.map_toArray, List.map_cons, List.map_nil]); first | done | rfl | (simp only [List.length_drop, List.length_take]; rfl)) ?_; (with_reducible refine (utf_Units.calls (⟨#[97, 195, 169, 255]⟩ : ByteArray) t103 _ A1.out).mono ?_); rintro e w12 ⟨v104, rfl, ho0, hb⟩; refine ⟨_, rfl, ?_⟩; have n0_ := Aside0.mk (Kd.R_lower ho0 (below_size (by repeat (first | (with_reducible first | exact HB.out | apply below_alloc | apply pw_below_drewN | apply below_drew1) | exact HB.out)))); have n1_ := Aside0.mk (below_step (by repeat (first | (with_reducible first | exact HB.out | apply below_alloc | apply pw_below_drewN | apply below_drew1) | exact HB.out)) hb); clear HB; have HO105 := n0_; have HB := n1_; clear n0_ n1_; (try clear hb); (try clear hb2); (try clear hk); (try clear hi); (try clear ho0); obtain ⟨Ao13, co13, eo13⟩ := Kd.R_slice HO105.out; subst eo13; have p106 : 0 ≤ (0 : Int) := (by omega); have q106 : 0 < (t103.length : Int) := of_decide_eq_true (by first | (with_reducible assumption) | assumption); obtain ⟨ad106, e106, hx106_0⟩ := Kd.at_int (Kd.R_reads' HO105.out).2.2 0 p106 q106; cases e106; have qi106 : (0 < t103.length) = True := eq_true (by omega); (try rw [show ((0 : Int)).toNat = 0 from rfl] at hx106_0); (try rw [Addr.add_zero'] at hx106_0); replace p106 := eq_true p106; replace q106 := eq_true q106))
        go_ret
        exact ⟨by first | rfl | (simp [errW_none, errW_some] <;> rfl) | (simp [*, errW_none, errW_some] <;> rfl), by repeat (first | (with_reducible first | exact HB.out | apply below_alloc | apply pw_below_drewN | apply below_drew1) | exact HB.out)⟩
    · rw [if_neg c3] at H
      exact absurd H (by simp)
  · rw [if_neg c2] at H
    have c2b0 : ((t103.length : Int) == 3) = false := beq_eq_false_iff_ne.mpr c2
    have c2b1 : ((t103.length : Int) != 3) = true := bne_iff_ne.mpr c2
    obtain rfl := Option.some.inj H
    go_enter Try.func4, Try.ntmps4
    go_wp2_with (first | ((with_reducible refine gate_callee (f := 13) rfl ?_); refine goesL_ (some 2) rfl rfl Try.func13 (by kernel_rfl) rfl #[.string (⟨#[97, 195, 169, 255]⟩ : ByteArray)] rfl (by (try simp only [List.map_toArray, List.map_cons, List.map_nil]); first | done | rfl | (simp only [List.length_drop, List.length_take]; rfl)) ?_; (with_reducible refine (utf_Units.calls (⟨#[97, 195, 169, 255]⟩ : ByteArray) t103 _ A1.out).mono ?_); rintro e w14 ⟨v104, rfl, ho0, hb⟩; refine ⟨_, rfl, ?_⟩; have n0_ := Aside0.mk (Kd.R_lower ho0 (below_size (by repeat (first | (with_reducible first | exact HB.out | apply below_alloc | apply pw_below_drewN | apply below_drew1) | exact HB.out)))); have n1_ := Aside0.mk (below_step (by repeat (first | (with_reducible first | exact HB.out | apply below_alloc | apply pw_below_drewN | apply below_drew1) | exact HB.out)) hb); clear HB; have HO105 := n0_; have HB := n1_; clear n0_ n1_; (try clear hb); (try clear hb2); (try clear hk); (try clear hi); (try clear ho0); obtain ⟨Ao15, co15, eo15⟩ := Kd.R_slice HO105.out; subst eo15))
    go_ret
    exact ⟨by first | rfl | (simp [errW_none, errW_some] <;> rfl) | (simp [*, errW_none, errW_some] <;> rfl), by repeat (first | (with_reducible first | exact HB.out | apply below_alloc | apply pw_below_drewN | apply below_drew1) | exact HB.out)⟩

/-! ### thistlelaw01_copied: function 5 -/
def thistlelaw01_copied.f (l0 : List Int) : Option (List Int) := (some (([] : List Int) : List Int)).bind fun y109 => (if y109.length + l0.length < 35184372088832 then (some (y109 ++ l0)) else (none))
set_option maxHeartbeats 8000000 in
set_option maxRecDepth 100000 in
theorem thistlelaw01_copied.calls (A0 : Option Addr) (c0 : Nat) (l0 : List Int) (r : List Int) (w : World) (hr0 : Kd.C (Kd.int .i32) w A0 l0.length l0) (hc0 : l0.length ≤ c0) (h : thistlelaw01_copied.f l0 = some r) :
    Calls Try.prog 5 #[.slice A0 l0.length c0] w fun e w' => ∃ v0_ : Value, e = .returned (v0_) ∧ Kd.R (Kd.int .i32) 21 w' w.heap.size (fun _ => True) v0_ r ∧ Below w.heap.size w w' := by
  have HR0 := Aside0.mk hr0
  have HC0 := Aside0.mk hc0
  clear hr0 hc0
  have HB := Aside0.mk (Below.refl w.heap.size w)
  have H : ((some (([] : List Int) : List Int)).bind fun y109 => (if y109.length + l0.length < 35184372088832 then (some (y109 ++ l0)) else (none))) = some r := h
  clear h
  obtain ⟨y109, hy109⟩ : ∃ y_ : List Int, y_ = (([] : List Int)) := ⟨_, rfl⟩
  replace H : (if y109.length + l0.length < 35184372088832 then (some (y109 ++ l0)) else (none)) = some r := by first | (rw [hy109]; with_reducible exact H) | (have H2_ := (Option.bind_some _ _).symm.trans H; rw [hy109]; with_reducible exact H2_) | (have H2_ := (Option.bind_some _ _).symm.trans H; with_reducible exact H2_) | with_reducible exact H | (rw [hy109]; exact H) | exact H
  have Ny109 := Aside0.mk hy109
  clear hy109
  by_cases c2 : y109.length + l0.length < 35184372088832
  · rw [if_pos c2] at H
    have LMc2 := Aside0.mk c2
    clear c2
    obtain ⟨y112, hy112⟩ : ∃ y_ : List Int, y_ = (y109 ++ l0) := ⟨_, rfl⟩
    replace H : (some y112) = some r := by first | (rw [hy112]; with_reducible exact H) | (have H2_ := (Option.bind_some _ _).symm.trans H; rw [hy112]; with_reducible exact H2_) | (have H2_ := (Option.bind_some _ _).symm.trans H; with_reducible exact H2_) | with_reducible exact H | (rw [hy112]; exact H) | exact H
    have Ny112 := Aside0.mk hy112
    clear hy112
    obtain rfl := Option.some.inj H
    go_enter Try.func5, Try.ntmps5
    go_wp2_with (first | ((with_reducible refine gate_dst (N := 3) rfl ?_); refine Kd.R_lit (Kd.int .i32) _ 21 ?hg (N := 3) ?hd (xs := ([] : List Int)) (inner := []) (ok := fun _ => True) (okp := fun _ => True) ?hr ?hp (fun _ hk => hk) trivial (Below.refl _ _) (Nat.le_refl _) (by simp) ?_; (case hd => rfl); (case hg => rfl); (case hr => first | (go_simp; done) | (go_simp; rfl)); (case hp => exact (Reps.none _ _)); intro v110 w3 ho4 hb hg_ hnew_; clear hg_ hnew_; (first | rw [← Ny109.out] at ho4 | (simp only [Int.reduceToNat] at ho4; rw [← Ny109.out] at ho4)); have n0_ := Aside0.mk (Kd.R_lower ho4 (below_size (by repeat (first | (with_reducible first | exact HB.out | apply below_alloc | apply pw_below_drewN | apply below_drew1) | exact HB.out)))); have n1_ := Aside0.mk (below_step (by repeat (first | (with_reducible first | exact HB.out | apply below_alloc | apply pw_below_drewN | apply below_drew1) | exact HB.out)) hb); clear HB; have HO111 := n0_; have HB := n1_; clear n0_ n1_; clear hb ho4) | ((with_reducible refine gate_builtin (b := .append) (xs := #[.tmp 3, .tmp 4]) rfl ?_); at_builtin; refine Kd.R_append_rows (Kd.int .i32) (w0 := w) w.heap.size rfl (.tmp 3) (.tmp 4) 22 21 (.int .i32 0) 4 rfl Try.underlying22 info21 rfl (by decide) (by omega) v110 y109 l0 _ _ _ (fun _ => True) (fun _ => False) rfl rfl ?aO ?aR (fun _ _ h => h) (fun _ h => h.elim) ?aF ?aB ?aS ?aL ?_; (case aR => repeat (first | exact (Kd.C_below HR0.out HB.out) | (with_reducible refine Kd.C_alloc ?_ _) | (with_reducible refine Kd.C_drewN ?_ _) | (with_reducible refine Kd.C_drew ?_))); (case aB => exact (by repeat (first | (with_reducible first | exact HB.out | apply below_alloc | apply pw_below_drewN | apply below_drew1) | exact HB.out))); (case aF => exact (fun _ _ => trivial)); (case aO => exact (by (with_reducible repeat (first | apply Kd.R_alloc | apply Kd.R_drewN | apply Kd.R_drew)); exact HO111.out)); (case aS => exact (below_size (by repeat (first | (with_reducible first | exact HB.out | apply below_alloc | apply pw_below_drewN | apply below_drew1) | exact HB.out)))); (case aL => have := LMc2.out; omega); intro v113 w5 ho hb hg hat; rw [← Ny112.out] at ho; have n0_ := Aside0.mk (hb); have n1_ := Aside0.mk (ho); clear HB; clear HO111; have HB := n0_; have HO114 := n1_; clear n0_ n1_; clear ho hb hg hat))
    go_ret
    exact ⟨_, by first | rfl | (simp [errW_none, errW_some] <;> rfl) | (simp [*, errW_none, errW_some] <;> rfl), by (with_reducible repeat (first | apply Kd.R_alloc | apply Kd.R_drewN | apply Kd.R_drew)); exact HO114.out, by repeat (first | (with_reducible first | exact HB.out | apply below_alloc | apply pw_below_drewN | apply below_drew1) | exact HB.out)⟩
  · rw [if_neg c2] at H
    exact absurd H (by simp)

/-! ### utf8_ValidRune: function 34 -/
def utf8_ValidRune.j0 : Nat → Int → Bool → Option (Bool)
  | 0, _, _ => none
  | k + 1, x0, x3 => if x3 = true then (some true) else (if 57343 < x0 then (if x0 ≤ 1114111 then (some true) else (some false)) else (some false))
def utf8_ValidRune.f (k : Nat) (a0 : Int) : Option (Bool) := if 0 ≤ a0 then (utf8_ValidRune.j0 k a0 (decide (a0 < 55296))) else (utf8_ValidRune.j0 k a0 false)
theorem utf8_ValidRune.mono_l : ∀ k, (∀ y0 y1, LeO (utf8_ValidRune.j0 k y0 y1) (utf8_ValidRune.j0 (k + 1) y0 y1))
  | 0 => fun _ _ r h => by simp [utf8_ValidRune.j0] at h
  | k + 1 => by
    have ih0 := utf8_ValidRune.mono_l k
    · intro y0 y1
      unfold utf8_ValidRune.j0
      repeat' first
      | (with_reducible exact ih0 _ _)
      | (with_reducible exact LeO.refl _)
      | (with_reducible exact LeO.none _)
      | (with_reducible refine LeO.ite ?_ ?_)
      | (with_reducible refine LeO.bind ?_ (fun _ => ?_))
      | exact ih0 _ _
      | exact LeO.none _
      | refine LeO.ite ?_ ?_
      | refine LeO.bind ?_ (fun _ => ?_)
theorem utf8_ValidRune.mono : ∀ a0 k, LeO (utf8_ValidRune.f k a0) (utf8_ValidRune.f (k + 1) a0) := by
  intro a0 k
  have ih0 := utf8_ValidRune.mono_l k
  unfold utf8_ValidRune.f
  repeat' first
      | (with_reducible exact ih0 _ _)
      | (with_reducible exact LeO.refl _)
      | (with_reducible exact LeO.none _)
      | (with_reducible refine LeO.ite ?_ ?_)
      | (with_reducible refine LeO.bind ?_ (fun _ => ?_))
      | exact ih0 _ _
      | exact LeO.none _
      | refine LeO.ite ?_ ?_
      | refine LeO.bind ?_ (fun _ => ?_)
set_option maxHeartbeats 8000000 in
set_option maxRecDepth 100000 in
theorem utf8_ValidRune.calls (k : Nat) (a0 : Int) (r : Bool) (w : World) (h : utf8_ValidRune.f k a0 = some r) :
    Calls Try.prog 34 #[.int .i32 a0] w fun e w' => e = .returned (.bool r) ∧ Drawn0 w w' := by
  have H : (if 0 ≤ a0 then (utf8_ValidRune.j0 k a0 (decide (a0 < 55296))) else (utf8_ValidRune.j0 k a0 false)) = some r := h
  clear h
  have HC2 := Aside0.mk H
  clear H
  go_enter Try.func34, Try.ntmps34
  go_upto_region 1 with (fail)
  go_cut [3] (fun v3 wc => ∃ (kq : Nat) (x3_1 : Bool), v3 = .bool x3_1 ∧ Aside0 (utf8_ValidRune.j0 kq a0 x3_1 = some r) ∧ Aside0 (kq ≤ k) ∧ Drawn0 w wc)
  case first =>
    have H := HC2.out
    clear HC2
    by_cases c3 : 0 ≤ a0
    · rw [if_pos c3] at H
      have c3b0 : decide (0 ≤ a0) = true := decide_eq_true c3
      clear c3
      (first | rw [c3b0] | (simp only [i64_w, i32_w]; rw [c3b0]) | skip)
      have H' := Aside0.mk H
      clear H
      go_wp2
      go_meet
      case rel => exact ⟨_, (decide (a0 < 55296)), (by first | rfl | (simp; done) | (simp [*]; done)), H', ⟨by first | omega | exact Nat.le_refl _⟩, by repeat (first | exact Drawn0.refl _ | apply Drawn0.step)⟩
    · rw [if_neg c3] at H
      have c3b0 : decide (0 ≤ a0) = false := decide_eq_false c3
      clear c3
      (first | rw [c3b0] | (simp only [i64_w, i32_w]; rw [c3b0]) | skip)
      have H' := Aside0.mk H
      clear H
      go_wp2
      go_meet
      case rel => exact ⟨_, (false), (by first | rfl | (simp; done) | (simp [*]; done)), H', ⟨by first | omega | exact Nat.le_refl _⟩, by repeat (first | exact Drawn0.refl _ | apply Drawn0.step)⟩
  case rest =>
    clear HC2
    try clear p2
    try clear c3
    try clear c3b0
    obtain ⟨kq, x3_1, rfl, HA, HJ1, ⟨mc1, rfl⟩⟩ := hcut
    cases kq with
    | zero => exact absurd HA.out (by simp [utf8_ValidRune.j0])
    | succ kj1 =>
      have H := HA.out
      clear HA
      simp only [utf8_ValidRune.j0] at H
      by_cases c4 : x3_1 = true
      · subst c4
        have H1 : (some true) = some r := by rw [if_pos rfl] at H; exact H
        clear H
        have H := H1
        clear H1
        obtain rfl := Option.some.inj H
        go_wp2
        go_ret
        exact ⟨by first | rfl | (simp; done) | (simp [*]; done), by repeat (first | exact Drawn0.refl _ | apply Drawn0.step)⟩
      · replace c4 := Bool.eq_false_iff.mpr c4
        subst c4
        have H1 : (if 57343 < a0 then (if a0 ≤ 1114111 then (some true) else (some false)) else (some false)) = some r := by rw [if_neg (show ¬ (false = true) by decide)] at H; exact H
        clear H
        have H := H1
        clear H1
        by_cases c5 : 57343 < a0
        · rw [if_pos c5] at H
          have c5b0 : decide (57343 < a0) = true := decide_eq_true c5
          clear c5
          by_cases c6 : a0 ≤ 1114111
          · rw [if_pos c6] at H
            have c6b0 : decide (a0 ≤ 1114111) = true := decide_eq_true c6
            clear c6
            obtain rfl := Option.some.inj H
            go_wp2
            go_ret
            exact ⟨by first | rfl | (simp; done) | (simp [*]; done), by repeat (first | exact Drawn0.refl _ | apply Drawn0.step)⟩
          · rw [if_neg c6] at H
            have c6b0 : decide (a0 ≤ 1114111) = false := decide_eq_false c6
            clear c6
            obtain rfl := Option.some.inj H
            go_wp2
            go_ret
            exact ⟨by first | rfl | (simp; done) | (simp [*]; done), by repeat (first | exact Drawn0.refl _ | apply Drawn0.step)⟩
        · rw [if_neg c5] at H
          have c5b0 : decide (57343 < a0) = false := decide_eq_false c5
          clear c5
          obtain rfl := Option.some.inj H
          go_wp2
          go_ret
          exact ⟨by first | rfl | (simp; done) | (simp [*]; done), by repeat (first | exact Drawn0.refl _ | apply Drawn0.step)⟩

/-! ### utf_unit: function 22 -/
def utf_unit.f (k : Nat) (a0 : Int) : Option (Bool) := (utf8_ValidRune.f k a0).bind fun t115 => (if t115 = true then (some true) else (if a0 ≥ 1114240 then (some (decide (a0 ≤ 1114367))) else (some false)))
theorem utf_unit.mono : ∀ a0 k, LeO (utf_unit.f k a0) (utf_unit.f (k + 1) a0) := by
  intro a0 k
  unfold utf_unit.f
  repeat' first
      | (with_reducible exact utf8_ValidRune.mono _ _)
      | (with_reducible exact LeO.refl _)
      | (with_reducible exact LeO.none _)
      | (with_reducible refine LeO.ite ?_ ?_)
      | (with_reducible refine LeO.bind ?_ (fun _ => ?_))
      | exact utf8_ValidRune.mono _ _
      | exact LeO.none _
      | refine LeO.ite ?_ ?_
      | refine LeO.bind ?_ (fun _ => ?_)
set_option maxHeartbeats 8000000 in
set_option maxRecDepth 100000 in
theorem utf_unit.calls (k : Nat) (a0 : Int) (r : Bool) (w : World) (h : utf_unit.f k a0 = some r) :
    Calls Try.prog 22 #[.int .i32 a0] w fun e w' => e = .returned (.bool r) ∧ Drawn0 w w' := by
  have H : ((utf8_ValidRune.f k a0).bind fun t115 => (if t115 = true then (some true) else (if a0 ≥ 1114240 then (some (decide (a0 ≤ 1114367))) else (some false)))) = some r := h
  clear h
  replace H := Option.bind_eq_some_iff.mp H
  obtain ⟨t115, A20, H⟩ := H
  replace H : (if t115 = true then (some true) else (if a0 ≥ 1114240 then (some (decide (a0 ≤ 1114367))) else (some false))) = some r := H
  have A2 := Aside0.mk A20
  clear A20
  by_cases c3 : t115 = true
  · subst c3
    have H1 : (some true) = some r := by rw [if_pos rfl] at H; exact H
    clear H
    have H := H1
    clear H1
    obtain rfl := Option.some.inj H
    go_enter Try.func22, Try.ntmps22
    go_wp2_with (first | ((with_reducible refine gate_callee (f := 34) rfl ?_); refine goesL_ (some 4) rfl rfl Try.func34 (by kernel_rfl) rfl #[.int .i32 a0] rfl (by (try simp only [List.map_toArray, List.map_cons, List.map_nil]); first | done | rfl | (simp only [List.length_drop, List.length_take]; rfl)) ?_; (with_reducible refine (utf8_ValidRune.calls k a0 true _ A2.out).mono ?_); rintro e w' ⟨rfl, ⟨nd, rfl⟩⟩; refine ⟨_, rfl, ?_⟩))
    go_ret
    exact ⟨by first | rfl | (simp; done) | (simp [*]; done), by repeat (first | exact Drawn0.refl _ | apply Drawn0.step)⟩
  · replace c3 := Bool.eq_false_iff.mpr c3
    subst c3
    have H1 : (if a0 ≥ 1114240 then (some (decide (a0 ≤ 1114367))) else (some false)) = some r := by rw [if_neg (show ¬ (false = true) by decide)] at H; exact H
    clear H
    have H := H1
    clear H1
    by_cases c4 : a0 ≥ 1114240
    · rw [if_pos c4] at H
      have c4b0 : decide (1114240 ≤ a0) = true := decide_eq_true c4
      clear c4
      obtain rfl := Option.some.inj H
      go_enter Try.func22, Try.ntmps22
      go_wp2_with (first | ((with_reducible refine gate_callee (f := 34) rfl ?_); refine goesL_ (some 4) rfl rfl Try.func34 (by kernel_rfl) rfl #[.int .i32 a0] rfl (by (try simp only [List.map_toArray, List.map_cons, List.map_nil]); first | done | rfl | (simp only [List.length_drop, List.length_take]; rfl)) ?_; (with_reducible refine (utf8_ValidRune.calls k a0 false _ A2.out).mono ?_); rintro e w' ⟨rfl, ⟨nd, rfl⟩⟩; refine ⟨_, rfl, ?_⟩))
      go_ret
      exact ⟨by first | rfl | (simp; done) | (simp [*]; done), by repeat (first | exact Drawn0.refl _ | apply Drawn0.step)⟩
    · rw [if_neg c4] at H
      have c4b0 : decide (1114240 ≤ a0) = false := decide_eq_false c4
      clear c4
      obtain rfl := Option.some.inj H
      go_enter Try.func22, Try.ntmps22
      go_wp2_with (first | ((with_reducible refine gate_callee (f := 34) rfl ?_); refine goesL_ (some 4) rfl rfl Try.func34 (by kernel_rfl) rfl #[.int .i32 a0] rfl (by (try simp only [List.map_toArray, List.map_cons, List.map_nil]); first | done | rfl | (simp only [List.length_drop, List.length_take]; rfl)) ?_; (with_reducible refine (utf8_ValidRune.calls k a0 false _ A2.out).mono ?_); rintro e w' ⟨rfl, ⟨nd, rfl⟩⟩; refine ⟨_, rfl, ?_⟩))
      go_ret
      exact ⟨by first | rfl | (simp; done) | (simp [*]; done), by repeat (first | exact Drawn0.refl _ | apply Drawn0.step)⟩
theorem utfUnit_is (u : Int) : utf_unit.f 3 u = some (utfIsUnit u) := by
  unfold utf_unit.f utf8_ValidRune.f utfIsUnit
  simp only [utf8_ValidRune.j0]
  by_cases h1 : 0 ≤ u
  · by_cases h2 : u < 55296
    · simp [h1, h2]
    · by_cases h3 : 57343 < u
      · by_cases h4 : u ≤ 1114111
        · simp [h1, h2, h3, h4]
        · by_cases h5 : u ≥ 1114240
          · simp [h1, h2, h3, h4, h5]
          · simp [h1, h2, h3, h4, h5]
      · have h4 : ¬ u ≥ 1114240 := by omega
        simp [h1, h2, h3, h4]
  · have h4 : ¬ u ≥ 1114240 := by omega
    have h5 : ¬ 57343 < u := by omega
    simp [h1, h4, h5]

/-! ### utf_Text: function 6 -/
def utf_Text.f (l0 : List Int) : Option (ByteArray × Int) :=
  if l0.length ≤ 1073741824 then (if l0.all utfIsUnit = true then some (utfTextOf l0, 0) else some (⟨#[]⟩, 2)) else none
theorem utfUnit_span (u : Int) (h : utfIsUnit u = true) : 0 ≤ u ∧ u ≤ 1114367 ∧ (u ≤ 1114111 ∨ 1114240 ≤ u) := by
  unfold utfIsUnit at h
  have := of_decide_eq_true h
  omega
theorem utfTake_flat (l : List Int) (k : Nat) (hk : k < l.length) (u : Int) (hu : u = l.getD k 0) : (l.take (k + 1)).flatMap utfBytesOf = (l.take k).flatMap utfBytesOf ++ utfBytesOf u := by
  rw [List.take_succ_eq_append_getElem hk, List.flatMap_append, hu, List.getD_eq_getElem?_getD, List.getElem?_eq_getElem hk]
  simp
theorem utfTake_all (l : List Int) (k : Nat) (hk : k < l.length) (u : Int) (hu : u = l.getD k 0) : (l.take (k + 1)).all utfIsUnit = ((l.take k).all utfIsUnit && utfIsUnit u) := by
  rw [List.take_succ_eq_append_getElem hk, List.all_append, hu, List.getD_eq_getElem?_getD, List.getElem?_eq_getElem hk]
  simp
theorem utfByte_cell (u : Int) (h1 : u ≤ 1114367) (h0 : u > 1114111) : Lib.byteCells [UInt8.ofNat (u - 1114112).toNat] = [.int .u8 (u - 1114112)] := by
  simp only [Lib.byteCells, List.map_cons, List.map_nil, List.cons.injEq, and_true, Value.int.injEq, true_and]
  rw [UInt8.toNat_ofNat']
  omega
theorem utfBytesOf_len (u : Int) : (utfBytesOf u).length ≤ 4 := by
  unfold utfBytesOf
  split
  · simp
  · have h := Lib.runeCells_le u
    rw [Lib.runeCells_length] at h
    omega
set_option maxHeartbeats 8000000 in
set_option maxRecDepth 100000 in
theorem utf_Text.calls (A0 : Option Addr) (c0 : Nat) (l0 : List Int) (r1 : ByteArray) (r2 : Int) (w : World) (hr0 : Kd.C (Kd.int .i32) w A0 l0.length l0) (hc0 : l0.length ≤ c0) (h : utf_Text.f l0 = some (r1, r2)) :
    Calls Try.prog 6 #[.slice A0 l0.length c0] w fun e w' => e = .returned (.tuple #[.string r1, .int .i64 r2]) ∧ Below w.heap.size w w' := by
  unfold utf_Text.f at h
  by_cases hs : l0.length ≤ 1073741824
  · rw [if_pos hs] at h
    have HR := Aside0.mk hr0
    have HF := Aside0.mk h
    clear hr0 h
    go_enter Try.func6, Try.ntmps6
    go_wp2
    go_loopw [9] (fun i wr => ∃ (k : Nat), i = .int .i64 (k : Int) ∧ k ≤ l0.length ∧ Aside0 (Lib.IsBuilderF 41 5 w.heap.size w.heap.size (Lib.byteCells ((l0.take k).flatMap utfBytesOf)) wr) ∧ Aside0 (Below w.heap.size w wr) ∧ Aside0 ((l0.take k).all utfIsUnit = true) ∧ Aside0 (((l0.take k).flatMap utfBytesOf).length ≤ 4 * k)) (fun i _ => l0.length - (intOf i).toNat)
    case atStart =>
      exact ⟨0, rfl, by omega, ⟨Lib.IsBuilderF.of (Lib.fresh_isBuilder 41 5 w)⟩, ⟨(Below.refl _ w).alloc (Nat.le_refl _) _⟩, ⟨rfl⟩, ⟨by simp⟩⟩
    case round =>
      obtain ⟨k, rfl, hk, HI, HB, HU, HL⟩ := hrel
      by_cases hp : k < l0.length
      · obtain ⟨ad, rfl⟩ : ∃ ad, A0 = some ad := by
          obtain ⟨ad, e, _⟩ := HR.out.2.2 (by omega)
          exact ⟨ad, e⟩
        have hcell := utfRunes_bytes wr 0 _ _ _ (Kd.C_below HR.out HB.out) ad rfl k hp (by omega)
        obtain ⟨u, hu⟩ : ∃ u, u = l0.getD k 0 := ⟨_, rfl⟩
        rw [← hu] at hcell
        have HU0 := Aside0.mk hu
        clear hu
        have hsz := HB.out.size
        have hlen := HL.out
        by_cases hb : utfIsUnit u = true
        · have hun := Aside0.mk ((utfUnit_is u).trans (by rw [hb]))
          have hsp := utfUnit_span u hb
          have HBU := Aside0.mk hb
          clear hb
          by_cases hm : u > 1114111
          · go_wp2_with (first | (go_at_call 22; refine (utf_unit.calls 3 _ _ _ hun.out).mono ?_; rintro e w1 ⟨rfl, ⟨nd, rfl⟩⟩))
            have hb3 := Aside0.mk (pw_below_drewN HB.out nd)
            refine (bldByte w.heap.size w.heap.size _ (u - 1114112) (wr.drewN nd) HI.out (by rw [Lib.byteCells_length]; omega) hsz).mono ?_
            rintro e w2 ⟨rfl, hb2, hbl, hko⟩
            have HB2 := Aside0.mk hb2
            have HBL := Aside0.mk (hb3.out.trans hbl)
            clear hb2 hbl hko
            go_wp2
            go_roundw
            case rel =>
              refine ⟨k + 1, by go_num, by omega, ⟨?_⟩, HBL, ⟨?_⟩, ⟨?_⟩⟩
              · rw [utfTake_flat l0 k hp u HU0.out, Lib.byteCells_append]
                have := HB2.out
                rw [show Lib.byteCells (utfBytesOf u) = [.int .u8 (u - 1114112)] from by unfold utfBytesOf; rw [if_pos hm]; exact utfByte_cell u hsp.2.1 hm]
                exact Or.inr this
              · rw [utfTake_all l0 k hp u HU0.out, HU.out, HBU.out]; rfl
              · rw [utfTake_flat l0 k hp u HU0.out, List.length_append]
                have := utfBytesOf_len u
                omega
            case measure => simp [intOf]; omega
          · go_wp2_with (first | (go_at_call 22; refine (utf_unit.calls 3 _ _ _ hun.out).mono ?_; rintro e w1 ⟨rfl, ⟨nd, rfl⟩⟩))
            have hb3 := Aside0.mk (pw_below_drewN HB.out nd)
            refine (bldRune w.heap.size w.heap.size _ u (by omega) (by omega) (wr.drewN nd) HI.out (by rw [Lib.byteCells_length]; omega) hsz).mono ?_
            rintro e w2 ⟨rfl, hb2, hbl, hko⟩
            have HB2 := Aside0.mk hb2
            have HBL := Aside0.mk (hb3.out.trans hbl)
            clear hb2 hbl hko
            go_wp2
            go_roundw
            case rel =>
              refine ⟨k + 1, by go_num, by omega, ⟨?_⟩, HBL, ⟨?_⟩, ⟨?_⟩⟩
              · rw [utfTake_flat l0 k hp u HU0.out, Lib.byteCells_append]
                have := HB2.out
                rw [show Lib.byteCells (utfBytesOf u) = Lib.runeCells u from by unfold utfBytesOf; rw [if_neg (by omega)]; exact Lib.byteCells_encodeRune u]
                exact Or.inr this
              · rw [utfTake_all l0 k hp u HU0.out, HU.out, HBU.out]; rfl
              · rw [utfTake_flat l0 k hp u HU0.out, List.length_append]
                have := utfBytesOf_len u
                omega
            case measure => simp [intOf]; omega
        · have hun := Aside0.mk ((utfUnit_is u).trans (by rw [Bool.eq_false_iff.2 hb]))
          have HBU := Aside0.mk hb
          clear hb
          go_wp2_with (first | (go_at_call 22; refine (utf_unit.calls 3 _ _ _ hun.out).mono ?_; rintro e w1 ⟨rfl, ⟨nd, rfl⟩⟩))
          go_ret2
          have hall : ¬ (l0.all utfIsUnit = true) := by
            intro ha
            rw [List.all_eq_true] at ha
            refine HBU.out (ha u ?_)
            rw [HU0.out, List.getD_eq_getElem?_getD, List.getElem?_eq_getElem hp]
            exact List.getElem_mem hp
          have h := HF.out
          rw [if_neg hall] at h
          simp only [Option.some.injEq, Prod.mk.injEq] at h
          obtain ⟨rfl, rfl⟩ := h
          exact ⟨rfl, pw_below_drewN HB.out _⟩
      · obtain rfl : k = l0.length := by omega
        go_wp2_with (go_at_call 25; refine (Try.Builder_String_any_k w.heap.size w.heap.size _ _ HI.out HB.out.size).mono ?_; rintro e w1 ⟨rfl, _, b1, _⟩)
        go_ret2
        have h := HF.out
        have hu := HU.out
        rw [List.take_length] at hu
        rw [if_pos hu] at h
        simp only [Option.some.injEq, Prod.mk.injEq] at h
        obtain ⟨rfl, rfl⟩ := h
        exact ⟨rfl, HB.out.trans b1⟩
  · rw [if_neg hs] at h
    exact absurd h (by simp)

/-! ### slices_Equal_rune_rune: function 26 -/
def slices_Equal_rune_rune.l0 : Nat → List Int → List Int → Int → Int → Option (Bool)
  | 0, _, _, _, _ => none
  | k + 1, x0, x1, x12, x13 => if x13 < x12 then (if 0 ≤ x13 then (if x13 < (x0.length : Int) then (if x13 < (x1.length : Int) then (if (rd x0 x13) = (rd x1 x13) then (slices_Equal_rune_rune.l0 k x0 x1 x12 (wrap64 (x13 + 1))) else (some false)) else (none)) else (none)) else (none)) else (some true)
def slices_Equal_rune_rune.f (k : Nat) (l0 : List Int) (l1 : List Int) : Option (Bool) := if (l0.length : Int) = (l1.length : Int) then (slices_Equal_rune_rune.l0 k l0 l1 (l0.length : Int) 0) else (some false)
theorem slices_Equal_rune_rune.mono_l : ∀ k, (∀ y0 y1 y2 y3, LeO (slices_Equal_rune_rune.l0 k y0 y1 y2 y3) (slices_Equal_rune_rune.l0 (k + 1) y0 y1 y2 y3))
  | 0 => fun _ _ _ _ r h => by simp [slices_Equal_rune_rune.l0] at h
  | k + 1 => by
    have ih0 := slices_Equal_rune_rune.mono_l k
    · intro y0 y1 y2 y3
      unfold slices_Equal_rune_rune.l0
      repeat' first
      | (with_reducible exact ih0 _ _ _ _)
      | (with_reducible exact LeO.refl _)
      | (with_reducible exact LeO.none _)
      | (with_reducible refine LeO.ite ?_ ?_)
      | (with_reducible refine LeO.bind ?_ (fun _ => ?_))
      | exact ih0 _ _ _ _
      | exact LeO.none _
      | refine LeO.ite ?_ ?_
      | refine LeO.bind ?_ (fun _ => ?_)
theorem slices_Equal_rune_rune.mono : ∀ a0 a1 k, LeO (slices_Equal_rune_rune.f k a0 a1) (slices_Equal_rune_rune.f (k + 1) a0 a1) := by
  intro a0 a1 k
  have ih0 := slices_Equal_rune_rune.mono_l k
  unfold slices_Equal_rune_rune.f
  repeat' first
      | (with_reducible exact ih0 _ _ _ _)
      | (with_reducible exact LeO.refl _)
      | (with_reducible exact LeO.none _)
      | (with_reducible refine LeO.ite ?_ ?_)
      | (with_reducible refine LeO.bind ?_ (fun _ => ?_))
      | exact ih0 _ _ _ _
      | exact LeO.none _
      | refine LeO.ite ?_ ?_
      | refine LeO.bind ?_ (fun _ => ?_)
set_option maxHeartbeats 8000000 in
set_option maxRecDepth 100000 in
theorem slices_Equal_rune_rune.calls (k : Nat) (A0 : Option Addr) (c0 : Nat) (l0 : List Int) (A1 : Option Addr) (c1 : Nat) (l1 : List Int) (r : Bool) (w : World) (hr0 : Kd.C (Kd.int .i32) w A0 l0.length l0) (hc0 : l0.length ≤ c0) (hr1 : Kd.C (Kd.int .i32) w A1 l1.length l1) (hc1 : l1.length ≤ c1) (h : slices_Equal_rune_rune.f k l0 l1 = some r) :
    Calls Try.prog 26 #[.slice A0 l0.length c0, .slice A1 l1.length c1] w fun e w' => e = .returned (.bool r) ∧ Drawn0 w w' := by
  have HR0 := Aside0.mk hr0
  have HC0 := Aside0.mk hc0
  clear hr0 hc0
  have HR1 := Aside0.mk hr1
  have HC1 := Aside0.mk hc1
  clear hr1 hc1
  have H : (if (l0.length : Int) = (l1.length : Int) then (slices_Equal_rune_rune.l0 k l0 l1 (l0.length : Int) 0) else (some false)) = some r := h
  clear h
  by_cases c3 : (l0.length : Int) = (l1.length : Int)
  · rw [if_pos c3] at H
    have c3b0 : ((l0.length : Int) == (l1.length : Int)) = true := beq_iff_eq.mpr c3
    have c3b1 : ((l0.length : Int) != (l1.length : Int)) = false := bne_eq_false_iff_eq.mpr c3
    have c3b2 : (l0.length == l1.length) = true := by first | simpa using c3 | (simp at c3 ⊢; omega)
    clear c3
    have H' := Aside0.mk H
    clear H
    go_enter Try.func26, Try.ntmps26
    go_wp2
    repeat (go_quiet (fail); try go_wp2)
    go_loopg [13] k (fun kq v13 w' => ∃ (x13_1 : Int), v13 = .int .i64 x13_1 ∧ Aside0 (slices_Equal_rune_rune.l0 kq l0 l1 (l0.length : Int) x13_1 = some r) ∧ Aside0 (kq ≤ k) ∧ Drawn0 w w')
    case atStart => exact ⟨(0), (by first | rfl | (simp; done) | (simp [*]; done)), H', ⟨Nat.le_refl _⟩, by repeat (first | exact Drawn0.refl _ | apply Drawn0.step)⟩
    case round =>
      clear H'
      try clear c1
      try clear c2
      try clear p2
      try clear c3
      try clear c3b0
      try clear c3b1
      try clear c3b2
      obtain ⟨x13_1, rfl, HA, HK1, ⟨m1, rfl⟩⟩ := hrel
      cases gk with
      | zero => exact absurd HA.out (by simp [slices_Equal_rune_rune.l0])
      | succ k1 =>
        have H := HA.out
        clear HA
        simp only [slices_Equal_rune_rune.l0] at H
        by_cases c4 : x13_1 < (l0.length : Int)
        · rw [if_pos c4] at H
          have c4b0 : decide (x13_1 < (l0.length : Int)) = true := decide_eq_true c4
          clear c4
          by_cases c5 : 0 ≤ x13_1
          · rw [if_pos c5] at H
            have c5b0 : decide (0 ≤ x13_1) = true := decide_eq_true c5
            clear c5
            by_cases c6 : x13_1 < (l0.length : Int)
            · rw [if_pos c6] at H
              have c6b0 : decide (x13_1 < (l0.length : Int)) = true := decide_eq_true c6
              clear c6
              by_cases c7 : x13_1 < (l1.length : Int)
              · rw [if_pos c7] at H
                have c7b0 : decide (x13_1 < (l1.length : Int)) = true := decide_eq_true c7
                clear c7
                by_cases c8 : (rd l0 x13_1) = (rd l1 x13_1)
                · rw [if_pos c8] at H
                  have c8b0 : ((rd l0 x13_1) == (rd l1 x13_1)) = true := beq_iff_eq.mpr c8
                  have c8b1 : ((rd l0 x13_1) != (rd l1 x13_1)) = false := bne_eq_false_iff_eq.mpr c8
                  clear c8
                  have H' := Aside0.mk H
                  clear H
                  have p116 : 0 ≤ (x13_1 : Int) := of_decide_eq_true (by first | (with_reducible assumption) | assumption)
                  have q116 : x13_1 < (l0.length : Int) := of_decide_eq_true (by first | (with_reducible assumption) | assumption)
                  obtain ⟨ad116, e116, hx116_0⟩ := Kd.at_int HR0.out x13_1 p116 q116
                  cases e116
                  replace p116 := eq_true p116
                  replace q116 := eq_true q116
                  have p117 : 0 ≤ (x13_1 : Int) := of_decide_eq_true (by first | (with_reducible assumption) | assumption)
                  have q117 : x13_1 < (l1.length : Int) := of_decide_eq_true (by first | (with_reducible assumption) | assumption)
                  obtain ⟨ad117, e117, hx117_0⟩ := Kd.at_int HR1.out x13_1 p117 q117
                  cases e117
                  replace p117 := eq_true p117
                  replace q117 := eq_true q117
                  go_wp2
                  repeat (go_quiet (fail); try go_wp2)
                  go_roundg k1
                  case measure => have := HK1.out; omega
                  case rel => exact ⟨(wrap64 (x13_1 + 1)), (by first | rfl | (simp; done) | (simp [*]; done)), H', ⟨by have := HK1.out; omega⟩, by repeat (first | exact Drawn0.refl _ | apply Drawn0.step)⟩
                · rw [if_neg c8] at H
                  have c8b0 : ((rd l0 x13_1) == (rd l1 x13_1)) = false := beq_eq_false_iff_ne.mpr c8
                  have c8b1 : ((rd l0 x13_1) != (rd l1 x13_1)) = true := bne_iff_ne.mpr c8
                  obtain rfl := Option.some.inj H
                  have p116 : 0 ≤ (x13_1 : Int) := of_decide_eq_true (by first | (with_reducible assumption) | assumption)
                  have q116 : x13_1 < (l0.length : Int) := of_decide_eq_true (by first | (with_reducible assumption) | assumption)
                  obtain ⟨ad116, e116, hx116_0⟩ := Kd.at_int HR0.out x13_1 p116 q116
                  cases e116
                  replace p116 := eq_true p116
                  replace q116 := eq_true q116
                  have p117 : 0 ≤ (x13_1 : Int) := of_decide_eq_true (by first | (with_reducible assumption) | assumption)
                  have q117 : x13_1 < (l1.length : Int) := of_decide_eq_true (by first | (with_reducible assumption) | assumption)
                  obtain ⟨ad117, e117, hx117_0⟩ := Kd.at_int HR1.out x13_1 p117 q117
                  cases e117
                  replace p117 := eq_true p117
                  replace q117 := eq_true q117
                  go_wp2
                  repeat (go_quiet (fail); try go_wp2)
                  go_ret
                  exact ⟨by first | rfl | (simp; done) | (simp [*]; done), by repeat (first | exact Drawn0.refl _ | apply Drawn0.step)⟩
              · rw [if_neg c7] at H
                exact absurd H (by simp)
            · rw [if_neg c6] at H
              exact absurd H (by simp)
          · rw [if_neg c5] at H
            exact absurd H (by simp)
        · rw [if_neg c4] at H
          have c4b0 : decide (x13_1 < (l0.length : Int)) = false := decide_eq_false c4
          clear c4
          obtain rfl := Option.some.inj H
          go_wp2
          repeat (go_quiet (fail); try go_wp2)
          go_ret
          exact ⟨by first | rfl | (simp; done) | (simp [*]; done), by repeat (first | exact Drawn0.refl _ | apply Drawn0.step)⟩
  · rw [if_neg c3] at H
    have c3b0 : ((l0.length : Int) == (l1.length : Int)) = false := beq_eq_false_iff_ne.mpr c3
    have c3b1 : ((l0.length : Int) != (l1.length : Int)) = true := bne_iff_ne.mpr c3
    have c3b2 : (l0.length == l1.length) = false := by first | simpa using c3 | (simp at c3 ⊢; omega)
    obtain rfl := Option.some.inj H
    go_enter Try.func26, Try.ntmps26
    go_wp2
    repeat (go_quiet (fail); try go_wp2)
    go_ret
    exact ⟨by first | rfl | (simp; done) | (simp [*]; done), by repeat (first | exact Drawn0.refl _ | apply Drawn0.step)⟩

/-! ### utf_Apart: function 7 -/
def utf_Apart.f (k : Nat) (l0 : List Int) : Option (Bool) := (utf_Text.f l0).bind fun bt118 => (if bt118.2 = 0 then ((utf_Units.f bt118.1).bind fun t120 => ((slices_Equal_rune_rune.f k t120 l0).bind fun t123 => (some t123))) else (some false))
theorem utf_Apart.mono : ∀ a0 k, LeO (utf_Apart.f k a0) (utf_Apart.f (k + 1) a0) := by
  intro a0 k
  unfold utf_Apart.f
  repeat' first
      | (with_reducible exact slices_Equal_rune_rune.mono _ _ _)
      | (with_reducible exact LeO.refl _)
      | (with_reducible exact LeO.none _)
      | (with_reducible refine LeO.ite ?_ ?_)
      | (with_reducible refine LeO.bind ?_ (fun _ => ?_))
      | exact slices_Equal_rune_rune.mono _ _ _
      | exact LeO.none _
      | refine LeO.ite ?_ ?_
      | refine LeO.bind ?_ (fun _ => ?_)
set_option maxHeartbeats 8000000 in
set_option maxRecDepth 100000 in
theorem utf_Apart.calls (k : Nat) (A0 : Option Addr) (c0 : Nat) (l0 : List Int) (r : Bool) (w : World) (hr0 : Kd.C (Kd.int .i32) w A0 l0.length l0) (hc0 : l0.length ≤ c0) (h : utf_Apart.f k l0 = some r) :
    Calls Try.prog 7 #[.slice A0 l0.length c0] w fun e w' => e = .returned (.bool r) ∧ Below w.heap.size w w' := by
  have HR0 := Aside0.mk hr0
  have HC0 := Aside0.mk hc0
  clear hr0 hc0
  have HB := Aside0.mk (Below.refl w.heap.size w)
  have H : ((utf_Text.f l0).bind fun bt118 => (if bt118.2 = 0 then ((utf_Units.f bt118.1).bind fun t120 => ((slices_Equal_rune_rune.f k t120 l0).bind fun t123 => (some t123))) else (some false))) = some r := h
  clear h
  replace H := Option.bind_eq_some_iff.mp H
  obtain ⟨⟨t118, t119⟩, A20, H⟩ := H
  replace H : (if t119 = 0 then ((utf_Units.f t118).bind fun t120 => ((slices_Equal_rune_rune.f k t120 l0).bind fun t123 => (some t123))) else (some false)) = some r := H
  have A2 := Aside0.mk A20
  clear A20
  by_cases c3 : t119 = 0
  · rw [if_pos c3] at H
    have c3b0 : (t119 == 0) = true := beq_iff_eq.mpr c3
    have c3b1 : (t119 != 0) = false := bne_eq_false_iff_eq.mpr c3
    clear c3
    replace H := Option.bind_eq_some_iff.mp H
    obtain ⟨t120, A40, H⟩ := H
    replace H : ((slices_Equal_rune_rune.f k t120 l0).bind fun t123 => (some t123)) = some r := H
    have A4 := Aside0.mk A40
    clear A40
    replace H := Option.bind_eq_some_iff.mp H
    obtain ⟨t123, A50, H⟩ := H
    replace H : (some t123) = some r := H
    have A5 := Aside0.mk A50
    clear A50
    obtain rfl := Option.some.inj H
    go_enter Try.func7, Try.ntmps7
    go_wp2_with (first | ((with_reducible refine gate_callee (f := 6) rfl ?_); refine goesL_ (some 7) rfl rfl Try.func6 (by kernel_rfl) rfl #[.slice A0 l0.length c0] rfl (by (try simp only [List.map_toArray, List.map_cons, List.map_nil]); first | done | rfl | (simp only [List.length_drop, List.length_take]; rfl)) ?_; (with_reducible refine (utf_Text.calls _ _ l0 t118 t119 _ ?side1 ?side2 A2.out).mono ?_); (case side1 => repeat (first | exact HR0.out | (with_reducible refine Kd.C_alloc ?_ _) | (with_reducible refine Kd.C_drewN ?_ _) | (with_reducible refine Kd.C_drew ?_))); (case side2 => exact HC0.out); rintro e w6 ⟨rfl, hb⟩; refine ⟨_, rfl, ?_⟩; have n0_ := Aside0.mk (below_step (by repeat (first | (with_reducible first | exact HB.out | apply below_alloc | apply pw_below_drewN | apply below_drew1) | exact HB.out)) hb); clear HB; have HB := n0_; clear n0_; (try clear hb); (try clear hb2); (try clear hk); (try clear hi)) | (go_at_call 13; (with_reducible refine (utf_Units.calls t118 t120 _ A4.out).mono ?_); rintro e w7 ⟨v121, rfl, ho0, hb⟩; have n0_ := Aside0.mk (Kd.R_lower ho0 (below_size (by repeat (first | (with_reducible first | exact HB.out | apply below_alloc | apply pw_below_drewN | apply below_drew1) | exact HB.out)))); have n1_ := Aside0.mk (below_step (by repeat (first | (with_reducible first | exact HB.out | apply below_alloc | apply pw_below_drewN | apply below_drew1) | exact HB.out)) hb); clear HB; have HO122 := n0_; have HB := n1_; clear n0_ n1_; (try clear hb); (try clear hb2); (try clear hk); (try clear hi); (try clear ho0); obtain ⟨Ao8, co8, eo8⟩ := Kd.R_slice HO122.out; subst eo8) | (go_at_call 26; (with_reducible refine (slices_Equal_rune_rune.calls k _ _ t120 _ _ l0 t123 _ ?side1 ?side2 ?side3 ?side4 A5.out).mono ?_); (case side1 => repeat (first | exact (Kd.R_reads' HO122.out).2.2 | (with_reducible refine Kd.C_alloc ?_ _) | (with_reducible refine Kd.C_drewN ?_ _) | (with_reducible refine Kd.C_drew ?_))); (case side2 => exact (Kd.R_reads' HO122.out).2.1); (case side3 => repeat (first | exact (Kd.C_below HR0.out HB.out) | (with_reducible refine Kd.C_alloc ?_ _) | (with_reducible refine Kd.C_drewN ?_ _) | (with_reducible refine Kd.C_drew ?_))); (case side4 => exact HC0.out); rintro e w' ⟨rfl, ⟨nd, rfl⟩⟩))
    go_ret
    exact ⟨by first | rfl | (simp [errW_none, errW_some] <;> rfl) | (simp [*, errW_none, errW_some] <;> rfl), by repeat (first | (with_reducible first | exact HB.out | apply below_alloc | apply pw_below_drewN | apply below_drew1) | exact HB.out)⟩
  · rw [if_neg c3] at H
    have c3b0 : (t119 == 0) = false := beq_eq_false_iff_ne.mpr c3
    have c3b1 : (t119 != 0) = true := bne_iff_ne.mpr c3
    obtain rfl := Option.some.inj H
    go_enter Try.func7, Try.ntmps7
    go_wp2_with (first | ((with_reducible refine gate_callee (f := 6) rfl ?_); refine goesL_ (some 7) rfl rfl Try.func6 (by kernel_rfl) rfl #[.slice A0 l0.length c0] rfl (by (try simp only [List.map_toArray, List.map_cons, List.map_nil]); first | done | rfl | (simp only [List.length_drop, List.length_take]; rfl)) ?_; (with_reducible refine (utf_Text.calls _ _ l0 t118 t119 _ ?side1 ?side2 A2.out).mono ?_); (case side1 => repeat (first | exact HR0.out | (with_reducible refine Kd.C_alloc ?_ _) | (with_reducible refine Kd.C_drewN ?_ _) | (with_reducible refine Kd.C_drew ?_))); (case side2 => exact HC0.out); rintro e w9 ⟨rfl, hb⟩; refine ⟨_, rfl, ?_⟩; have n0_ := Aside0.mk (below_step (by repeat (first | (with_reducible first | exact HB.out | apply below_alloc | apply pw_below_drewN | apply below_drew1) | exact HB.out)) hb); clear HB; have HB := n0_; clear n0_; (try clear hb); (try clear hb2); (try clear hk); (try clear hi)))
    go_ret
    exact ⟨by first | rfl | (simp [errW_none, errW_some] <;> rfl) | (simp [*, errW_none, errW_some] <;> rfl), by repeat (first | (with_reducible first | exact HB.out | apply below_alloc | apply pw_below_drewN | apply below_drew1) | exact HB.out)⟩

end Go.Proofs.Ytaipokmbgcmciaa.PK
