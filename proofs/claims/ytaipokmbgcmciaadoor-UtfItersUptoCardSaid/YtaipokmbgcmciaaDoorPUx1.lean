/- Contracts of functions that the law reaches: what each call answers, as a plain function of what it reads; on condition that the function answers there. Printed by this session's own tool. -/
import Derived.Test.YtaipokmbgcmciaaDoorPUx0
namespace Go.Proofs.YtaipokmbgcmciaaDoor.PU
open Go.RowKit Go.Proofs.YtaipokmbgcmciaaDoor.B Go.Proofs.YtaipokmbgcmciaaDoorW.PrintWords Go.Proofs.YtaipokmbgcmciaaDoorW.PrintLast Go.Proofs.YtaipokmbgcmciaaDoorW.PrintMore
attribute [local go_sem] max2_int min2_int max_two min_two max_three min_three max_four min_four   -- for this text's walks alone
set_option linter.unusedVariables false
set_option linter.unusedSimpArgs false

/-! ### stringslite_HasPrefix: function 65 -/
def stringslite_HasPrefix.f (a0 : ByteArray) (a1 : ByteArray) : Option (Bool) := if (a0.size : Int) ≥ (a1.size : Int) then (if 0 ≤ (a1.size : Int) then (if (a1.size : Int) ≤ (a0.size : Int) then (some ((a0.extract 0 ((a1.size : Int) : Int).toNat).toList == a1.toList)) else (none)) else (none)) else (some false)
set_option maxHeartbeats 8000000 in
set_option maxRecDepth 100000 in
theorem stringslite_HasPrefix.calls (a0 : ByteArray) (a1 : ByteArray) (r : Bool) (w : World) (h : stringslite_HasPrefix.f a0 a1 = some r) :
    Calls Tryd.prog 65 #[.string a0, .string a1] w fun e w' => e = .returned (.bool r) ∧ Drawn0 w w' := by
  have H : (if (a0.size : Int) ≥ (a1.size : Int) then (if 0 ≤ (a1.size : Int) then (if (a1.size : Int) ≤ (a0.size : Int) then (some ((a0.extract 0 ((a1.size : Int) : Int).toNat).toList == a1.toList)) else (none)) else (none)) else (some false)) = some r := h
  clear h
  by_cases c3 : (a0.size : Int) ≥ (a1.size : Int)
  · rw [if_pos c3] at H
    have c3b0 : decide ((a1.size : Int) ≤ (a0.size : Int)) = true := decide_eq_true c3
    have c3b1 : decide (a1.size ≤ a0.size) = true := decide_eq_true (Int.ofNat_le.mp c3)
    clear c3
    by_cases c4 : 0 ≤ (a1.size : Int)
    · rw [if_pos c4] at H
      have c4b0 := eq_true c4
      have c4b1 : decide (0 ≤ (a1.size : Int)) = true := decide_eq_true c4
      clear c4
      by_cases c5 : (a1.size : Int) ≤ (a0.size : Int)
      · rw [if_pos c5] at H
        have c5b0 := eq_true c5
        have c5b1 : decide ((a1.size : Int) ≤ (a0.size : Int)) = true := decide_eq_true c5
        clear c5
        obtain rfl := Option.some.inj H
        go_enter Tryd.func65, Tryd.ntmps65
        go_wp2
        go_ret
        exact ⟨by first | rfl | (simp; done) | (simp [*]; done), by repeat (first | exact Drawn0.refl _ | apply Drawn0.step)⟩
      · rw [if_neg c5] at H
        exact absurd H (by simp)
    · rw [if_neg c4] at H
      exact absurd H (by simp)
  · rw [if_neg c3] at H
    have c3b0 : decide ((a1.size : Int) ≤ (a0.size : Int)) = false := decide_eq_false c3
    have c3b1 : decide (a1.size ≤ a0.size) = false := decide_eq_false (fun h => c3 (Int.ofNat_le.mpr h))
    clear c3
    obtain rfl := Option.some.inj H
    go_enter Tryd.func65, Tryd.ntmps65
    go_wp2
    go_ret
    exact ⟨by first | rfl | (simp; done) | (simp [*]; done), by repeat (first | exact Drawn0.refl _ | apply Drawn0.step)⟩

/-! ### strings_HasPrefix: function 57 -/
def strings_HasPrefix.f (a0 : ByteArray) (a1 : ByteArray) : Option (Bool) := (stringslite_HasPrefix.f a0 a1).bind fun t101 => (some t101)
set_option maxHeartbeats 8000000 in
set_option maxRecDepth 100000 in
theorem strings_HasPrefix.calls (a0 : ByteArray) (a1 : ByteArray) (r : Bool) (w : World) (h : strings_HasPrefix.f a0 a1 = some r) :
    Calls Tryd.prog 57 #[.string a0, .string a1] w fun e w' => e = .returned (.bool r) ∧ Drawn0 w w' := by
  have H : ((stringslite_HasPrefix.f a0 a1).bind fun t101 => (some t101)) = some r := h
  clear h
  replace H := Option.bind_eq_some_iff.mp H
  obtain ⟨t101, A30, H⟩ := H
  replace H : (some t101) = some r := H
  have A3 := Aside0.mk A30
  clear A30
  obtain rfl := Option.some.inj H
  go_enter Tryd.func57, Tryd.ntmps57
  go_wp2_with (first | ((with_reducible refine gate_callee (f := 65) rfl ?_); refine goesL_ (some 7) rfl rfl Tryd.func65 (by kernel_rfl) rfl #[.string a0, .string a1] rfl (by (try simp only [List.map_toArray, List.map_cons, List.map_nil]); first | done | rfl | (simp only [List.length_drop, List.length_take]; rfl)) ?_; (with_reducible refine (stringslite_HasPrefix.calls a0 a1 t101 _ A3.out).mono ?_); rintro e w' ⟨rfl, ⟨nd, rfl⟩⟩; refine ⟨_, rfl, ?_⟩))
  go_ret
  exact ⟨by first | rfl | (simp; done) | (simp [*]; done), by repeat (first | exact Drawn0.refl _ | apply Drawn0.step)⟩

/-! ### utf_number: function 40 -/
def utf_number.f (a0 : ByteArray) (a1 : Int) (a2 : Int) : Option (Int) := if a2 = 65533 then (if 0 ≤ a1 then (if a1 ≤ (a0.size : Int) then ((strings_HasPrefix.f (a0.extract (a1 : Int).toNat a0.size) (⟨#[239, 191, 189]⟩ : ByteArray)).bind fun t102 => (if t102 = true then (some a2) else (if a1 < (a0.size : Int) then (some (wrap32 (1114112 + (wrap32 (bt a0 a1))))) else (none)))) else (none)) else (none)) else (some a2)
set_option maxHeartbeats 8000000 in
set_option maxRecDepth 100000 in
theorem utf_number.calls (a0 : ByteArray) (a1 : Int) (a2 : Int) (r : Int) (w : World) (h : utf_number.f a0 a1 a2 = some r) :
    Calls Tryd.prog 40 #[.string a0, .int .i64 a1, .int .i32 a2] w fun e w' => e = .returned (.int .i32 r) ∧ Drawn0 w w' := by
  have H : (if a2 = 65533 then (if 0 ≤ a1 then (if a1 ≤ (a0.size : Int) then ((strings_HasPrefix.f (a0.extract (a1 : Int).toNat a0.size) (⟨#[239, 191, 189]⟩ : ByteArray)).bind fun t102 => (if t102 = true then (some a2) else (if a1 < (a0.size : Int) then (some (wrap32 (1114112 + (wrap32 (bt a0 a1))))) else (none)))) else (none)) else (none)) else (some a2)) = some r := h
  clear h
  by_cases c4 : a2 = 65533
  · rw [if_pos c4] at H
    have c4b0 : (a2 == 65533) = true := beq_iff_eq.mpr c4
    have c4b1 : (a2 != 65533) = false := bne_eq_false_iff_eq.mpr c4
    clear c4
    by_cases c5 : 0 ≤ a1
    · rw [if_pos c5] at H
      have c5b0 := eq_true c5
      have c5b1 : decide (0 ≤ a1) = true := decide_eq_true c5
      clear c5
      by_cases c6 : a1 ≤ (a0.size : Int)
      · rw [if_pos c6] at H
        have c6b0 := eq_true c6
        have c6b1 : decide (a1 ≤ (a0.size : Int)) = true := decide_eq_true c6
        clear c6
        replace H := Option.bind_eq_some_iff.mp H
        obtain ⟨t102, A70, H⟩ := H
        replace H : (if t102 = true then (some a2) else (if a1 < (a0.size : Int) then (some (wrap32 (1114112 + (wrap32 (bt a0 a1))))) else (none))) = some r := H
        have A7 := Aside0.mk A70
        clear A70
        by_cases c8 : t102 = true
        · subst c8
          have H1 : (some a2) = some r := by rw [if_pos rfl] at H; exact H
          clear H
          have H := H1
          clear H1
          obtain rfl := Option.some.inj H
          go_enter Tryd.func40, Tryd.ntmps40
          go_wp2_with (first | (go_at_call 57; (with_reducible refine (strings_HasPrefix.calls (a0.extract (a1 : Int).toNat a0.size) (⟨#[239, 191, 189]⟩ : ByteArray) true _ A7.out).mono ?_); rintro e w' ⟨rfl, ⟨nd, rfl⟩⟩))
          go_ret
          exact ⟨by first | rfl | (simp; done) | (simp [*]; done), by repeat (first | exact Drawn0.refl _ | apply Drawn0.step)⟩
        · replace c8 := Bool.eq_false_iff.mpr c8
          subst c8
          have H1 : (if a1 < (a0.size : Int) then (some (wrap32 (1114112 + (wrap32 (bt a0 a1))))) else (none)) = some r := by rw [if_neg (show ¬ (false = true) by decide)] at H; exact H
          clear H
          have H := H1
          clear H1
          by_cases c9 : a1 < (a0.size : Int)
          · rw [if_pos c9] at H
            have c9b0 : decide (a1 < (a0.size : Int)) = true := decide_eq_true c9
            clear c9
            obtain rfl := Option.some.inj H
            go_enter Tryd.func40, Tryd.ntmps40
            go_wp2_with (first | (go_at_call 57; (with_reducible refine (strings_HasPrefix.calls (a0.extract (a1 : Int).toNat a0.size) (⟨#[239, 191, 189]⟩ : ByteArray) false _ A7.out).mono ?_); rintro e w' ⟨rfl, ⟨nd, rfl⟩⟩; have p10 : 0 ≤ (a1 : Int) := of_decide_eq_true (by first | (with_reducible assumption) | assumption); have q10 : a1 < (a0.size : Int) := of_decide_eq_true (by first | (with_reducible assumption) | assumption); have hx10 := bt_at a0 a1; replace p10 := eq_true p10; replace q10 := eq_true q10))
            go_ret
            exact ⟨by first | rfl | (simp; done) | (simp [*]; done), by repeat (first | exact Drawn0.refl _ | apply Drawn0.step)⟩
          · rw [if_neg c9] at H
            exact absurd H (by simp)
      · rw [if_neg c6] at H
        exact absurd H (by simp)
    · rw [if_neg c5] at H
      exact absurd H (by simp)
  · rw [if_neg c4] at H
    have c4b0 : (a2 == 65533) = false := beq_eq_false_iff_ne.mpr c4
    have c4b1 : (a2 != 65533) = true := bne_iff_ne.mpr c4
    obtain rfl := Option.some.inj H
    go_enter Tryd.func40, Tryd.ntmps40
    go_wp2
    go_ret
    exact ⟨by first | rfl | (simp; done) | (simp [*]; done), by repeat (first | exact Drawn0.refl _ | apply Drawn0.step)⟩
theorem utfNumber_at (s : ByteArray) (i : Nat) (hi : i < s.size) (hs : s.size ≤ 1073741824) :
    utf_number.f s (i : Int) ((Utf8.decode s i).1 : Int) = some (utfUnitAt s i) := by
  unfold utf_number.f strings_HasPrefix.f stringslite_HasPrefix.f utfUnitAt
  have hb := utfBt_span s i
  by_cases h : (Utf8.decode s i).1 = 65533
  · rw [if_pos (by omega), if_pos (by omega), if_pos (by omega)]
    have e3 : ((⟨#[239, 191, 189]⟩ : ByteArray).size : Int) = 3 := rfl
    have l3 : (⟨#[239, 191, 189]⟩ : ByteArray).toList = [239, 191, 189] := by decide +kernel
    rw [e3, l3]
    simp only [Int.toNat_natCast, h, true_and]
    by_cases hz : ((s.extract i s.size).size : Int) ≥ 3
    · rw [if_pos hz, if_pos (by omega), if_pos (by omega)]
      simp only [Option.bind_some]
      have t3 : (3 : Int).toNat = 3 := rfl
      rw [t3]
      by_cases hp : ((s.extract i s.size).extract 0 3).toList = [239, 191, 189]
      · rw [hp]
        simp
      · have : (((s.extract i s.size).extract 0 3).toList == [239, 191, 189]) = false := by simp [hp]
        rw [this]
        simp only [Bool.false_eq_true, if_false, hp, not_false_eq_true, if_true]
        rw [if_pos (by omega)]
        have w1 : wrap32 (bt s ↑i) = bt s ↑i := by unfold wrap32; omega
        rw [w1]
        have w2 : wrap32 (1114112 + bt s ↑i) = 1114112 + bt s ↑i := by unfold wrap32; omega
        rw [w2]
    · rw [if_neg hz]
      simp only [Option.bind_some, Bool.false_eq_true, if_false]
      have hp : ¬ ((s.extract i s.size).extract 0 3).toList = [239, 191, 189] := by
        intro e
        have e1 := congrArg List.length e
        have e2 : ((s.extract i s.size).extract 0 3).toList.length = ((s.extract i s.size).extract 0 3).size := by rw [ByteArray.toList_eq]; simp <;> omega
        rw [e2, ByteArray.size_extract] at e1
        simp at e1 hz
        omega
      rw [if_pos (by omega), if_pos hp]
      have w1 : wrap32 (bt s ↑i) = bt s ↑i := by unfold wrap32; omega
      rw [w1]
      have w2 : wrap32 (1114112 + bt s ↑i) = 1114112 + bt s ↑i := by unfold wrap32; omega
      rw [w2]
  · rw [if_neg (by omega), if_neg (by simp [h])]

/-! ### utf_Units: function 12 -/
def utf_Units.f (a0 : ByteArray) : Option (List Int) := if a0.size ≤ 1073741824 then some (utfFrom a0 a0.size 0) else none
set_option maxHeartbeats 4000000 in
set_option maxRecDepth 100000 in
theorem utf_Units.calls (a0 : ByteArray) (r : List Int) (w : World) (h : utf_Units.f a0 = some r) :
    Calls Tryd.prog 12 #[.string a0] w fun e w' => ∃ v0_ : Value, e = .returned (v0_) ∧ Kd.R (Kd.int .i32) 21 w' w.heap.size (fun _ => True) v0_ r ∧ Below w.heap.size w w' := by
  unfold utf_Units.f at h
  by_cases hs : a0.size ≤ 1073741824
  · rw [if_pos hs] at h
    obtain rfl := Option.some.inj h
    clear h
    go_enter Tryd.func12, Tryd.ntmps12
    go_wp2
    go_loopw [3] (fun v wr => ∃ (pos fuel : Nat) (acc : List Int), Aside0 (Kd.R (Kd.int .i32) 21 wr w.heap.size (fun q => q ≠ w.heap.size) v acc) ∧ Aside0 (wr.heap[w.heap.size]? = some (.stringIter a0 pos)) ∧ Aside0 (Below w.heap.size w wr) ∧ Aside0 (acc ++ utfFrom a0 fuel pos = utfFrom a0 a0.size 0) ∧ Aside0 (a0.size ≤ fuel + pos) ∧ Aside0 (acc.length ≤ pos ∧ pos ≤ a0.size)) (fun _ wr => a0.size - wr.iterPos w.heap.size)
    case atStart =>
      refine ⟨0, a0.size, [], ⟨Kd.R_nil _ _ _ _ _⟩, ⟨?_⟩, ⟨(Below.refl _ w).alloc (Nat.le_refl _) _⟩, ⟨rfl⟩, ⟨by omega⟩, ⟨by simp⟩⟩
      exact World.iter_heap w a0 0
    case round =>
      obtain ⟨pos, fuel, acc, HO, hit, HB, hacc, hfu, hle⟩ := hrel
      by_cases hp : pos < a0.size
      · have hnx : ∀ ty, (Instr.next (.pointer (some ⟨w.heap.size, 0, none⟩)) true ty).run Tryd.prog wr = _ := fun ty => Lib.run_next_any_at wr w.heap.size a0 pos ty hit.out hp
        have hwd := utfWidth_pos a0 pos hp
        have hd1 := decode_le a0 pos
        have hit2 := Aside0.mk (Lib.iterAt_heap wr w.heap.size a0 pos (pos + (Utf8.decode a0 pos).2) hit.out)
        have HB2 := Aside0.mk (Lib.below_iterAt HB.out (k := w.heap.size) (by omega) a0 (pos + (Utf8.decode a0 pos).2))
        have HO2 := Aside0.mk (utfKeeps_iter HO.out a0 (pos + (Utf8.decode a0 pos).2))
        have hnum := Aside0.mk (utfNumber_at a0 pos hp hs)
        have HIT := Aside0.mk hit.out
        have HSZ := Aside0.mk ((Array.getElem?_eq_some_iff.1 hit2.out).1)
        clear hit HB HO
        go_wp2_with (first | (go_at_call 40; refine (utf_number.calls a0 (pos : Int) ((Utf8.decode a0 pos).1 : Int) (utfUnitAt a0 pos) _ hnum.out).mono ?_; rintro e w1 ⟨rfl, ⟨nd, rfl⟩⟩) | (at_builtin; refine Kd.R_append (Kd.int .i32) (w0 := w) w.heap.size rfl (.tmp 12) (.tmp 17) 27 21 (.int .i32 0) 4 rfl Tryd.underlying27 info21 rfl (by decide) (by omega) _ acc (utfUnitAt a0 pos) [.int .i32 (utfUnitAt a0 pos)] (fun q => q ≠ w.heap.size) (fun _ => False) rfl rfl rfl (fun _ hk => hk.elim) ?aF ?aO ?aB ?aS ?aL ?_; (case aF => exact fun k hk => Nat.ne_of_gt (Nat.lt_of_lt_of_le HSZ.out hk)); (case aO => exact Kd.R_drewN HO2.out _); (case aB => exact pw_below_drewN HB2.out _); (case aS => exact below_size (pw_below_drewN HB2.out _)); (case aL => have := hle.out; omega); intro v1 w1 ho hb hg hat; have HO3 := Aside0.mk ho; have HB3 := Aside0.mk hb; have HG3 := Aside0.mk hg; clear ho hb hg hat))
        go_wp2
        have hit3 := Aside0.mk (utfIter_grown (show ((wr.iterAt w.heap.size a0 (pos + (Utf8.decode a0 pos).2)).drewN nd).heap[w.heap.size]? = some (.stringIter a0 (pos + (Utf8.decode a0 pos).2)) from hit2.out) HG3.out (utfRow_ne HO2.out))
        go_roundw
        case rel =>
          obtain ⟨f, rfl⟩ : ∃ f, fuel = f + 1 := ⟨fuel - 1, by have := hfu.out; omega⟩
          refine ⟨pos + (Utf8.decode a0 pos).2, f, acc ++ [utfUnitAt a0 pos], HO3, ⟨?_⟩, HB3, ⟨?_⟩, ⟨by have := hfu.out; omega⟩, ⟨?_⟩⟩
          · exact hit3.out
          · rw [← hacc.out]; simp [utfFrom, hp]
          · have := hle.out; have hd2 := utfDecode_fits a0 pos hp; simp; omega
        case measure =>
          have hd2 := utfDecode_fits a0 pos hp
          simp only [World.iterPos, hit3.out, HIT.out]
          omega
      · have hnx : ∀ ty, (Instr.next (.pointer (some ⟨w.heap.size, 0, none⟩)) true ty).run Tryd.prog wr = _ := fun ty => Lib.run_next_end_at wr w.heap.size a0 pos ty hit.out hp
        go_wp2
        go_ret
        have e1 := hacc.out
        rw [utfFrom_end a0 fuel pos hp, List.append_nil] at e1
        subst e1
        exact ⟨_, rfl, Kd.R_mono HO.out (fun _ _ => trivial), HB.out⟩
  · rw [if_neg hs] at h
    exact absurd h (by simp)

/-! ### thistlelaw01_awake: function 8 -/
def thistlelaw01_awake.f  : Option (Bool) := (utf_Units.f (⟨#[97, 195, 169, 255]⟩ : ByteArray)).bind fun t103 => (if (t103.length : Int) = 3 then (if 0 < (t103.length : Int) then (if (rd t103 0) = 97 then (if 1 < (t103.length : Int) then (if (rd t103 1) = 233 then (if 2 < (t103.length : Int) then (some ((rd t103 2) == 1114367)) else (none)) else (some false)) else (none)) else (some false)) else (none)) else (some false))
set_option maxHeartbeats 8000000 in
set_option maxRecDepth 100000 in
theorem thistlelaw01_awake.calls  (r : Bool) (w : World) (h : thistlelaw01_awake.f  = some r) :
    Calls Tryd.prog 8 #[] w fun e w' => e = .returned (.bool r) ∧ Below w.heap.size w w' := by
  have HB := Aside0.mk (Below.refl w.heap.size w)
  have H : ((utf_Units.f (⟨#[97, 195, 169, 255]⟩ : ByteArray)).bind fun t103 => (if (t103.length : Int) = 3 then (if 0 < (t103.length : Int) then (if (rd t103 0) = 97 then (if 1 < (t103.length : Int) then (if (rd t103 1) = 233 then (if 2 < (t103.length : Int) then (some ((rd t103 2) == 1114367)) else (none)) else (some false)) else (none)) else (some false)) else (none)) else (some false))) = some r := h
  clear h
  replace H := Option.bind_eq_some_iff.mp H
  obtain ⟨t103, A10, H⟩ := H
  replace H : (if (t103.length : Int) = 3 then (if 0 < (t103.length : Int) then (if (rd t103 0) = 97 then (if 1 < (t103.length : Int) then (if (rd t103 1) = 233 then (if 2 < (t103.length : Int) then (some ((rd t103 2) == 1114367)) else (none)) else (some false)) else (none)) else (some false)) else (none)) else (some false)) = some r := H
  have A1 := Aside0.mk A10
  clear A10
  by_cases c2 : (t103.length : Int) = 3
  · rw [if_pos c2] at H
    have c2b0 : ((t103.length : Int) == 3) = true := beq_iff_eq.mpr c2
    have c2b1 : ((t103.length : Int) != 3) = false := bne_eq_false_iff_eq.mpr c2
    clear c2
    by_cases c3 : 0 < (t103.length : Int)
    · rw [if_pos c3] at H
      have c3b0 : decide (0 < (t103.length : Int)) = true := decide_eq_true c3
      have c3b1 : decide (0 < t103.length) = true := decide_eq_true (by omega)
      clear c3
      by_cases c4 : (rd t103 0) = 97
      · rw [if_pos c4] at H
        have c4b0 : ((rd t103 0) == 97) = true := beq_iff_eq.mpr c4
        have c4b1 : ((rd t103 0) != 97) = false := bne_eq_false_iff_eq.mpr c4
        clear c4
        by_cases c5 : 1 < (t103.length : Int)
        · rw [if_pos c5] at H
          have c5b0 : decide (1 < (t103.length : Int)) = true := decide_eq_true c5
          have c5b1 : decide (1 < t103.length) = true := decide_eq_true (by omega)
          clear c5
          by_cases c6 : (rd t103 1) = 233
          · rw [if_pos c6] at H
            have c6b0 : ((rd t103 1) == 233) = true := beq_iff_eq.mpr c6
            have c6b1 : ((rd t103 1) != 233) = false := bne_eq_false_iff_eq.mpr c6
            clear c6
            by_cases c7 : 2 < (t103.length : Int)
            · rw [if_pos c7] at H
              have c7b0 : decide (2 < (t103.length : Int)) = true := decide_eq_true c7
              have c7b1 : decide (2 < t103.length) = true := decide_eq_true (by omega)
              clear c7
              obtain rfl := Option.some.inj H
              go_enter Tryd.func8, Tryd.ntmps8
              go_wp2_with (first | ((with_reducible refine gate_callee (f := 12) rfl ?_); refine goesL_ (some 2) rfl rfl Tryd.func12 (by kernel_rfl) rfl #[.string (⟨#[97, 195, 169, 255]⟩ : ByteArray)] rfl (by (try simp only [List.map_toArray, List.map_cons, List.map_nil]); first | done | rfl | (simp only [List.length_drop, List.length_take]; rfl)) ?_; (with_reducible refine (utf_Units.calls (⟨#[97, 195, 169, 255]⟩ : ByteArray) t103 _ A1.out).mono ?_); rintro e w8 ⟨v104, rfl, ho0, hb⟩; refine ⟨_, rfl, ?_⟩; have n0_ := Aside0.mk (Kd.R_lower ho0 (below_size (by repeat (first | (with_reducible first | exact HB.out | apply below_alloc | apply pw_below_drewN | apply below_drew1) | exact HB.out)))); have n1_ := Aside0.mk (below_step (by repeat (first | (with_reducible first | exact HB.out | apply below_alloc | apply pw_below_drewN | apply below_drew1) | exact HB.out)) hb); clear HB; have HO105 := n0_; have HB := n1_; clear n0_ n1_; (try clear hb); (try clear hb2); (try clear hk); (try clear hi); (try clear ho0); obtain ⟨Ao9, co9, eo9⟩ := Kd.R_slice HO105.out; subst eo9; have p106 : 0 ≤ (0 : Int) := (by omega); have q106 : 0 < (t103.length : Int) := of_decide_eq_true (by first | (with_reducible assumption) | assumption); obtain ⟨ad106, e106, hx106_0⟩ := Kd.at_int (Kd.R_reads' HO105.out).2.2 0 p106 q106; cases e106; have qi106 : (0 < t103.length) = True := eq_true (by omega); (try rw [show ((0 : Int)).toNat = 0 from rfl] at hx106_0); (try rw [Addr.add_zero'] at hx106_0); replace p106 := eq_true p106; replace q106 := eq_true q106; have p107 : 0 ≤ (1 : Int) := (by omega); have q107 : 1 < (t103.length : Int) := of_decide_eq_true (by first | (with_reducible assumption) | assumption); obtain ⟨ad107, e107, hx107_0⟩ := Kd.at_int (Kd.R_reads' HO105.out).2.2 1 p107 q107; obtain rfl : ad106 = ad107 := (by injection e107); (try simp only [show (1 : Int).toNat = 1 from rfl, Nat.reduceMul, Nat.reduceEqDiff, Go.Addr.add, ↓reduceIte] at hx107_0); have qi107 : (1 < t103.length) = True := eq_true (by omega); (try rw [show ((1 : Int)).toNat = 1 from rfl] at hx107_0); replace p107 := eq_true p107; replace q107 := eq_true q107; have p108 : 0 ≤ (2 : Int) := (by omega); have q108 : 2 < (t103.length : Int) := of_decide_eq_true (by first | (with_reducible assumption) | assumption); obtain ⟨ad108, e108, hx108_0⟩ := Kd.at_int (Kd.R_reads' HO105.out).2.2 2 p108 q108; obtain rfl : ad106 = ad108 := (by injection e108); (try simp only [show (2 : Int).toNat = 2 from rfl, Nat.reduceMul, Nat.reduceEqDiff, Go.Addr.add, ↓reduceIte] at hx108_0); have qi108 : (2 < t103.length) = True := eq_true (by omega); (try rw [show ((2 : Int)).toNat = 2 from rfl] at hx108_0); replace p108 := eq_true p108; replace q108 := eq_true q108))
              go_ret
              exact ⟨by first | rfl | (simp [errW_none, errW_some] <;> rfl) | (simp [*, errW_none, errW_some] <;> rfl), by repeat (first | (with_reducible first | exact HB.out | apply below_alloc | apply pw_below_drewN | apply below_drew1) | exact HB.out)⟩
            · rw [if_neg c7] at H
              exact absurd H (by simp)
          · rw [if_neg c6] at H
            have c6b0 : ((rd t103 1) == 233) = false := beq_eq_false_iff_ne.mpr c6
            have c6b1 : ((rd t103 1) != 233) = true := bne_iff_ne.mpr c6
            obtain rfl := Option.some.inj H
            go_enter Tryd.func8, Tryd.ntmps8
            go_wp2_with (first | ((with_reducible refine gate_callee (f := 12) rfl ?_); refine goesL_ (some 2) rfl rfl Tryd.func12 (by kernel_rfl) rfl #[.string (⟨#[97, 195, 169, 255]⟩ : ByteArray)] rfl (by (try simp only [List.map_toArray, List.map_cons, List.map_nil]); first | done | rfl | (simp only [List.length_drop, List.length_take]; rfl)) ?_; (with_reducible refine (utf_Units.calls (⟨#[97, 195, 169, 255]⟩ : ByteArray) t103 _ A1.out).mono ?_); rintro e w10 ⟨v104, rfl, ho0, hb⟩; refine ⟨_, rfl, ?_⟩; have n0_ := Aside0.mk (Kd.R_lower ho0 (below_size (by repeat (first | (with_reducible first | exact HB.out | apply below_alloc | apply pw_below_drewN | apply below_drew1) | exact HB.out)))); have n1_ := Aside0.mk (below_step (by repeat (first | (with_reducible first | exact HB.out | apply below_alloc | apply pw_below_drewN | apply below_drew1) | exact HB.out)) hb); clear HB; have HO105 := n0_; have HB := n1_; clear n0_ n1_; (try clear hb); (try clear hb2); (try clear hk); (try clear hi); (try clear ho0); obtain ⟨Ao11, co11, eo11⟩ := Kd.R_slice HO105.out; subst eo11; have p106 : 0 ≤ (0 : Int) := (by omega); have q106 : 0 < (t103.length : Int) := of_decide_eq_true (by first | (with_reducible assumption) | assumption); obtain ⟨ad106, e106, hx106_0⟩ := Kd.at_int (Kd.R_reads' HO105.out).2.2 0 p106 q106; cases e106; have qi106 : (0 < t103.length) = True := eq_true (by omega); (try rw [show ((0 : Int)).toNat = 0 from rfl] at hx106_0); (try rw [Addr.add_zero'] at hx106_0); replace p106 := eq_true p106; replace q106 := eq_true q106; have p107 : 0 ≤ (1 : Int) := (by omega); have q107 : 1 < (t103.length : Int) := of_decide_eq_true (by first | (with_reducible assumption) | assumption); obtain ⟨ad107, e107, hx107_0⟩ := Kd.at_int (Kd.R_reads' HO105.out).2.2 1 p107 q107; obtain rfl : ad106 = ad107 := (by injection e107); (try simp only [show (1 : Int).toNat = 1 from rfl, Nat.reduceMul, Nat.reduceEqDiff, Go.Addr.add, ↓reduceIte] at hx107_0); have qi107 : (1 < t103.length) = True := eq_true (by omega); (try rw [show ((1 : Int)).toNat = 1 from rfl] at hx107_0); replace p107 := eq_true p107; replace q107 := eq_true q107))
            go_ret
            exact ⟨by first | rfl | (simp [errW_none, errW_some] <;> rfl) | (simp [*, errW_none, errW_some] <;> rfl), by repeat (first | (with_reducible first | exact HB.out | apply below_alloc | apply pw_below_drewN | apply below_drew1) | exact HB.out)⟩
        · rw [if_neg c5] at H
          exact absurd H (by simp)
      · rw [if_neg c4] at H
        have c4b0 : ((rd t103 0) == 97) = false := beq_eq_false_iff_ne.mpr c4
        have c4b1 : ((rd t103 0) != 97) = true := bne_iff_ne.mpr c4
        obtain rfl := Option.some.inj H
        go_enter Tryd.func8, Tryd.ntmps8
        go_wp2_with (first | ((with_reducible refine gate_callee (f := 12) rfl ?_); refine goesL_ (some 2) rfl rfl Tryd.func12 (by kernel_rfl) rfl #[.string (⟨#[97, 195, 169, 255]⟩ : ByteArray)] rfl (by (try simp only [List.map_toArray, List.map_cons, List.map_nil]); first | done | rfl | (simp only [List.length_drop, List.length_take]; rfl)) ?_; (with_reducible refine (utf_Units.calls (⟨#[97, 195, 169, 255]⟩ : ByteArray) t103 _ A1.out).mono ?_); rintro e w12 ⟨v104, rfl, ho0, hb⟩; refine ⟨_, rfl, ?_⟩; have n0_ := Aside0.mk (Kd.R_lower ho0 (below_size (by repeat (first | (with_reducible first | exact HB.out | apply below_alloc | apply pw_below_drewN | apply below_drew1) | exact HB.out)))); have n1_ := Aside0.mk (below_step (by repeat (first | (with_reducible first | exact HB.out | apply below_alloc | apply pw_below_drewN | apply below_drew1) | exact HB.out)) hb); clear HB; have HO105 := n0_; have HB := n1_; clear n0_ n1_; (try clear hb); (try clear hb2); (try clear hk); (try clear hi); (try clear ho0); obtain ⟨Ao13, co13, eo13⟩ := Kd.R_slice HO105.out; subst eo13; have p106 : 0 ≤ (0 : Int) := (by omega); have q106 : 0 < (t103.length : Int) := of_decide_eq_true (by first | (with_reducible assumption) | assumption); obtain ⟨ad106, e106, hx106_0⟩ := Kd.at_int (Kd.R_reads' HO105.out).2.2 0 p106 q106; cases e106; have qi106 : (0 < t103.length) = True := eq_true (by omega); (try rw [show ((0 : Int)).toNat = 0 from rfl] at hx106_0); (try rw [Addr.add_zero'] at hx106_0); replace p106 := eq_true p106; replace q106 := eq_true q106))
        go_ret
        exact ⟨by first | rfl | (simp [errW_none, errW_some] <;> rfl) | (simp [*, errW_none, errW_some] <;> rfl), by repeat (first | (with_reducible first | exact HB.out | apply below_alloc | apply pw_below_drewN | apply below_drew1) | exact HB.out)⟩
    · rw [if_neg c3] at H
      exact absurd H (by simp)
  · rw [if_neg c2] at H
    have c2b0 : ((t103.length : Int) == 3) = false := beq_eq_false_iff_ne.mpr c2
    have c2b1 : ((t103.length : Int) != 3) = true := bne_iff_ne.mpr c2
    obtain rfl := Option.some.inj H
    go_enter Tryd.func8, Tryd.ntmps8
    go_wp2_with (first | ((with_reducible refine gate_callee (f := 12) rfl ?_); refine goesL_ (some 2) rfl rfl Tryd.func12 (by kernel_rfl) rfl #[.string (⟨#[97, 195, 169, 255]⟩ : ByteArray)] rfl (by (try simp only [List.map_toArray, List.map_cons, List.map_nil]); first | done | rfl | (simp only [List.length_drop, List.length_take]; rfl)) ?_; (with_reducible refine (utf_Units.calls (⟨#[97, 195, 169, 255]⟩ : ByteArray) t103 _ A1.out).mono ?_); rintro e w14 ⟨v104, rfl, ho0, hb⟩; refine ⟨_, rfl, ?_⟩; have n0_ := Aside0.mk (Kd.R_lower ho0 (below_size (by repeat (first | (with_reducible first | exact HB.out | apply below_alloc | apply pw_below_drewN | apply below_drew1) | exact HB.out)))); have n1_ := Aside0.mk (below_step (by repeat (first | (with_reducible first | exact HB.out | apply below_alloc | apply pw_below_drewN | apply below_drew1) | exact HB.out)) hb); clear HB; have HO105 := n0_; have HB := n1_; clear n0_ n1_; (try clear hb); (try clear hb2); (try clear hk); (try clear hi); (try clear ho0); obtain ⟨Ao15, co15, eo15⟩ := Kd.R_slice HO105.out; subst eo15))
    go_ret
    exact ⟨by first | rfl | (simp [errW_none, errW_some] <;> rfl) | (simp [*, errW_none, errW_some] <;> rfl), by repeat (first | (with_reducible first | exact HB.out | apply below_alloc | apply pw_below_drewN | apply below_drew1) | exact HB.out)⟩

/-! ### utf_Places: function 13 -/
def utf_Places.f (a0 : ByteArray) : Option (List Int) := if a0.size ≤ 1073741824 then some (utfPlaces a0 a0.size 0 ++ [(a0.size : Int)]) else none
set_option maxHeartbeats 4000000 in
set_option maxRecDepth 100000 in
theorem utf_Places.calls (a0 : ByteArray) (r : List Int) (w : World) (h : utf_Places.f a0 = some r) :
    Calls Tryd.prog 13 #[.string a0] w fun e w' => ∃ v0_ : Value, e = .returned (v0_) ∧ Kd.R (Kd.int .i64) 3 w' w.heap.size (fun _ => True) v0_ r ∧ Below w.heap.size w w' := by
  unfold utf_Places.f at h
  by_cases hs : a0.size ≤ 1073741824
  · rw [if_pos hs] at h
    obtain rfl := Option.some.inj h
    clear h
    go_enter Tryd.func13, Tryd.ntmps13
    go_wp2
    go_loopw [3] (fun v wr => ∃ (pos fuel : Nat) (acc : List Int), Aside0 (Kd.R (Kd.int .i64) 3 wr w.heap.size (fun q => q ≠ w.heap.size) v acc) ∧ Aside0 (wr.heap[w.heap.size]? = some (.stringIter a0 pos)) ∧ Aside0 (Below w.heap.size w wr) ∧ Aside0 (acc ++ utfPlaces a0 fuel pos = utfPlaces a0 a0.size 0) ∧ Aside0 (a0.size ≤ fuel + pos) ∧ Aside0 (acc.length ≤ pos ∧ pos ≤ a0.size)) (fun _ wr => a0.size - wr.iterPos w.heap.size)
    case atStart =>
      refine ⟨0, a0.size, [], ⟨Kd.R_nil _ _ _ _ _⟩, ⟨?_⟩, ⟨(Below.refl _ w).alloc (Nat.le_refl _) _⟩, ⟨rfl⟩, ⟨by omega⟩, ⟨by simp⟩⟩
      exact World.iter_heap w a0 0
    case round =>
      obtain ⟨pos, fuel, acc, HO, hit, HB, hacc, hfu, hle⟩ := hrel
      by_cases hp : pos < a0.size
      · have hnx : ∀ ty, (Instr.next (.pointer (some ⟨w.heap.size, 0, none⟩)) true ty).run Tryd.prog wr = _ := fun ty => Lib.run_next_any_at wr w.heap.size a0 pos ty hit.out hp
        have hwd := utfWidth_pos a0 pos hp
        have hd1 := decode_le a0 pos
        have hit2 := Aside0.mk (Lib.iterAt_heap wr w.heap.size a0 pos (pos + (Utf8.decode a0 pos).2) hit.out)
        have HB2 := Aside0.mk (Lib.below_iterAt HB.out (k := w.heap.size) (by omega) a0 (pos + (Utf8.decode a0 pos).2))
        have HO2 := Aside0.mk (utfKeeps_iter HO.out a0 (pos + (Utf8.decode a0 pos).2))
        have HIT := Aside0.mk hit.out
        have HSZ := Aside0.mk ((Array.getElem?_eq_some_iff.1 hit2.out).1)
        clear hit HB HO
        go_wp2_with (at_builtin; refine Kd.R_append (Kd.int .i64) (w0 := w) w.heap.size rfl (.tmp 10) (.tmp 12) 26 3 (.int .i64 0) 8 rfl Tryd.underlying26 info3 rfl (by decide) (by omega) _ acc (pos : Int) [.int .i64 (pos : Int)] (fun q => q ≠ w.heap.size) (fun _ => False) rfl rfl rfl (fun _ hk => hk.elim) ?aF ?aO ?aB ?aS ?aL ?_; (case aF => exact fun k hk => Nat.ne_of_gt (Nat.lt_of_lt_of_le HSZ.out hk)); (case aO => exact HO2.out); (case aB => exact HB2.out); (case aS => exact below_size HB2.out); (case aL => have := hle.out; omega); intro v1 w1 ho hb hg hat; have HO3 := Aside0.mk ho; have HB3 := Aside0.mk hb; have HG3 := Aside0.mk hg; clear ho hb hg hat)
        go_wp2
        have hit3 := Aside0.mk (utfIter_grown hit2.out HG3.out (utfRow_ne HO2.out))
        go_roundw
        case rel =>
          obtain ⟨f, rfl⟩ : ∃ f, fuel = f + 1 := ⟨fuel - 1, by have := hfu.out; omega⟩
          refine ⟨pos + (Utf8.decode a0 pos).2, f, acc ++ [(pos : Int)], HO3, ⟨?_⟩, HB3, ⟨?_⟩, ⟨by have := hfu.out; omega⟩, ⟨?_⟩⟩
          · exact hit3.out
          · rw [← hacc.out]; simp [utfPlaces, hp]
          · have := hle.out; have hd2 := utfDecode_fits a0 pos hp; simp; omega
        case measure =>
          have hd2 := utfDecode_fits a0 pos hp
          simp only [World.iterPos, hit3.out, HIT.out]
          omega
      · have hnx : ∀ ty, (Instr.next (.pointer (some ⟨w.heap.size, 0, none⟩)) true ty).run Tryd.prog wr = _ := fun ty => Lib.run_next_end_at wr w.heap.size a0 pos ty hit.out hp
        have HSZ := Aside0.mk ((Array.getElem?_eq_some_iff.1 hit.out).1)
        clear hit
        go_wp2_with (at_builtin; refine Kd.R_append (Kd.int .i64) (w0 := w) w.heap.size rfl (.tmp 14) (.tmp 17) 26 3 (.int .i64 0) 8 rfl Tryd.underlying26 info3 rfl (by decide) (by omega) _ acc (a0.size : Int) [.int .i64 (a0.size : Int)] (fun q => q ≠ w.heap.size) (fun _ => False) rfl rfl rfl (fun _ hk => hk.elim) ?aF ?aO ?aB ?aS ?aL ?_; (case aF => exact fun k hk => Nat.ne_of_gt (Nat.lt_of_lt_of_le HSZ.out hk)); (case aO => exact HO.out); (case aB => exact HB.out); (case aS => exact below_size HB.out); (case aL => have := hle.out; omega); intro v1 w1 ho hb hg hat; have HO3 := Aside0.mk ho; have HB3 := Aside0.mk hb; have HG3 := Aside0.mk hg; clear ho hb hg hat)
        go_wp2
        go_ret
        have e1 := hacc.out
        rw [utfPlaces_end a0 fuel pos hp, List.append_nil] at e1
        subst e1
        exact ⟨_, rfl, Kd.R_mono HO3.out (fun _ _ => trivial), HB3.out⟩
  · rw [if_neg hs] at h
    exact absurd h (by simp)

/-! ### utf_Count: function 14 -/
def utf_Count.f (a0 : ByteArray) : Option Int := if a0.size ≤ 1073741824 then some ((utfPlaces a0 a0.size 0).length : Int) else none
set_option maxHeartbeats 4000000 in
set_option maxRecDepth 100000 in
theorem utf_Count.calls (a0 : ByteArray) (r : Int) (w : World) (h : utf_Count.f a0 = some r) :
    Calls Tryd.prog 14 #[.string a0] w fun e w' => e = .returned (.int .i64 r) ∧ Below w.heap.size w w' := by
  unfold utf_Count.f at h
  by_cases hs : a0.size ≤ 1073741824
  · rw [if_pos hs] at h
    obtain rfl := Option.some.inj h
    clear h
    go_enter Tryd.func14, Tryd.ntmps14
    go_wp2
    go_loopw [3] (fun v wr => ∃ (pos fuel n : Nat), v = .int .i64 (n : Int) ∧ Aside0 (wr.heap[w.heap.size]? = some (.stringIter a0 pos)) ∧ Aside0 (Below w.heap.size w wr) ∧ Aside0 (n + (utfPlaces a0 fuel pos).length = (utfPlaces a0 a0.size 0).length) ∧ Aside0 (a0.size ≤ fuel + pos) ∧ n ≤ pos ∧ pos ≤ a0.size) (fun _ wr => a0.size - wr.iterPos w.heap.size)
    case atStart =>
      refine ⟨0, a0.size, 0, rfl, ⟨?_⟩, ⟨(Below.refl _ w).alloc (Nat.le_refl _) _⟩, ⟨by omega⟩, ⟨by omega⟩, by omega, by omega⟩
      exact World.iter_heap w a0 0
    case round =>
      obtain ⟨pos, fuel, n, rfl, hit, HB, hacc, hfu, hl1, hl2⟩ := hrel
      by_cases hp : pos < a0.size
      · have hnx : ∀ ty, (Instr.next (.pointer (some ⟨w.heap.size, 0, none⟩)) true ty).run Tryd.prog wr = _ := fun ty => Lib.run_next_any_at wr w.heap.size a0 pos ty hit.out hp
        have hd1 := decode_le a0 pos
        have hit2 := Aside0.mk (Lib.iterAt_heap wr w.heap.size a0 pos (pos + (Utf8.decode a0 pos).2) hit.out)
        have HB2 := Aside0.mk (Lib.below_iterAt HB.out (k := w.heap.size) (by omega) a0 (pos + (Utf8.decode a0 pos).2))
        have HIT := Aside0.mk hit.out
        clear hit HB
        go_wp2
        go_roundw
        case rel =>
          have hwd := utfWidth_pos a0 pos hp
          have hd2 := utfDecode_fits a0 pos hp
          obtain ⟨f, rfl⟩ : ∃ f, fuel = f + 1 := ⟨fuel - 1, by have := hfu.out; omega⟩
          refine ⟨pos + (Utf8.decode a0 pos).2, f, n + 1, by go_num, hit2, HB2, ⟨?_⟩, ⟨by have := hfu.out; omega⟩, by omega, by omega⟩
          rw [← hacc.out]; simp [utfPlaces, hp]; omega
        case measure =>
          have hwd := utfWidth_pos a0 pos hp
          have hd2 := utfDecode_fits a0 pos hp
          simp only [World.iterPos, hit2.out, HIT.out]
          omega
      · have hnx : ∀ ty, (Instr.next (.pointer (some ⟨w.heap.size, 0, none⟩)) true ty).run Tryd.prog wr = _ := fun ty => Lib.run_next_end_at wr w.heap.size a0 pos ty hit.out hp
        go_wp2
        go_ret
        have e1 := hacc.out
        rw [utfPlaces_end a0 fuel pos hp] at e1
        simp only [List.length_nil, Nat.add_zero] at e1
        subst e1
        exact ⟨rfl, HB.out⟩
  · rw [if_neg hs] at h
    exact absurd h (by simp)

-- NOT PRINTED: function 58 (utf8_decodeRuneInStringSlow)

/-! ### utf8_DecodeRuneInString: function 43 -/
def utf8_DecodeRuneInString.f (a0 : ByteArray) : Option (Int × Int) := some (((Lib.decodeGo a0).1 : Int), ((Lib.decodeGo a0).2 : Int))
theorem utf8_DecodeRuneInString.calls (a0 : ByteArray) (r1 r2 : Int) (w : World) (hG : Glob w) (h : utf8_DecodeRuneInString.f a0 = some (r1, r2)) :
    Calls Tryd.prog 43 #[.string a0] w fun e w' => e = .returned (.tuple #[.int .i32 r1, .int .i64 r2]) ∧ Below w.heap.size w w' := by
  unfold utf8_DecodeRuneInString.f at h
  simp only [Option.some.injEq, Prod.mk.injEq] at h
  obtain ⟨rfl, rfl⟩ := h
  exact Tryd.utf8_DecodeRuneInString a0 w hG

/-! ### utf_Border: function 15 -/
mutual
def utf_Border.j0 : Nat → ByteArray → Int → Bool → Option (Bool)
  | 0, _, _, _ => none
  | k + 1, x0, x1, x15 => if x15 = true then (some false) else (utf_Border.l0 k x0 x1 (mx 0 (wrap64 (x1 - 3))))
def utf_Border.l0 : Nat → ByteArray → Int → Int → Option (Bool)
  | 0, _, _, _ => none
  | k + 1, x0, x1, x5 => if x5 < x1 then (if 0 ≤ x5 then (if x5 ≤ (x0.size : Int) then ((utf8_DecodeRuneInString.f (x0.extract (x5 : Int).toNat x0.size)).bind fun bt109 => (if (wrap64 (x5 + bt109.2)) > x1 then (some false) else (utf_Border.l0 k x0 x1 (wrap64 (x5 + 1))))) else (none)) else (none)) else (some true)
end
def utf_Border.f (k : Nat) (a0 : ByteArray) (a1 : Int) : Option (Bool) := if a1 < 0 then (utf_Border.j0 k a0 a1 true) else (utf_Border.j0 k a0 a1 (decide (a1 > (a0.size : Int))))
theorem utf_Border.mono_l : ∀ k, (∀ y0 y1 y2, LeO (utf_Border.j0 k y0 y1 y2) (utf_Border.j0 (k + 1) y0 y1 y2)) ∧ (∀ y0 y1 y2, LeO (utf_Border.l0 k y0 y1 y2) (utf_Border.l0 (k + 1) y0 y1 y2))
  | 0 => ⟨fun _ _ _ r h => by simp [utf_Border.j0] at h, fun _ _ _ r h => by simp [utf_Border.l0] at h⟩
  | k + 1 => by
    obtain ⟨ih0, ih1⟩ := utf_Border.mono_l k
    refine ⟨?_, ?_⟩
    · intro y0 y1 y2
      unfold utf_Border.j0
      repeat' first
      | (with_reducible exact ih0 _ _ _)
      | (with_reducible exact ih1 _ _ _)
      | (with_reducible exact LeO.refl _)
      | (with_reducible exact LeO.none _)
      | (with_reducible refine LeO.ite ?_ ?_)
      | (with_reducible refine LeO.bind ?_ (fun _ => ?_))
      | exact ih0 _ _ _
      | exact ih1 _ _ _
      | exact LeO.none _
      | refine LeO.ite ?_ ?_
      | refine LeO.bind ?_ (fun _ => ?_)
    · intro y0 y1 y2
      unfold utf_Border.l0
      repeat' first
      | (with_reducible exact ih0 _ _ _)
      | (with_reducible exact ih1 _ _ _)
      | (with_reducible exact LeO.refl _)
      | (with_reducible exact LeO.none _)
      | (with_reducible refine LeO.ite ?_ ?_)
      | (with_reducible refine LeO.bind ?_ (fun _ => ?_))
      | exact ih0 _ _ _
      | exact ih1 _ _ _
      | exact LeO.none _
      | refine LeO.ite ?_ ?_
      | refine LeO.bind ?_ (fun _ => ?_)
theorem utf_Border.mono : ∀ a0 a1 k, LeO (utf_Border.f k a0 a1) (utf_Border.f (k + 1) a0 a1) := by
  intro a0 a1 k
  obtain ⟨ih0, ih1⟩ := utf_Border.mono_l k
  unfold utf_Border.f
  repeat' first
      | (with_reducible exact ih0 _ _ _)
      | (with_reducible exact ih1 _ _ _)
      | (with_reducible exact LeO.refl _)
      | (with_reducible exact LeO.none _)
      | (with_reducible refine LeO.ite ?_ ?_)
      | (with_reducible refine LeO.bind ?_ (fun _ => ?_))
      | exact ih0 _ _ _
      | exact ih1 _ _ _
      | exact LeO.none _
      | refine LeO.ite ?_ ?_
      | refine LeO.bind ?_ (fun _ => ?_)
set_option maxHeartbeats 8000000 in
set_option maxRecDepth 100000 in
theorem utf_Border.calls (k : Nat) (a0 : ByteArray) (a1 : Int) (r : Bool) (w : World) (hG : Glob w) (h : utf_Border.f k a0 a1 = some r) :
    Calls Tryd.prog 15 #[.string a0, .int .i64 a1] w fun e w' => e = .returned (.bool r) ∧ Below w.heap.size w w' := by
  have HB := Aside0.mk (Below.refl w.heap.size w)
  have H : (if a1 < 0 then (utf_Border.j0 k a0 a1 true) else (utf_Border.j0 k a0 a1 (decide (a1 > (a0.size : Int))))) = some r := h
  clear h
  have HC3 := Aside0.mk H
  clear H
  go_enter Tryd.func15, Tryd.ntmps15
  go_upto_region 1 with (fail)
  go_cut [15] (fun v15 wc => ∃ (kq : Nat) (x15_2 : Bool), v15 = .bool x15_2 ∧ Aside0 (utf_Border.j0 kq a0 a1 x15_2 = some r) ∧ Aside0 (kq ≤ k) ∧ Aside0 (Below w.heap.size w wc))
  case first =>
    have H := HC3.out
    clear HC3
    by_cases c4 : a1 < 0
    · rw [if_pos c4] at H
      have c4b0 : decide (a1 < 0) = true := decide_eq_true c4
      clear c4
      (first | rw [c4b0] | (simp only [i64_w, i32_w]; rw [c4b0]) | skip)
      have H' := Aside0.mk H
      clear H
      go_wp2
      go_meet
      case rel => exact ⟨_, (true), (by first | rfl | (simp; done) | (simp [*]; done)), H', ⟨by first | omega | exact Nat.le_refl _⟩, ⟨by repeat (first | (with_reducible first | exact HB.out | apply below_alloc | apply pw_below_drewN | apply below_drew1) | exact HB.out)⟩⟩
    · rw [if_neg c4] at H
      have c4b0 : decide (a1 < 0) = false := decide_eq_false c4
      clear c4
      (first | rw [c4b0] | (simp only [i64_w, i32_w]; rw [c4b0]) | skip)
      have H' := Aside0.mk H
      clear H
      go_wp2
      go_meet
      case rel => exact ⟨_, (decide (a1 > (a0.size : Int))), (by first | rfl | (simp; done) | (simp [*]; done)), H', ⟨by first | omega | exact Nat.le_refl _⟩, ⟨by repeat (first | (with_reducible first | exact HB.out | apply below_alloc | apply pw_below_drewN | apply below_drew1) | exact HB.out)⟩⟩
  case rest =>
    clear HC3
    try clear c1
    try clear p2
    try clear c4
    try clear c4b0
    obtain ⟨kq, x15_2, rfl, HA, HJ2, HB⟩ := hcut
    cases kq with
    | zero => exact absurd HA.out (by simp [utf_Border.j0])
    | succ kj2 =>
      have H := HA.out
      clear HA
      simp only [utf_Border.j0] at H
      by_cases c5 : x15_2 = true
      · subst c5
        have H1 : (some false) = some r := by rw [if_pos rfl] at H; exact H
        clear H
        have H := H1
        clear H1
        obtain rfl := Option.some.inj H
        go_wp2
        go_ret
        exact ⟨by first | rfl | (simp [errW_none, errW_some] <;> rfl) | (simp [*, errW_none, errW_some] <;> rfl), by repeat (first | (with_reducible first | exact HB.out | apply below_alloc | apply pw_below_drewN | apply below_drew1) | exact HB.out)⟩
      · replace c5 := Bool.eq_false_iff.mpr c5
        subst c5
        have H1 : (utf_Border.l0 kj2 a0 a1 (mx 0 (wrap64 (a1 - 3)))) = some r := by rw [if_neg (show ¬ (false = true) by decide)] at H; exact H
        clear H
        have H := H1
        clear H1
        obtain ⟨ji6, hji6⟩ : ∃ j_ : Int, (mx 0 (wrap64 (a1 - 3))) = j_ := ⟨_, rfl⟩
        replace H : (utf_Border.l0 kj2 a0 a1 ji6) = some r := by first | (rw [hji6] at H; exact H) | (simp only [hji6] at H ⊢; exact H)
        have hji6_ : (if 0 < (wrap64 (a1 - 3)) then (wrap64 (a1 - 3)) else 0) = ji6 := hji6
        have H' := Aside0.mk H
        clear H
        go_wp2
        go_loopg [5] kj2 (fun kq v5 w' => ∃ (x5_2 : Int), v5 = .int .i64 x5_2 ∧ Aside0 (utf_Border.l0 kq a0 a1 x5_2 = some r) ∧ Aside0 (kq ≤ kj2) ∧ Aside0 (Below w.heap.size w w'))
        case atStart => exact ⟨(ji6), (by first | rfl | (simp; done) | (simp only [← hji6] <;> (first | rfl | simp)) | (simp [*]; done)), H', ⟨Nat.le_refl _⟩, ⟨by repeat (first | (with_reducible first | exact HB.out | apply below_alloc | apply pw_below_drewN | apply below_drew1) | exact HB.out)⟩⟩
        case round =>
          clear H'
          try clear c1
          try clear p2
          try clear c4
          try clear c4b0
          try clear c5
          try clear p6
          try clear p2
          obtain ⟨x5_2, rfl, HA, HK2, HB⟩ := hrel
          cases gk with
          | zero => exact absurd HA.out (by simp [utf_Border.l0])
          | succ k2 =>
            have H := HA.out
            clear HA
            simp only [utf_Border.l0] at H
            by_cases c7 : x5_2 < a1
            · rw [if_pos c7] at H
              have c7b0 : decide (x5_2 < a1) = true := decide_eq_true c7
              clear c7
              by_cases c8 : 0 ≤ x5_2
              · rw [if_pos c8] at H
                have c8b0 := eq_true c8
                have c8b1 : decide (0 ≤ x5_2) = true := decide_eq_true c8
                clear c8
                by_cases c9 : x5_2 ≤ (a0.size : Int)
                · rw [if_pos c9] at H
                  have c9b0 := eq_true c9
                  have c9b1 : decide (x5_2 ≤ (a0.size : Int)) = true := decide_eq_true c9
                  clear c9
                  replace H := Option.bind_eq_some_iff.mp H
                  obtain ⟨⟨t109, t110⟩, A100, H⟩ := H
                  replace H : (if (wrap64 (x5_2 + t110)) > a1 then (some false) else (utf_Border.l0 k2 a0 a1 (wrap64 (x5_2 + 1)))) = some r := H
                  have A10 := Aside0.mk A100
                  clear A100
                  by_cases c11 : (wrap64 (x5_2 + t110)) > a1
                  · rw [if_pos c11] at H
                    have c11b0 : decide (a1 < (wrap64 (x5_2 + t110))) = true := decide_eq_true c11
                    clear c11
                    obtain rfl := Option.some.inj H
                    go_wp2_with (first | ((with_reducible refine gate_callee (f := 43) rfl ?_); refine goesL_ (some 28) rfl rfl Tryd.func43 (by kernel_rfl) rfl #[.string (a0.extract (x5_2 : Int).toNat a0.size)] rfl (by (try simp only [List.map_toArray, List.map_cons, List.map_nil]); first | done | rfl | (simp only [List.length_drop, List.length_take]; rfl)) ?_; (with_reducible refine (utf8_DecodeRuneInString.calls (a0.extract (x5_2 : Int).toNat a0.size) t109 t110 _ ?side1 A10.out).mono ?_); (case side1 => first | exact hG | exact Glob.of_below hG (by repeat (first | (with_reducible first | exact HB.out | apply below_alloc | apply pw_below_drewN | apply below_drew1) | exact HB.out)) | exact Glob.of_below hG HB.out | exact Glob.drewN hG _ | exact Glob.drew hG | (with_reducible repeat (first | exact hG | apply Glob.drewN | apply Glob.drew | apply Glob.alloc))); rintro e w12 ⟨rfl, hb⟩; refine ⟨_, rfl, ?_⟩; have n0_ := Aside0.mk (below_step (by repeat (first | (with_reducible first | exact HB.out | apply below_alloc | apply pw_below_drewN | apply below_drew1) | exact HB.out)) hb); clear HB; have HB := n0_; clear n0_; (try clear hb); (try clear hb2); (try clear hk); (try clear hi)))
                    go_ret
                    exact ⟨by first | rfl | (simp [errW_none, errW_some] <;> rfl) | (simp only [← hji6]; first | rfl | (simp [errW_none, errW_some] <;> rfl)) | (simp [*, errW_none, errW_some] <;> rfl), by repeat (first | (with_reducible first | exact HB.out | apply below_alloc | apply pw_below_drewN | apply below_drew1) | exact HB.out)⟩
                  · rw [if_neg c11] at H
                    have c11b0 : decide (a1 < (wrap64 (x5_2 + t110))) = false := decide_eq_false c11
                    clear c11
                    have H' := Aside0.mk H
                    clear H
                    go_wp2_with (first | ((with_reducible refine gate_callee (f := 43) rfl ?_); refine goesL_ (some 28) rfl rfl Tryd.func43 (by kernel_rfl) rfl #[.string (a0.extract (x5_2 : Int).toNat a0.size)] rfl (by (try simp only [List.map_toArray, List.map_cons, List.map_nil]); first | done | rfl | (simp only [List.length_drop, List.length_take]; rfl)) ?_; (with_reducible refine (utf8_DecodeRuneInString.calls (a0.extract (x5_2 : Int).toNat a0.size) t109 t110 _ ?side1 A10.out).mono ?_); (case side1 => first | exact hG | exact Glob.of_below hG (by repeat (first | (with_reducible first | exact HB.out | apply below_alloc | apply pw_below_drewN | apply below_drew1) | exact HB.out)) | exact Glob.of_below hG HB.out | exact Glob.drewN hG _ | exact Glob.drew hG | (with_reducible repeat (first | exact hG | apply Glob.drewN | apply Glob.drew | apply Glob.alloc))); rintro e w13 ⟨rfl, hb⟩; refine ⟨_, rfl, ?_⟩; have n0_ := Aside0.mk (below_step (by repeat (first | (with_reducible first | exact HB.out | apply below_alloc | apply pw_below_drewN | apply below_drew1) | exact HB.out)) hb); clear HB; have HB := n0_; clear n0_; (try clear hb); (try clear hb2); (try clear hk); (try clear hi)))
                    go_roundg k2
                    case measure => have := HJ2.out; have := HK2.out; omega
                    case rel => exact ⟨(wrap64 (x5_2 + 1)), (by first | rfl | (simp; done) | (simp [*]; done)), H', ⟨by have := HJ2.out; have := HK2.out; omega⟩, ⟨by repeat (first | (with_reducible first | exact HB.out | apply below_alloc | apply pw_below_drewN | apply below_drew1) | exact HB.out)⟩⟩
                · rw [if_neg c9] at H
                  exact absurd H (by simp)
              · rw [if_neg c8] at H
                exact absurd H (by simp)
            · rw [if_neg c7] at H
              have c7b0 : decide (x5_2 < a1) = false := decide_eq_false c7
              clear c7
              obtain rfl := Option.some.inj H
              go_wp2
              go_ret
              exact ⟨by first | rfl | (simp [errW_none, errW_some] <;> rfl) | (simp only [← hji6]; first | rfl | (simp [errW_none, errW_some] <;> rfl)) | (simp [*, errW_none, errW_some] <;> rfl), by repeat (first | (with_reducible first | exact HB.out | apply below_alloc | apply pw_below_drewN | apply below_drew1) | exact HB.out)⟩

/-! ### utf8_word_string: function 59 -/
def utf8_word_string.f (a0 : ByteArray) : Option (Int) := if 0 < (a0.size : Int) then (if 1 < (a0.size : Int) then (if 2 < (a0.size : Int) then (if 3 < (a0.size : Int) then (if 4 < (a0.size : Int) then (if 5 < (a0.size : Int) then (if 6 < (a0.size : Int) then (if 7 < (a0.size : Int) then (some (Go.bits .or .u64 (Go.bits .or .u64 (Go.bits .or .u64 (Go.bits .or .u64 (Go.bits .or .u64 (Go.bits .or .u64 (Go.bits .or .u64 (IntKind.u64.wrap (bt a0 0)) (IntKind.u64.wrap ((IntKind.u64.wrap (bt a0 1)) * 256))) (IntKind.u64.wrap ((IntKind.u64.wrap (bt a0 2)) * 65536))) (IntKind.u64.wrap ((IntKind.u64.wrap (bt a0 3)) * 16777216))) (IntKind.u64.wrap ((IntKind.u64.wrap (bt a0 4)) * 4294967296))) (IntKind.u64.wrap ((IntKind.u64.wrap (bt a0 5)) * 1099511627776))) (IntKind.u64.wrap ((IntKind.u64.wrap (bt a0 6)) * 281474976710656))) (IntKind.u64.wrap ((IntKind.u64.wrap (bt a0 7)) * 72057594037927936)))) else (none)) else (none)) else (none)) else (none)) else (none)) else (none)) else (none)) else (none)
set_option maxHeartbeats 8000000 in
set_option maxRecDepth 100000 in
theorem utf8_word_string.calls (a0 : ByteArray) (r : Int) (w : World) (h : utf8_word_string.f a0 = some r) :
    Calls Tryd.prog 59 #[.string a0] w fun e w' => e = .returned (.int .u64 r) ∧ Drawn0 w w' := by
  have H : (if 0 < (a0.size : Int) then (if 1 < (a0.size : Int) then (if 2 < (a0.size : Int) then (if 3 < (a0.size : Int) then (if 4 < (a0.size : Int) then (if 5 < (a0.size : Int) then (if 6 < (a0.size : Int) then (if 7 < (a0.size : Int) then (some (Go.bits .or .u64 (Go.bits .or .u64 (Go.bits .or .u64 (Go.bits .or .u64 (Go.bits .or .u64 (Go.bits .or .u64 (Go.bits .or .u64 (IntKind.u64.wrap (bt a0 0)) (IntKind.u64.wrap ((IntKind.u64.wrap (bt a0 1)) * 256))) (IntKind.u64.wrap ((IntKind.u64.wrap (bt a0 2)) * 65536))) (IntKind.u64.wrap ((IntKind.u64.wrap (bt a0 3)) * 16777216))) (IntKind.u64.wrap ((IntKind.u64.wrap (bt a0 4)) * 4294967296))) (IntKind.u64.wrap ((IntKind.u64.wrap (bt a0 5)) * 1099511627776))) (IntKind.u64.wrap ((IntKind.u64.wrap (bt a0 6)) * 281474976710656))) (IntKind.u64.wrap ((IntKind.u64.wrap (bt a0 7)) * 72057594037927936)))) else (none)) else (none)) else (none)) else (none)) else (none)) else (none)) else (none)) else (none)) = some r := h
  clear h
  by_cases c2 : 0 < (a0.size : Int)
  · rw [if_pos c2] at H
    have c2b0 : decide (0 < (a0.size : Int)) = true := decide_eq_true c2
    have c2b1 : decide (0 < a0.size) = true := decide_eq_true (by omega)
    clear c2
    by_cases c4 : 1 < (a0.size : Int)
    · rw [if_pos c4] at H
      have c4b0 : decide (1 < (a0.size : Int)) = true := decide_eq_true c4
      have c4b1 : decide (1 < a0.size) = true := decide_eq_true (by omega)
      clear c4
      by_cases c6 : 2 < (a0.size : Int)
      · rw [if_pos c6] at H
        have c6b0 : decide (2 < (a0.size : Int)) = true := decide_eq_true c6
        have c6b1 : decide (2 < a0.size) = true := decide_eq_true (by omega)
        clear c6
        by_cases c8 : 3 < (a0.size : Int)
        · rw [if_pos c8] at H
          have c8b0 : decide (3 < (a0.size : Int)) = true := decide_eq_true c8
          have c8b1 : decide (3 < a0.size) = true := decide_eq_true (by omega)
          clear c8
          by_cases c10 : 4 < (a0.size : Int)
          · rw [if_pos c10] at H
            have c10b0 : decide (4 < (a0.size : Int)) = true := decide_eq_true c10
            have c10b1 : decide (4 < a0.size) = true := decide_eq_true (by omega)
            clear c10
            by_cases c12 : 5 < (a0.size : Int)
            · rw [if_pos c12] at H
              have c12b0 : decide (5 < (a0.size : Int)) = true := decide_eq_true c12
              have c12b1 : decide (5 < a0.size) = true := decide_eq_true (by omega)
              clear c12
              by_cases c14 : 6 < (a0.size : Int)
              · rw [if_pos c14] at H
                have c14b0 : decide (6 < (a0.size : Int)) = true := decide_eq_true c14
                have c14b1 : decide (6 < a0.size) = true := decide_eq_true (by omega)
                clear c14
                by_cases c16 : 7 < (a0.size : Int)
                · rw [if_pos c16] at H
                  have c16b0 : decide (7 < (a0.size : Int)) = true := decide_eq_true c16
                  have c16b1 : decide (7 < a0.size) = true := decide_eq_true (by omega)
                  clear c16
                  obtain rfl := Option.some.inj H
                  have p3 : 0 ≤ (0 : Int) := (by omega)
                  have q3 : 0 < a0.size := (by have : (0 : Int) < (a0.size : Int) := of_decide_eq_true (by first | (with_reducible assumption) | assumption); omega)
                  have hx3 : ∀ h : 0 < a0.size, ((a0[0]'h).toNat : Int) = bt a0 0 := bt_at a0 0
                  clear p3
                  have qi3 : (0 < (a0.size : Int)) = True := eq_true (of_decide_eq_true (by first | (with_reducible assumption) | assumption))
                  replace q3 := eq_true q3
                  have p5 : 0 ≤ (1 : Int) := (by omega)
                  have q5 : 1 < a0.size := (by have : (1 : Int) < (a0.size : Int) := of_decide_eq_true (by first | (with_reducible assumption) | assumption); omega)
                  have hx5 : ∀ h : 1 < a0.size, ((a0[1]'h).toNat : Int) = bt a0 1 := bt_at a0 1
                  clear p5
                  have qi5 : (1 < (a0.size : Int)) = True := eq_true (of_decide_eq_true (by first | (with_reducible assumption) | assumption))
                  replace q5 := eq_true q5
                  have p7 : 0 ≤ (2 : Int) := (by omega)
                  have q7 : 2 < a0.size := (by have : (2 : Int) < (a0.size : Int) := of_decide_eq_true (by first | (with_reducible assumption) | assumption); omega)
                  have hx7 : ∀ h : 2 < a0.size, ((a0[2]'h).toNat : Int) = bt a0 2 := bt_at a0 2
                  clear p7
                  have qi7 : (2 < (a0.size : Int)) = True := eq_true (of_decide_eq_true (by first | (with_reducible assumption) | assumption))
                  replace q7 := eq_true q7
                  have p9 : 0 ≤ (3 : Int) := (by omega)
                  have q9 : 3 < a0.size := (by have : (3 : Int) < (a0.size : Int) := of_decide_eq_true (by first | (with_reducible assumption) | assumption); omega)
                  have hx9 : ∀ h : 3 < a0.size, ((a0[3]'h).toNat : Int) = bt a0 3 := bt_at a0 3
                  clear p9
                  have qi9 : (3 < (a0.size : Int)) = True := eq_true (of_decide_eq_true (by first | (with_reducible assumption) | assumption))
                  replace q9 := eq_true q9
                  have p11 : 0 ≤ (4 : Int) := (by omega)
                  have q11 : 4 < a0.size := (by have : (4 : Int) < (a0.size : Int) := of_decide_eq_true (by first | (with_reducible assumption) | assumption); omega)
                  have hx11 : ∀ h : 4 < a0.size, ((a0[4]'h).toNat : Int) = bt a0 4 := bt_at a0 4
                  clear p11
                  have qi11 : (4 < (a0.size : Int)) = True := eq_true (of_decide_eq_true (by first | (with_reducible assumption) | assumption))
                  replace q11 := eq_true q11
                  have p13 : 0 ≤ (5 : Int) := (by omega)
                  have q13 : 5 < a0.size := (by have : (5 : Int) < (a0.size : Int) := of_decide_eq_true (by first | (with_reducible assumption) | assumption); omega)
                  have hx13 : ∀ h : 5 < a0.size, ((a0[5]'h).toNat : Int) = bt a0 5 := bt_at a0 5
                  clear p13
                  have qi13 : (5 < (a0.size : Int)) = True := eq_true (of_decide_eq_true (by first | (with_reducible assumption) | assumption))
                  replace q13 := eq_true q13
                  have p15 : 0 ≤ (6 : Int) := (by omega)
                  have q15 : 6 < a0.size := (by have : (6 : Int) < (a0.size : Int) := of_decide_eq_true (by first | (with_reducible assumption) | assumption); omega)
                  have hx15 : ∀ h : 6 < a0.size, ((a0[6]'h).toNat : Int) = bt a0 6 := bt_at a0 6
                  clear p15
                  have qi15 : (6 < (a0.size : Int)) = True := eq_true (of_decide_eq_true (by first | (with_reducible assumption) | assumption))
                  replace q15 := eq_true q15
                  have p17 : 0 ≤ (7 : Int) := (by omega)
                  have q17 : 7 < a0.size := (by have : (7 : Int) < (a0.size : Int) := of_decide_eq_true (by first | (with_reducible assumption) | assumption); omega)
                  have hx17 : ∀ h : 7 < a0.size, ((a0[7]'h).toNat : Int) = bt a0 7 := bt_at a0 7
                  clear p17
                  have qi17 : (7 < (a0.size : Int)) = True := eq_true (of_decide_eq_true (by first | (with_reducible assumption) | assumption))
                  replace q17 := eq_true q17
                  go_enter Tryd.func59, Tryd.ntmps59
                  go_wp2
                  repeat (go_quiet (fail); try go_wp2)
                  go_ret
                  exact ⟨by first | rfl | (simp; done) | (simp [*]; done), by repeat (first | exact Drawn0.refl _ | apply Drawn0.step)⟩
                · rw [if_neg c16] at H
                  exact absurd H (by simp)
              · rw [if_neg c14] at H
                exact absurd H (by simp)
            · rw [if_neg c12] at H
              exact absurd H (by simp)
          · rw [if_neg c10] at H
            exact absurd H (by simp)
        · rw [if_neg c8] at H
          exact absurd H (by simp)
      · rw [if_neg c6] at H
        exact absurd H (by simp)
    · rw [if_neg c4] at H
      exact absurd H (by simp)
  · rw [if_neg c2] at H
    exact absurd H (by simp)

/-! ### utf8_ValidString: function 44 -/
def utf8_ValidString.f (a0 : ByteArray) : Option Bool := if a0.size ≤ 1073741824 then some (Lib.validD a0.data.toList) else none
theorem utf8_ValidString.calls (a0 : ByteArray) (r : Bool) (w : World) (hG : Glob w) (h : utf8_ValidString.f a0 = some r) :
    Calls Tryd.prog 44 #[.string a0] w fun e w' => e = .returned (.bool r) ∧ Below w.heap.size w w' := by
  unfold utf8_ValidString.f at h
  by_cases hs : a0.size ≤ 1073741824
  · rw [if_pos hs] at h
    obtain rfl := Option.some.inj h
    exact Any.utf8_ValidString Tryd.lays196 a0 w (by omega) hG
  · rw [if_neg hs] at h
    exact absurd h (by simp)

/-! ### utf_Valid: function 16 -/
def utf_Valid.f (a0 : ByteArray) : Option (Bool) := (utf8_ValidString.f a0).bind fun t111 => (some t111)
set_option maxHeartbeats 8000000 in
set_option maxRecDepth 100000 in
theorem utf_Valid.calls (a0 : ByteArray) (r : Bool) (w : World) (hG : Glob w) (h : utf_Valid.f a0 = some r) :
    Calls Tryd.prog 16 #[.string a0] w fun e w' => e = .returned (.bool r) ∧ Below w.heap.size w w' := by
  have HB := Aside0.mk (Below.refl w.heap.size w)
  have H : ((utf8_ValidString.f a0).bind fun t111 => (some t111)) = some r := h
  clear h
  replace H := Option.bind_eq_some_iff.mp H
  obtain ⟨t111, A20, H⟩ := H
  replace H : (some t111) = some r := H
  have A2 := Aside0.mk A20
  clear A20
  obtain rfl := Option.some.inj H
  go_enter Tryd.func16, Tryd.ntmps16
  go_wp2_with (first | ((with_reducible refine gate_callee (f := 44) rfl ?_); refine goesL_ (some 4) rfl rfl Tryd.func44 (by kernel_rfl) rfl #[.string a0] rfl (by (try simp only [List.map_toArray, List.map_cons, List.map_nil]); first | done | rfl | (simp only [List.length_drop, List.length_take]; rfl)) ?_; (with_reducible refine (utf8_ValidString.calls a0 t111 _ ?side1 A2.out).mono ?_); (case side1 => first | exact hG | exact Glob.of_below hG (by repeat (first | (with_reducible first | exact HB.out | apply below_alloc | apply pw_below_drewN | apply below_drew1) | exact HB.out)) | exact Glob.of_below hG HB.out | exact Glob.drewN hG _ | exact Glob.drew hG | (with_reducible repeat (first | exact hG | apply Glob.drewN | apply Glob.drew | apply Glob.alloc))); rintro e w3 ⟨rfl, hb⟩; refine ⟨_, rfl, ?_⟩; have n0_ := Aside0.mk (below_step (by repeat (first | (with_reducible first | exact HB.out | apply below_alloc | apply pw_below_drewN | apply below_drew1) | exact HB.out)) hb); clear HB; have HB := n0_; clear n0_; (try clear hb); (try clear hb2); (try clear hk); (try clear hi)))
  go_ret
  exact ⟨by first | rfl | (simp [errW_none, errW_some] <;> rfl) | (simp [*, errW_none, errW_some] <;> rfl), by repeat (first | (with_reducible first | exact HB.out | apply below_alloc | apply pw_below_drewN | apply below_drew1) | exact HB.out)⟩

end Go.Proofs.YtaipokmbgcmciaaDoor.PU
