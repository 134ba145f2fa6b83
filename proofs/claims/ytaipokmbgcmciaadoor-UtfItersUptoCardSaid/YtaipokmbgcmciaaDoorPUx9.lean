/- Contracts of functions that the law reaches: what each call answers, as a plain function of what it reads; on condition that the function answers there. Printed by this session's own tool. -/
import Derived.Test.YtaipokmbgcmciaaDoorPUx0
import Derived.Test.YtaipokmbgcmciaaDoorPUx1
import Derived.Test.YtaipokmbgcmciaaDoorPUx2
import Derived.Test.YtaipokmbgcmciaaDoorPUx3
namespace Go.Proofs.YtaipokmbgcmciaaDoor.PU
open Go.RowKit Go.Proofs.YtaipokmbgcmciaaDoor.B Go.Proofs.YtaipokmbgcmciaaDoorW.PrintWords Go.Proofs.YtaipokmbgcmciaaDoorW.PrintLast Go.Proofs.YtaipokmbgcmciaaDoorW.PrintMore
attribute [local go_sem] max2_int min2_int max_two min_two max_three min_three max_four min_four   -- for this text's walks alone
set_option linter.unusedVariables false
set_option linter.unusedSimpArgs false

-- NOT PRINTED: function 9 (utf_All)

-- NOT PRINTED: function 10 (utf_Back)

-- NOT PRINTED: function 3 (thistlelaw01_UtfIters)

-- NOT PRINTED: function 4 (thistlelaw01_UtfRange)

/-! ### thistlelaw01_UtfBack: function 5 -/
mutual
def thistlelaw01_UtfBack.l0 : Nat → ByteArray → List Int → Int → Option (Bool)
  | 0, _, _, _ => none
  | k + 1, x0, x3, x4 => if x4 < (x0.size : Int) then ((utf_Next.f x0 x4).bind fun bt301 => (if bt301.2.2 = 0 then (if bt301.2.1 < 1 then (some false) else (if bt301.2.1 > (wrap64 ((x0.size : Int) - x4)) then (some false) else ((utf_Border.f k x0 x4).bind fun t304 => (if t304 = true then (if x3.length < 35184372088832 then (thistlelaw01_UtfBack.l0 k x0 (x3 ++ [bt301.1]) (wrap64 (x4 + bt301.2.1))) else (none)) else (some false))))) else (some false))) else (thistlelaw01_UtfBack.l1 k x0 x3 (x0.size : Int) (x3.length : Int))
def thistlelaw01_UtfBack.l1 : Nat → ByteArray → List Int → Int → Int → Option (Bool)
  | 0, _, _, _, _ => none
  | k + 1, x0, x3, x4, x8 => if x4 > 0 then ((utf_Prev.f k x0 x4).bind fun bt308 => (if bt308.2.2 = 0 then (if bt308.2.1 < 1 then (some false) else (if bt308.2.1 > x4 then (some false) else (if (wrap64 (x8 - 1)) < 0 then (some false) else (if 0 ≤ (wrap64 (x8 - 1)) then (if (wrap64 (x8 - 1)) < (x3.length : Int) then (if (rd x3 (wrap64 (x8 - 1))) = bt308.1 then (thistlelaw01_UtfBack.l1 k x0 x3 (wrap64 (x4 - bt308.2.1)) (wrap64 (x8 - 1))) else (some false)) else (none)) else (none))))) else (some false))) else ((utf_Text.f x3).bind fun bt312 => (if x8 = 0 then (if bt312.2 = 0 then (if bt312.1.toList = x0.toList then ((utf_Apart.f k x3).bind fun t314 => (if t314 = true then ((utf_Units.f x0).bind fun t315 => ((thistlelaw01_same.f k x3 t315).bind fun t318 => (some t318))) else (some false))) else (some false)) else (some false)) else (some false)))
end
def thistlelaw01_UtfBack.f (k : Nat) (a0 : ByteArray) : Option (Bool) := (thistlelaw01_awake.f).bind fun t300 => (if t300 = true then (thistlelaw01_UtfBack.l0 k a0 ([] : List Int) 0) else (some false))
theorem thistlelaw01_UtfBack.mono_l : ∀ k, (∀ y0 y1 y2, LeO (thistlelaw01_UtfBack.l0 k y0 y1 y2) (thistlelaw01_UtfBack.l0 (k + 1) y0 y1 y2)) ∧ (∀ y0 y1 y2 y3, LeO (thistlelaw01_UtfBack.l1 k y0 y1 y2 y3) (thistlelaw01_UtfBack.l1 (k + 1) y0 y1 y2 y3))
  | 0 => ⟨fun _ _ _ r h => by simp [thistlelaw01_UtfBack.l0] at h, fun _ _ _ _ r h => by simp [thistlelaw01_UtfBack.l1] at h⟩
  | k + 1 => by
    obtain ⟨ih0, ih1⟩ := thistlelaw01_UtfBack.mono_l k
    refine ⟨?_, ?_⟩
    · intro y0 y1 y2
      unfold thistlelaw01_UtfBack.l0
      repeat' first
      | (with_reducible exact ih0 _ _ _)
      | (with_reducible exact ih1 _ _ _ _)
      | (with_reducible exact thistlelaw01_same.mono _ _ _)
      | (with_reducible exact utf_Apart.mono _ _)
      | (with_reducible exact utf_Border.mono _ _ _)
      | (with_reducible exact utf_Prev.mono _ _ _)
      | (with_reducible exact LeO.refl _)
      | (with_reducible exact LeO.none _)
      | (with_reducible refine LeO.ite ?_ ?_)
      | (with_reducible refine LeO.bind ?_ (fun _ => ?_))
      | exact ih0 _ _ _
      | exact ih1 _ _ _ _
      | exact thistlelaw01_same.mono _ _ _
      | exact utf_Apart.mono _ _
      | exact utf_Border.mono _ _ _
      | exact utf_Prev.mono _ _ _
      | exact LeO.none _
      | refine LeO.ite ?_ ?_
      | refine LeO.bind ?_ (fun _ => ?_)
    · intro y0 y1 y2 y3
      unfold thistlelaw01_UtfBack.l1
      repeat' first
      | (with_reducible exact ih0 _ _ _)
      | (with_reducible exact ih1 _ _ _ _)
      | (with_reducible exact thistlelaw01_same.mono _ _ _)
      | (with_reducible exact utf_Apart.mono _ _)
      | (with_reducible exact utf_Border.mono _ _ _)
      | (with_reducible exact utf_Prev.mono _ _ _)
      | (with_reducible exact LeO.refl _)
      | (with_reducible exact LeO.none _)
      | (with_reducible refine LeO.ite ?_ ?_)
      | (with_reducible refine LeO.bind ?_ (fun _ => ?_))
      | exact ih0 _ _ _
      | exact ih1 _ _ _ _
      | exact thistlelaw01_same.mono _ _ _
      | exact utf_Apart.mono _ _
      | exact utf_Border.mono _ _ _
      | exact utf_Prev.mono _ _ _
      | exact LeO.none _
      | refine LeO.ite ?_ ?_
      | refine LeO.bind ?_ (fun _ => ?_)
theorem thistlelaw01_UtfBack.mono : ∀ a0 k, LeO (thistlelaw01_UtfBack.f k a0) (thistlelaw01_UtfBack.f (k + 1) a0) := by
  intro a0 k
  obtain ⟨ih0, ih1⟩ := thistlelaw01_UtfBack.mono_l k
  unfold thistlelaw01_UtfBack.f
  repeat' first
      | (with_reducible exact ih0 _ _ _)
      | (with_reducible exact ih1 _ _ _ _)
      | (with_reducible exact thistlelaw01_same.mono _ _ _)
      | (with_reducible exact utf_Apart.mono _ _)
      | (with_reducible exact utf_Border.mono _ _ _)
      | (with_reducible exact utf_Prev.mono _ _ _)
      | (with_reducible exact LeO.refl _)
      | (with_reducible exact LeO.none _)
      | (with_reducible refine LeO.ite ?_ ?_)
      | (with_reducible refine LeO.bind ?_ (fun _ => ?_))
      | exact ih0 _ _ _
      | exact ih1 _ _ _ _
      | exact thistlelaw01_same.mono _ _ _
      | exact utf_Apart.mono _ _
      | exact utf_Border.mono _ _ _
      | exact utf_Prev.mono _ _ _
      | exact LeO.none _
      | refine LeO.ite ?_ ?_
      | refine LeO.bind ?_ (fun _ => ?_)
set_option maxHeartbeats 8000000 in
set_option maxRecDepth 100000 in
theorem thistlelaw01_UtfBack.calls (k : Nat) (a0 : ByteArray) (r : Bool) (w : World) (hG : Glob w) (h : thistlelaw01_UtfBack.f k a0 = some r) :
    Calls Tryd.prog 5 #[.string a0] w fun e w' => e = .returned (.bool r) ∧ Below w.heap.size w w' := by
  have HB := Aside0.mk (Below.refl w.heap.size w)
  have H : ((thistlelaw01_awake.f).bind fun t300 => (if t300 = true then (thistlelaw01_UtfBack.l0 k a0 ([] : List Int) 0) else (some false))) = some r := h
  clear h
  replace H := Option.bind_eq_some_iff.mp H
  obtain ⟨t300, A20, H⟩ := H
  replace H : (if t300 = true then (thistlelaw01_UtfBack.l0 k a0 ([] : List Int) 0) else (some false)) = some r := H
  have A2 := Aside0.mk A20
  clear A20
  by_cases c3 : t300 = true
  · subst c3
    have H1 : (thistlelaw01_UtfBack.l0 k a0 ([] : List Int) 0) = some r := by rw [if_pos rfl] at H; exact H
    clear H
    have H := H1
    clear H1
    have H' := Aside0.mk H
    clear H
    go_enter Tryd.func5, Tryd.ntmps5
    go_wp2_with (first | ((with_reducible refine gate_callee (f := 8) rfl ?_); refine goesL_ (some 14) rfl rfl Tryd.func8 (by kernel_rfl) rfl #[] rfl (by (try simp only [List.map_toArray, List.map_cons, List.map_nil]); first | done | rfl | (simp only [List.length_drop, List.length_take]; rfl)) ?_; (with_reducible refine (thistlelaw01_awake.calls  true _ A2.out).mono ?_); rintro e w4 ⟨rfl, hb⟩; refine ⟨_, rfl, ?_⟩; have n0_ := Aside0.mk (below_step (by repeat (first | (with_reducible first | exact HB.out | apply below_alloc | apply pw_below_drewN | apply below_drew1) | exact HB.out)) hb); clear HB; have HB := n0_; clear n0_; (try clear hb); (try clear hb2); (try clear hk); (try clear hi)))
    go_loopg [3, 4] k (fun kq v3 v4 w' => ∃ (x3_1 : List Int) (x4_1 : Int), v4 = .int .i64 x4_1 ∧ Aside0 (thistlelaw01_UtfBack.l0 kq a0 x3_1 x4_1 = some r) ∧ Aside0 (kq ≤ k) ∧ Aside0 (Kd.R (Kd.int .i32) 21 w' w.heap.size (fun _ => True) v3 x3_1) ∧ Aside0 (Below w.heap.size w w'))
    case atStart => exact ⟨(([] : List Int)), (0), (by first | rfl | (simp; done) | (simp [*]; done)), H', ⟨Nat.le_refl _⟩, ⟨by first | exact Kd.R_nil _ _ _ _ _ | exact Kd.N_nil _ _ _ _ _ | exact Kd.V_nil _ _ _ _ _ | exact Kd.Q_nil _ _ _ _ _ | exact Kd.S_nil _ _ _ _ _⟩, ⟨by repeat (first | (with_reducible first | exact HB.out | apply below_alloc | apply pw_below_drewN | apply below_drew1) | exact HB.out)⟩⟩
    case round =>
      clear H'
      try clear p2
      try clear c3
      obtain ⟨x3_1, x4_1, rfl, HA, HK1, HO_3, HB⟩ := hrel
      cases gk with
      | zero => exact absurd HA.out (by simp [thistlelaw01_UtfBack.l0])
      | succ k1 =>
        have H := HA.out
        clear HA
        simp only [thistlelaw01_UtfBack.l0] at H
        by_cases c5 : x4_1 < (a0.size : Int)
        · rw [if_pos c5] at H
          have c5b0 : decide (x4_1 < (a0.size : Int)) = true := decide_eq_true c5
          clear c5
          replace H := Option.bind_eq_some_iff.mp H
          obtain ⟨⟨t301, t302, t303⟩, A60, H⟩ := H
          replace H : (if t303 = 0 then (if t302 < 1 then (some false) else (if t302 > (wrap64 ((a0.size : Int) - x4_1)) then (some false) else ((utf_Border.f k1 a0 x4_1).bind fun t304 => (if t304 = true then (if x3_1.length < 35184372088832 then (thistlelaw01_UtfBack.l0 k1 a0 (x3_1 ++ [t301]) (wrap64 (x4_1 + t302))) else (none)) else (some false))))) else (some false)) = some r := H
          have A6 := Aside0.mk A60
          clear A60
          by_cases c7 : t303 = 0
          · rw [if_pos c7] at H
            have c7b0 : (t303 == 0) = true := beq_iff_eq.mpr c7
            have c7b1 : (t303 != 0) = false := bne_eq_false_iff_eq.mpr c7
            clear c7
            by_cases c8 : t302 < 1
            · rw [if_pos c8] at H
              have c8b0 : decide (t302 < 1) = true := decide_eq_true c8
              clear c8
              obtain rfl := Option.some.inj H
              go_wp2_with (first | ((with_reducible refine gate_callee (f := 21) rfl ?_); refine goesL_ (some 23) rfl rfl Tryd.func21 (by kernel_rfl) rfl #[.string a0, .int .i64 x4_1] rfl (by (try simp only [List.map_toArray, List.map_cons, List.map_nil]); first | done | rfl | (simp only [List.length_drop, List.length_take]; rfl)) ?_; (with_reducible refine (utf_Next.calls a0 x4_1 t301 t302 t303 _ A6.out).mono ?_); rintro e w9 ⟨rfl, hb⟩; refine ⟨_, rfl, ?_⟩; have n0_ := Aside0.mk (Kd.R_below (by (with_reducible repeat (first | apply Kd.R_alloc | apply Kd.R_drewN | apply Kd.R_drew)); exact HO_3.out) hb); have n1_ := Aside0.mk (below_step (by repeat (first | (with_reducible first | exact HB.out | apply below_alloc | apply pw_below_drewN | apply below_drew1) | exact HB.out)) hb); clear HO_3; clear HB; have HO_3 := n0_; have HB := n1_; clear n0_ n1_; (try clear hb); (try clear hb2); (try clear hk); (try clear hi)))
              go_ret
              exact ⟨by first | rfl | (simp [errW_none, errW_some] <;> rfl) | (simp [*, errW_none, errW_some] <;> rfl), by repeat (first | (with_reducible first | exact HB.out | apply below_alloc | apply pw_below_drewN | apply below_drew1) | exact HB.out)⟩
            · rw [if_neg c8] at H
              have c8b0 : decide (t302 < 1) = false := decide_eq_false c8
              clear c8
              by_cases c10 : t302 > (wrap64 ((a0.size : Int) - x4_1))
              · rw [if_pos c10] at H
                have c10b0 : decide ((wrap64 ((a0.size : Int) - x4_1)) < t302) = true := decide_eq_true c10
                clear c10
                obtain rfl := Option.some.inj H
                go_wp2_with (first | ((with_reducible refine gate_callee (f := 21) rfl ?_); refine goesL_ (some 23) rfl rfl Tryd.func21 (by kernel_rfl) rfl #[.string a0, .int .i64 x4_1] rfl (by (try simp only [List.map_toArray, List.map_cons, List.map_nil]); first | done | rfl | (simp only [List.length_drop, List.length_take]; rfl)) ?_; (with_reducible refine (utf_Next.calls a0 x4_1 t301 t302 t303 _ A6.out).mono ?_); rintro e w11 ⟨rfl, hb⟩; refine ⟨_, rfl, ?_⟩; have n0_ := Aside0.mk (Kd.R_below (by (with_reducible repeat (first | apply Kd.R_alloc | apply Kd.R_drewN | apply Kd.R_drew)); exact HO_3.out) hb); have n1_ := Aside0.mk (below_step (by repeat (first | (with_reducible first | exact HB.out | apply below_alloc | apply pw_below_drewN | apply below_drew1) | exact HB.out)) hb); clear HO_3; clear HB; have HO_3 := n0_; have HB := n1_; clear n0_ n1_; (try clear hb); (try clear hb2); (try clear hk); (try clear hi)))
                go_ret
                exact ⟨by first | rfl | (simp [errW_none, errW_some] <;> rfl) | (simp [*, errW_none, errW_some] <;> rfl), by repeat (first | (with_reducible first | exact HB.out | apply below_alloc | apply pw_below_drewN | apply below_drew1) | exact HB.out)⟩
              · rw [if_neg c10] at H
                have c10b0 : decide ((wrap64 ((a0.size : Int) - x4_1)) < t302) = false := decide_eq_false c10
                clear c10
                replace H := Option.bind_eq_some_iff.mp H
                obtain ⟨t304, A120, H⟩ := H
                replace H : (if t304 = true then (if x3_1.length < 35184372088832 then (thistlelaw01_UtfBack.l0 k1 a0 (x3_1 ++ [t301]) (wrap64 (x4_1 + t302))) else (none)) else (some false)) = some r := H
                have A12 := Aside0.mk A120
                clear A120
                by_cases c13 : t304 = true
                · subst c13
                  have H1 : (if x3_1.length < 35184372088832 then (thistlelaw01_UtfBack.l0 k1 a0 (x3_1 ++ [t301]) (wrap64 (x4_1 + t302))) else (none)) = some r := by rw [if_pos rfl] at H; exact H
                  clear H
                  have H := H1
                  clear H1
                  by_cases c14 : x3_1.length < 35184372088832
                  · rw [if_pos c14] at H
                    have LMc14 := Aside0.mk c14
                    clear c14
                    obtain ⟨y305, hy305⟩ : ∃ y_ : List Int, y_ = (x3_1 ++ [t301]) := ⟨_, rfl⟩
                    replace H : (thistlelaw01_UtfBack.l0 k1 a0 y305 (wrap64 (x4_1 + t302))) = some r := by first | (rw [hy305]; with_reducible exact H) | (have H2_ := (Option.bind_some _ _).symm.trans H; rw [hy305]; with_reducible exact H2_) | (have H2_ := (Option.bind_some _ _).symm.trans H; with_reducible exact H2_) | with_reducible exact H | (rw [hy305]; exact H) | exact H
                    have Ny305 := Aside0.mk hy305
                    clear hy305
                    have H' := Aside0.mk H
                    clear H
                    go_wp2_with (first | ((with_reducible refine gate_callee (f := 21) rfl ?_); refine goesL_ (some 23) rfl rfl Tryd.func21 (by kernel_rfl) rfl #[.string a0, .int .i64 x4_1] rfl (by (try simp only [List.map_toArray, List.map_cons, List.map_nil]); first | done | rfl | (simp only [List.length_drop, List.length_take]; rfl)) ?_; (with_reducible refine (utf_Next.calls a0 x4_1 t301 t302 t303 _ A6.out).mono ?_); rintro e w15 ⟨rfl, hb⟩; refine ⟨_, rfl, ?_⟩; have n0_ := Aside0.mk (Kd.R_below (by (with_reducible repeat (first | apply Kd.R_alloc | apply Kd.R_drewN | apply Kd.R_drew)); exact HO_3.out) hb); have n1_ := Aside0.mk (below_step (by repeat (first | (with_reducible first | exact HB.out | apply below_alloc | apply pw_below_drewN | apply below_drew1) | exact HB.out)) hb); clear HO_3; clear HB; have HO_3 := n0_; have HB := n1_; clear n0_ n1_; (try clear hb); (try clear hb2); (try clear hk); (try clear hi)) | (go_at_call 15; (with_reducible refine (utf_Border.calls k1 a0 x4_1 true _ ?side1 A12.out).mono ?_); (case side1 => first | exact hG | exact Glob.of_below hG (by repeat (first | (with_reducible first | exact HB.out | apply below_alloc | apply pw_below_drewN | apply below_drew1) | exact HB.out)) | exact Glob.of_below hG HB.out | exact Glob.drewN hG _ | exact Glob.drew hG | (with_reducible repeat (first | exact hG | apply Glob.drewN | apply Glob.drew | apply Glob.alloc))); rintro e w16 ⟨rfl, hb⟩; have n0_ := Aside0.mk (Kd.R_below (by (with_reducible repeat (first | apply Kd.R_alloc | apply Kd.R_drewN | apply Kd.R_drew)); exact HO_3.out) hb); have n1_ := Aside0.mk (below_step (by repeat (first | (with_reducible first | exact HB.out | apply below_alloc | apply pw_below_drewN | apply below_drew1) | exact HB.out)) hb); clear HO_3; clear HB; have HO_3 := n0_; have HB := n1_; clear n0_ n1_; (try clear hb); (try clear hb2); (try clear hk); (try clear hi)) | ((with_reducible refine gate_builtin (b := .append) (xs := #[.tmp 47, .tmp 49]) rfl ?_); (try (refine gate_guard (by rfl) ?_; dsimp only)); at_builtin; refine Kd.R_append (Kd.int .i32) (w0 := w) w.heap.size rfl (.tmp 47) (.tmp 49) 27 21 (.int .i32 0) 4 rfl Tryd.underlying27 info21 rfl (by decide) (by omega) u3 x3_1 t301 [.int .i32 t301] (fun _ => True) (fun _ => False) rfl rfl ?aP (fun _ hk => hk.elim) ?aF ?aO ?aB ?aS ?aL ?_; (case aP => exact rfl); (case aB => exact (by repeat (first | (with_reducible first | exact HB.out | apply below_alloc | apply pw_below_drewN | apply below_drew1) | exact HB.out))); (case aF => exact (fun _ _ => trivial)); (case aO => exact (by (with_reducible repeat (first | apply Kd.R_alloc | apply Kd.R_drewN | apply Kd.R_drew)); exact HO_3.out)); (case aS => exact (below_size (by repeat (first | (with_reducible first | exact HB.out | apply below_alloc | apply pw_below_drewN | apply below_drew1) | exact HB.out)))); (case aL => have := LMc14.out; omega); intro v306 w17 ho hb hg hat; rw [← Ny305.out] at ho; have n0_ := Aside0.mk (hb); have n1_ := Aside0.mk (ho); clear HB; clear HO_3; have HB := n0_; have HO307 := n1_; clear n0_ n1_; clear ho hb hg hat))
                    go_roundg k1
                    case measure => have := HK1.out; omega
                    case rel => exact ⟨(y305), (wrap64 (x4_1 + t302)), (by first | rfl | (simp; done) | (simp [*]; done)), H', ⟨by have := HK1.out; omega⟩, ⟨by (with_reducible repeat (first | apply Kd.R_alloc | apply Kd.R_drewN | apply Kd.R_drew)); exact HO307.out⟩, ⟨by repeat (first | (with_reducible first | exact HB.out | apply below_alloc | apply pw_below_drewN | apply below_drew1) | exact HB.out)⟩⟩
                  · rw [if_neg c14] at H
                    exact absurd H (by simp)
                · replace c13 := Bool.eq_false_iff.mpr c13
                  subst c13
                  have H1 : (some false) = some r := by rw [if_neg (show ¬ (false = true) by decide)] at H; exact H
                  clear H
                  have H := H1
                  clear H1
                  obtain rfl := Option.some.inj H
                  go_wp2_with (first | ((with_reducible refine gate_callee (f := 21) rfl ?_); refine goesL_ (some 23) rfl rfl Tryd.func21 (by kernel_rfl) rfl #[.string a0, .int .i64 x4_1] rfl (by (try simp only [List.map_toArray, List.map_cons, List.map_nil]); first | done | rfl | (simp only [List.length_drop, List.length_take]; rfl)) ?_; (with_reducible refine (utf_Next.calls a0 x4_1 t301 t302 t303 _ A6.out).mono ?_); rintro e w18 ⟨rfl, hb⟩; refine ⟨_, rfl, ?_⟩; have n0_ := Aside0.mk (Kd.R_below (by (with_reducible repeat (first | apply Kd.R_alloc | apply Kd.R_drewN | apply Kd.R_drew)); exact HO_3.out) hb); have n1_ := Aside0.mk (below_step (by repeat (first | (with_reducible first | exact HB.out | apply below_alloc | apply pw_below_drewN | apply below_drew1) | exact HB.out)) hb); clear HO_3; clear HB; have HO_3 := n0_; have HB := n1_; clear n0_ n1_; (try clear hb); (try clear hb2); (try clear hk); (try clear hi)) | (go_at_call 15; (with_reducible refine (utf_Border.calls k1 a0 x4_1 false _ ?side1 A12.out).mono ?_); (case side1 => first | exact hG | exact Glob.of_below hG (by repeat (first | (with_reducible first | exact HB.out | apply below_alloc | apply pw_below_drewN | apply below_drew1) | exact HB.out)) | exact Glob.of_below hG HB.out | exact Glob.drewN hG _ | exact Glob.drew hG | (with_reducible repeat (first | exact hG | apply Glob.drewN | apply Glob.drew | apply Glob.alloc))); rintro e w19 ⟨rfl, hb⟩; have n0_ := Aside0.mk (Kd.R_below (by (with_reducible repeat (first | apply Kd.R_alloc | apply Kd.R_drewN | apply Kd.R_drew)); exact HO_3.out) hb); have n1_ := Aside0.mk (below_step (by repeat (first | (with_reducible first | exact HB.out | apply below_alloc | apply pw_below_drewN | apply below_drew1) | exact HB.out)) hb); clear HO_3; clear HB; have HO_3 := n0_; have HB := n1_; clear n0_ n1_; (try clear hb); (try clear hb2); (try clear hk); (try clear hi)))
                  go_ret
                  exact ⟨by first | rfl | (simp [errW_none, errW_some] <;> rfl) | (simp [*, errW_none, errW_some] <;> rfl), by repeat (first | (with_reducible first | exact HB.out | apply below_alloc | apply pw_below_drewN | apply below_drew1) | exact HB.out)⟩
          · rw [if_neg c7] at H
            have c7b0 : (t303 == 0) = false := beq_eq_false_iff_ne.mpr c7
            have c7b1 : (t303 != 0) = true := bne_iff_ne.mpr c7
            obtain rfl := Option.some.inj H
            go_wp2_with (first | ((with_reducible refine gate_callee (f := 21) rfl ?_); refine goesL_ (some 23) rfl rfl Tryd.func21 (by kernel_rfl) rfl #[.string a0, .int .i64 x4_1] rfl (by (try simp only [List.map_toArray, List.map_cons, List.map_nil]); first | done | rfl | (simp only [List.length_drop, List.length_take]; rfl)) ?_; (with_reducible refine (utf_Next.calls a0 x4_1 t301 t302 t303 _ A6.out).mono ?_); rintro e w20 ⟨rfl, hb⟩; refine ⟨_, rfl, ?_⟩; have n0_ := Aside0.mk (Kd.R_below (by (with_reducible repeat (first | apply Kd.R_alloc | apply Kd.R_drewN | apply Kd.R_drew)); exact HO_3.out) hb); have n1_ := Aside0.mk (below_step (by repeat (first | (with_reducible first | exact HB.out | apply below_alloc | apply pw_below_drewN | apply below_drew1) | exact HB.out)) hb); clear HO_3; clear HB; have HO_3 := n0_; have HB := n1_; clear n0_ n1_; (try clear hb); (try clear hb2); (try clear hk); (try clear hi)))
            go_ret
            exact ⟨by first | rfl | (simp [errW_none, errW_some] <;> rfl) | (simp [*, errW_none, errW_some] <;> rfl), by repeat (first | (with_reducible first | exact HB.out | apply below_alloc | apply pw_below_drewN | apply below_drew1) | exact HB.out)⟩
        · rw [if_neg c5] at H
          have c5b0 : decide (x4_1 < (a0.size : Int)) = false := decide_eq_false c5
          clear c5
          have H' := Aside0.mk H
          clear H
          obtain ⟨Ao21, co21, eo21⟩ := Kd.R_slice HO_3.out
          subst eo21
          go_wp2
          go_loopg [4, 8] k1 (fun kq v4 v8 w' => ∃ (x4_2 : Int) (x8_2 : Int), v4 = .int .i64 x4_2 ∧ v8 = .int .i64 x8_2 ∧ Aside0 (thistlelaw01_UtfBack.l1 kq a0 x3_1 x4_2 x8_2 = some r) ∧ Aside0 (kq ≤ k1) ∧ Aside0 (Kd.R (Kd.int .i32) 21 w' w.heap.size (fun _ => True) (.slice Ao21 x3_1.length co21) x3_1) ∧ Aside0 (Below w.heap.size w w'))
          case atStart => exact ⟨((a0.size : Int)), ((x3_1.length : Int)), (by first | rfl | (simp; done) | (simp [*]; done)), (by first | rfl | (simp; done) | (simp [*]; done)), H', ⟨Nat.le_refl _⟩, ⟨by (with_reducible repeat (first | apply Kd.R_alloc | apply Kd.R_drewN | apply Kd.R_drew)); exact HO_3.out⟩, ⟨by repeat (first | (with_reducible first | exact HB.out | apply below_alloc | apply pw_below_drewN | apply below_drew1) | exact HB.out)⟩⟩
          case round =>
            clear H'
            try clear c1
            try clear c2
            try clear p2
            try clear c3
            try clear c5
            try clear c5b0
            try clear p6
            try clear c7
            try clear c7b0
            try clear c7b1
            try clear c8
            try clear c8b0
            try clear c10
            try clear c10b0
            try clear c13
            try clear c14
            try clear c21
            try clear p2
            obtain ⟨x4_2, x8_2, rfl, rfl, HA, HK2, HO_3, HB⟩ := hrel
            cases gk with
            | zero => exact absurd HA.out (by simp [thistlelaw01_UtfBack.l1])
            | succ k2 =>
              have H := HA.out
              clear HA
              simp only [thistlelaw01_UtfBack.l1] at H
              by_cases c22 : x4_2 > 0
              · rw [if_pos c22] at H
                have c22b0 : decide (0 < x4_2) = true := decide_eq_true c22
                clear c22
                replace H := Option.bind_eq_some_iff.mp H
                obtain ⟨⟨t308, t309, t310⟩, A230, H⟩ := H
                replace H : (if t310 = 0 then (if t309 < 1 then (some false) else (if t309 > x4_2 then (some false) else (if (wrap64 (x8_2 - 1)) < 0 then (some false) else (if 0 ≤ (wrap64 (x8_2 - 1)) then (if (wrap64 (x8_2 - 1)) < (x3_1.length : Int) then (if (rd x3_1 (wrap64 (x8_2 - 1))) = t308 then (thistlelaw01_UtfBack.l1 k2 a0 x3_1 (wrap64 (x4_2 - t309)) (wrap64 (x8_2 - 1))) else (some false)) else (none)) else (none))))) else (some false)) = some r := H
                have A23 := Aside0.mk A230
                clear A230
                by_cases c24 : t310 = 0
                · rw [if_pos c24] at H
                  have c24b0 : (t310 == 0) = true := beq_iff_eq.mpr c24
                  have c24b1 : (t310 != 0) = false := bne_eq_false_iff_eq.mpr c24
                  clear c24
                  by_cases c25 : t309 < 1
                  · rw [if_pos c25] at H
                    have c25b0 : decide (t309 < 1) = true := decide_eq_true c25
                    clear c25
                    obtain rfl := Option.some.inj H
                    go_wp2_with (first | ((with_reducible refine gate_callee (f := 22) rfl ?_); refine goesL_ (some 63) rfl rfl Tryd.func22 (by kernel_rfl) rfl #[.string a0, .int .i64 x4_2] rfl (by (try simp only [List.map_toArray, List.map_cons, List.map_nil]); first | done | rfl | (simp only [List.length_drop, List.length_take]; rfl)) ?_; (with_reducible refine (utf_Prev.calls k2 a0 x4_2 t308 t309 t310 _ ?side1 A23.out).mono ?_); (case side1 => first | exact hG | exact Glob.of_below hG (by repeat (first | (with_reducible first | exact HB.out | apply below_alloc | apply pw_below_drewN | apply below_drew1) | exact HB.out)) | exact Glob.of_below hG HB.out | exact Glob.drewN hG _ | exact Glob.drew hG | (with_reducible repeat (first | exact hG | apply Glob.drewN | apply Glob.drew | apply Glob.alloc))); rintro e w26 ⟨rfl, hb⟩; refine ⟨_, rfl, ?_⟩; have n0_ := Aside0.mk (Kd.R_below (by (with_reducible repeat (first | apply Kd.R_alloc | apply Kd.R_drewN | apply Kd.R_drew)); exact HO_3.out) hb); have n1_ := Aside0.mk (below_step (by repeat (first | (with_reducible first | exact HB.out | apply below_alloc | apply pw_below_drewN | apply below_drew1) | exact HB.out)) hb); clear HO_3; clear HB; have HO_3 := n0_; have HB := n1_; clear n0_ n1_; (try clear hb); (try clear hb2); (try clear hk); (try clear hi)))
                    go_ret
                    exact ⟨by first | rfl | (simp [errW_none, errW_some] <;> rfl) | (simp [*, errW_none, errW_some] <;> rfl), by repeat (first | (with_reducible first | exact HB.out | apply below_alloc | apply pw_below_drewN | apply below_drew1) | exact HB.out)⟩
                  · rw [if_neg c25] at H
                    have c25b0 : decide (t309 < 1) = false := decide_eq_false c25
                    clear c25
                    by_cases c27 : t309 > x4_2
                    · rw [if_pos c27] at H
                      have c27b0 : decide (x4_2 < t309) = true := decide_eq_true c27
                      clear c27
                      obtain rfl := Option.some.inj H
                      go_wp2_with (first | ((with_reducible refine gate_callee (f := 22) rfl ?_); refine goesL_ (some 63) rfl rfl Tryd.func22 (by kernel_rfl) rfl #[.string a0, .int .i64 x4_2] rfl (by (try simp only [List.map_toArray, List.map_cons, List.map_nil]); first | done | rfl | (simp only [List.length_drop, List.length_take]; rfl)) ?_; (with_reducible refine (utf_Prev.calls k2 a0 x4_2 t308 t309 t310 _ ?side1 A23.out).mono ?_); (case side1 => first | exact hG | exact Glob.of_below hG (by repeat (first | (with_reducible first | exact HB.out | apply below_alloc | apply pw_below_drewN | apply below_drew1) | exact HB.out)) | exact Glob.of_below hG HB.out | exact Glob.drewN hG _ | exact Glob.drew hG | (with_reducible repeat (first | exact hG | apply Glob.drewN | apply Glob.drew | apply Glob.alloc))); rintro e w28 ⟨rfl, hb⟩; refine ⟨_, rfl, ?_⟩; have n0_ := Aside0.mk (Kd.R_below (by (with_reducible repeat (first | apply Kd.R_alloc | apply Kd.R_drewN | apply Kd.R_drew)); exact HO_3.out) hb); have n1_ := Aside0.mk (below_step (by repeat (first | (with_reducible first | exact HB.out | apply below_alloc | apply pw_below_drewN | apply below_drew1) | exact HB.out)) hb); clear HO_3; clear HB; have HO_3 := n0_; have HB := n1_; clear n0_ n1_; (try clear hb); (try clear hb2); (try clear hk); (try clear hi)))
                      go_ret
                      exact ⟨by first | rfl | (simp [errW_none, errW_some] <;> rfl) | (simp [*, errW_none, errW_some] <;> rfl), by repeat (first | (with_reducible first | exact HB.out | apply below_alloc | apply pw_below_drewN | apply below_drew1) | exact HB.out)⟩
                    · rw [if_neg c27] at H
                      have c27b0 : decide (x4_2 < t309) = false := decide_eq_false c27
                      clear c27
                      by_cases c29 : (wrap64 (x8_2 - 1)) < 0
                      · rw [if_pos c29] at H
                        have c29b0 : decide ((wrap64 (x8_2 - 1)) < 0) = true := decide_eq_true c29
                        clear c29
                        obtain rfl := Option.some.inj H
                        go_wp2_with (first | ((with_reducible refine gate_callee (f := 22) rfl ?_); refine goesL_ (some 63) rfl rfl Tryd.func22 (by kernel_rfl) rfl #[.string a0, .int .i64 x4_2] rfl (by (try simp only [List.map_toArray, List.map_cons, List.map_nil]); first | done | rfl | (simp only [List.length_drop, List.length_take]; rfl)) ?_; (with_reducible refine (utf_Prev.calls k2 a0 x4_2 t308 t309 t310 _ ?side1 A23.out).mono ?_); (case side1 => first | exact hG | exact Glob.of_below hG (by repeat (first | (with_reducible first | exact HB.out | apply below_alloc | apply pw_below_drewN | apply below_drew1) | exact HB.out)) | exact Glob.of_below hG HB.out | exact Glob.drewN hG _ | exact Glob.drew hG | (with_reducible repeat (first | exact hG | apply Glob.drewN | apply Glob.drew | apply Glob.alloc))); rintro e w30 ⟨rfl, hb⟩; refine ⟨_, rfl, ?_⟩; have n0_ := Aside0.mk (Kd.R_below (by (with_reducible repeat (first | apply Kd.R_alloc | apply Kd.R_drewN | apply Kd.R_drew)); exact HO_3.out) hb); have n1_ := Aside0.mk (below_step (by repeat (first | (with_reducible first | exact HB.out | apply below_alloc | apply pw_below_drewN | apply below_drew1) | exact HB.out)) hb); clear HO_3; clear HB; have HO_3 := n0_; have HB := n1_; clear n0_ n1_; (try clear hb); (try clear hb2); (try clear hk); (try clear hi)))
                        go_ret
                        exact ⟨by first | rfl | (simp [errW_none, errW_some] <;> rfl) | (simp [*, errW_none, errW_some] <;> rfl), by repeat (first | (with_reducible first | exact HB.out | apply below_alloc | apply pw_below_drewN | apply below_drew1) | exact HB.out)⟩
                      · rw [if_neg c29] at H
                        have c29b0 : decide ((wrap64 (x8_2 - 1)) < 0) = false := decide_eq_false c29
                        clear c29
                        obtain ⟨ji31, hji31⟩ : ∃ j_ : Int, (wrap64 (x8_2 - 1)) = j_ := ⟨_, rfl⟩
                        replace H : (if 0 ≤ (ji31) then (if (ji31) < (x3_1.length : Int) then (if (rd x3_1 (ji31)) = t308 then (thistlelaw01_UtfBack.l1 k2 a0 x3_1 (wrap64 (x4_2 - t309)) ji31) else (some false)) else (none)) else (none)) = some r := by first | (rw [hji31] at H; exact H) | (simp only [hji31] at H ⊢; exact H)
                        (try rw [hji31] at c29b0)
                        (try rw [hji31] at A23)
                        have hji31w : (IntKind.i64.wrap (x8_2 - 1)) = ji31 := (i64_w _).trans hji31
                        by_cases c32 : 0 ≤ (ji31)
                        · rw [if_pos c32] at H
                          have c32b0 : decide (0 ≤ (ji31)) = true := decide_eq_true c32
                          clear c32
                          by_cases c33 : (ji31) < (x3_1.length : Int)
                          · rw [if_pos c33] at H
                            have c33b0 : decide ((ji31) < (x3_1.length : Int)) = true := decide_eq_true c33
                            clear c33
                            by_cases c34 : (rd x3_1 (ji31)) = t308
                            · rw [if_pos c34] at H
                              have c34b0 : ((rd x3_1 (ji31)) == t308) = true := beq_iff_eq.mpr c34
                              have c34b1 : ((rd x3_1 (ji31)) != t308) = false := bne_eq_false_iff_eq.mpr c34
                              clear c34
                              have H' := Aside0.mk H
                              clear H
                              go_wp2_with (first | ((with_reducible refine gate_callee (f := 22) rfl ?_); refine goesL_ (some 63) rfl rfl Tryd.func22 (by kernel_rfl) rfl #[.string a0, .int .i64 x4_2] rfl (by (try simp only [List.map_toArray, List.map_cons, List.map_nil]); first | done | rfl | (simp only [List.length_drop, List.length_take]; rfl)) ?_; (with_reducible refine (utf_Prev.calls k2 a0 x4_2 t308 t309 t310 _ ?side1 A23.out).mono ?_); (case side1 => first | exact hG | exact Glob.of_below hG (by repeat (first | (with_reducible first | exact HB.out | apply below_alloc | apply pw_below_drewN | apply below_drew1) | exact HB.out)) | exact Glob.of_below hG HB.out | exact Glob.drewN hG _ | exact Glob.drew hG | (with_reducible repeat (first | exact hG | apply Glob.drewN | apply Glob.drew | apply Glob.alloc))); rintro e w35 ⟨rfl, hb⟩; refine ⟨_, rfl, ?_⟩; have n0_ := Aside0.mk (Kd.R_below (by (with_reducible repeat (first | apply Kd.R_alloc | apply Kd.R_drewN | apply Kd.R_drew)); exact HO_3.out) hb); have n1_ := Aside0.mk (below_step (by repeat (first | (with_reducible first | exact HB.out | apply below_alloc | apply pw_below_drewN | apply below_drew1) | exact HB.out)) hb); clear HO_3; clear HB; have HO_3 := n0_; have HB := n1_; clear n0_ n1_; (try clear hb); (try clear hb2); (try clear hk); (try clear hi); have p311 : 0 ≤ ((ji31) : Int) := of_decide_eq_true (by first | (with_reducible assumption) | assumption); have q311 : (ji31) < (x3_1.length : Int) := of_decide_eq_true (by first | (with_reducible assumption) | assumption); obtain ⟨ad311, e311, hx311_0⟩ := Kd.at_int (Kd.R_reads' HO_3.out).2.2 (ji31) p311 q311; cases e311; replace p311 := eq_true p311; replace q311 := eq_true q311))
                              go_roundg k2
                              case measure => have := HK1.out; have := HK2.out; omega
                              case rel => exact ⟨(wrap64 (x4_2 - t309)), (ji31), (by first | rfl | (simp; done) | (simp [*]; done)), (by first | rfl | (simp; done) | (simp only [← hji31] <;> (first | rfl | simp)) | (simp [*]; done)), H', ⟨by have := HK1.out; have := HK2.out; omega⟩, ⟨by (with_reducible repeat (first | apply Kd.R_alloc | apply Kd.R_drewN | apply Kd.R_drew)); exact HO_3.out⟩, ⟨by repeat (first | (with_reducible first | exact HB.out | apply below_alloc | apply pw_below_drewN | apply below_drew1) | exact HB.out)⟩⟩
                            · rw [if_neg c34] at H
                              have c34b0 : ((rd x3_1 (ji31)) == t308) = false := beq_eq_false_iff_ne.mpr c34
                              have c34b1 : ((rd x3_1 (ji31)) != t308) = true := bne_iff_ne.mpr c34
                              obtain rfl := Option.some.inj H
                              go_wp2_with (first | ((with_reducible refine gate_callee (f := 22) rfl ?_); refine goesL_ (some 63) rfl rfl Tryd.func22 (by kernel_rfl) rfl #[.string a0, .int .i64 x4_2] rfl (by (try simp only [List.map_toArray, List.map_cons, List.map_nil]); first | done | rfl | (simp only [List.length_drop, List.length_take]; rfl)) ?_; (with_reducible refine (utf_Prev.calls k2 a0 x4_2 t308 t309 t310 _ ?side1 A23.out).mono ?_); (case side1 => first | exact hG | exact Glob.of_below hG (by repeat (first | (with_reducible first | exact HB.out | apply below_alloc | apply pw_below_drewN | apply below_drew1) | exact HB.out)) | exact Glob.of_below hG HB.out | exact Glob.drewN hG _ | exact Glob.drew hG | (with_reducible repeat (first | exact hG | apply Glob.drewN | apply Glob.drew | apply Glob.alloc))); rintro e w36 ⟨rfl, hb⟩; refine ⟨_, rfl, ?_⟩; have n0_ := Aside0.mk (Kd.R_below (by (with_reducible repeat (first | apply Kd.R_alloc | apply Kd.R_drewN | apply Kd.R_drew)); exact HO_3.out) hb); have n1_ := Aside0.mk (below_step (by repeat (first | (with_reducible first | exact HB.out | apply below_alloc | apply pw_below_drewN | apply below_drew1) | exact HB.out)) hb); clear HO_3; clear HB; have HO_3 := n0_; have HB := n1_; clear n0_ n1_; (try clear hb); (try clear hb2); (try clear hk); (try clear hi); have p311 : 0 ≤ ((ji31) : Int) := of_decide_eq_true (by first | (with_reducible assumption) | assumption); have q311 : (ji31) < (x3_1.length : Int) := of_decide_eq_true (by first | (with_reducible assumption) | assumption); obtain ⟨ad311, e311, hx311_0⟩ := Kd.at_int (Kd.R_reads' HO_3.out).2.2 (ji31) p311 q311; cases e311; replace p311 := eq_true p311; replace q311 := eq_true q311))
                              go_ret
                              exact ⟨by first | rfl | (simp [errW_none, errW_some] <;> rfl) | (simp only [← hji31]; first | rfl | (simp [errW_none, errW_some] <;> rfl)) | (simp [*, errW_none, errW_some] <;> rfl), by repeat (first | (with_reducible first | exact HB.out | apply below_alloc | apply pw_below_drewN | apply below_drew1) | exact HB.out)⟩
                          · rw [if_neg c33] at H
                            exact absurd H (by simp)
                        · rw [if_neg c32] at H
                          exact absurd H (by simp)
                · rw [if_neg c24] at H
                  have c24b0 : (t310 == 0) = false := beq_eq_false_iff_ne.mpr c24
                  have c24b1 : (t310 != 0) = true := bne_iff_ne.mpr c24
                  obtain rfl := Option.some.inj H
                  go_wp2_with (first | ((with_reducible refine gate_callee (f := 22) rfl ?_); refine goesL_ (some 63) rfl rfl Tryd.func22 (by kernel_rfl) rfl #[.string a0, .int .i64 x4_2] rfl (by (try simp only [List.map_toArray, List.map_cons, List.map_nil]); first | done | rfl | (simp only [List.length_drop, List.length_take]; rfl)) ?_; (with_reducible refine (utf_Prev.calls k2 a0 x4_2 t308 t309 t310 _ ?side1 A23.out).mono ?_); (case side1 => first | exact hG | exact Glob.of_below hG (by repeat (first | (with_reducible first | exact HB.out | apply below_alloc | apply pw_below_drewN | apply below_drew1) | exact HB.out)) | exact Glob.of_below hG HB.out | exact Glob.drewN hG _ | exact Glob.drew hG | (with_reducible repeat (first | exact hG | apply Glob.drewN | apply Glob.drew | apply Glob.alloc))); rintro e w37 ⟨rfl, hb⟩; refine ⟨_, rfl, ?_⟩; have n0_ := Aside0.mk (Kd.R_below (by (with_reducible repeat (first | apply Kd.R_alloc | apply Kd.R_drewN | apply Kd.R_drew)); exact HO_3.out) hb); have n1_ := Aside0.mk (below_step (by repeat (first | (with_reducible first | exact HB.out | apply below_alloc | apply pw_below_drewN | apply below_drew1) | exact HB.out)) hb); clear HO_3; clear HB; have HO_3 := n0_; have HB := n1_; clear n0_ n1_; (try clear hb); (try clear hb2); (try clear hk); (try clear hi)))
                  go_ret
                  exact ⟨by first | rfl | (simp [errW_none, errW_some] <;> rfl) | (simp [*, errW_none, errW_some] <;> rfl), by repeat (first | (with_reducible first | exact HB.out | apply below_alloc | apply pw_below_drewN | apply below_drew1) | exact HB.out)⟩
              · rw [if_neg c22] at H
                have c22b0 : decide (0 < x4_2) = false := decide_eq_false c22
                clear c22
                replace H := Option.bind_eq_some_iff.mp H
                obtain ⟨⟨t312, t313⟩, A380, H⟩ := H
                replace H : (if x8_2 = 0 then (if t313 = 0 then (if t312.toList = a0.toList then ((utf_Apart.f k2 x3_1).bind fun t314 => (if t314 = true then ((utf_Units.f a0).bind fun t315 => ((thistlelaw01_same.f k2 x3_1 t315).bind fun t318 => (some t318))) else (some false))) else (some false)) else (some false)) else (some false)) = some r := H
                have A38 := Aside0.mk A380
                clear A380
                by_cases c39 : x8_2 = 0
                · rw [if_pos c39] at H
                  have c39b0 : (x8_2 == 0) = true := beq_iff_eq.mpr c39
                  have c39b1 : (x8_2 != 0) = false := bne_eq_false_iff_eq.mpr c39
                  clear c39
                  by_cases c40 : t313 = 0
                  · rw [if_pos c40] at H
                    have c40b0 : (t313 == 0) = true := beq_iff_eq.mpr c40
                    have c40b1 : (t313 != 0) = false := bne_eq_false_iff_eq.mpr c40
                    clear c40
                    by_cases c41 : t312.toList = a0.toList
                    · rw [if_pos c41] at H
                      have c41b0 : (t312.toList == a0.toList) = true := beq_iff_eq.mpr c41
                      have c41b1 : (t312.toList != a0.toList) = false := bne_eq_false_iff_eq.mpr c41
                      clear c41
                      replace H := Option.bind_eq_some_iff.mp H
                      obtain ⟨t314, A420, H⟩ := H
                      replace H : (if t314 = true then ((utf_Units.f a0).bind fun t315 => ((thistlelaw01_same.f k2 x3_1 t315).bind fun t318 => (some t318))) else (some false)) = some r := H
                      have A42 := Aside0.mk A420
                      clear A420
                      by_cases c43 : t314 = true
                      · subst c43
                        have H1 : ((utf_Units.f a0).bind fun t315 => ((thistlelaw01_same.f k2 x3_1 t315).bind fun t318 => (some t318))) = some r := by rw [if_pos rfl] at H; exact H
                        clear H
                        have H := H1
                        clear H1
                        replace H := Option.bind_eq_some_iff.mp H
                        obtain ⟨t315, A440, H⟩ := H
                        replace H : ((thistlelaw01_same.f k2 x3_1 t315).bind fun t318 => (some t318)) = some r := H
                        have A44 := Aside0.mk A440
                        clear A440
                        replace H := Option.bind_eq_some_iff.mp H
                        obtain ⟨t318, A450, H⟩ := H
                        replace H : (some t318) = some r := H
                        have A45 := Aside0.mk A450
                        clear A450
                        obtain rfl := Option.some.inj H
                        go_wp2_with (first | ((with_reducible refine gate_callee (f := 23) rfl ?_); refine goesL_ (some 97) rfl rfl Tryd.func23 (by kernel_rfl) rfl #[.slice Ao21 x3_1.length co21] rfl (by (try simp only [List.map_toArray, List.map_cons, List.map_nil]); first | done | rfl | (simp only [List.length_drop, List.length_take]; rfl)) ?_; (with_reducible refine (utf_Text.calls _ _ x3_1 t312 t313 _ ?side1 ?side2 A38.out).mono ?_); (case side1 => repeat (first | exact (Kd.R_reads' HO_3.out).2.2 | (with_reducible refine Kd.C_alloc ?_ _) | (with_reducible refine Kd.C_drewN ?_ _) | (with_reducible refine Kd.C_drew ?_))); (case side2 => exact (Kd.R_reads' HO_3.out).2.1); rintro e w46 ⟨rfl, hb⟩; refine ⟨_, rfl, ?_⟩; have n0_ := Aside0.mk (Kd.R_below (by (with_reducible repeat (first | apply Kd.R_alloc | apply Kd.R_drewN | apply Kd.R_drew)); exact HO_3.out) hb); have n1_ := Aside0.mk (below_step (by repeat (first | (with_reducible first | exact HB.out | apply below_alloc | apply pw_below_drewN | apply below_drew1) | exact HB.out)) hb); clear HO_3; clear HB; have HO_3 := n0_; have HB := n1_; clear n0_ n1_; (try clear hb); (try clear hb2); (try clear hk); (try clear hi)) | (go_at_call 24; (with_reducible refine (utf_Apart.calls k2 _ _ x3_1 true _ ?side1 ?side2 A42.out).mono ?_); (case side1 => repeat (first | exact (Kd.R_reads' HO_3.out).2.2 | (with_reducible refine Kd.C_alloc ?_ _) | (with_reducible refine Kd.C_drewN ?_ _) | (with_reducible refine Kd.C_drew ?_))); (case side2 => exact (Kd.R_reads' HO_3.out).2.1); rintro e w47 ⟨rfl, hb⟩; have n0_ := Aside0.mk (Kd.R_below (by (with_reducible repeat (first | apply Kd.R_alloc | apply Kd.R_drewN | apply Kd.R_drew)); exact HO_3.out) hb); have n1_ := Aside0.mk (below_step (by repeat (first | (with_reducible first | exact HB.out | apply below_alloc | apply pw_below_drewN | apply below_drew1) | exact HB.out)) hb); clear HO_3; clear HB; have HO_3 := n0_; have HB := n1_; clear n0_ n1_; (try clear hb); (try clear hb2); (try clear hk); (try clear hi)) | (go_at_call 12; (with_reducible refine (utf_Units.calls a0 t315 _ A44.out).mono ?_); rintro e w48 ⟨v316, rfl, ho0, hb⟩; have n0_ := Aside0.mk (Kd.R_elder' (by (with_reducible repeat (first | apply Kd.R_alloc | apply Kd.R_drewN | apply Kd.R_drew)); exact HO_3.out) (Kd.R_base ho0) hb); have n1_ := Aside0.mk (Kd.R_lower (Kd.R_new' ho0 (Kd.R_lt (by (with_reducible repeat (first | apply Kd.R_alloc | apply Kd.R_drewN | apply Kd.R_drew)); exact HO_3.out))) (below_size (by repeat (first | (with_reducible first | exact HB.out | apply below_alloc | apply pw_below_drewN | apply below_drew1) | exact HB.out)))); have n2_ := Aside0.mk (below_step (by repeat (first | (with_reducible first | exact HB.out | apply below_alloc | apply pw_below_drewN | apply below_drew1) | exact HB.out)) hb); clear HO_3; clear HB; have HO_3 := n0_; have HO317 := n1_; have HB := n2_; clear n0_ n1_ n2_; (try clear hb); (try clear hb2); (try clear hk); (try clear hi); (try clear ho0); obtain ⟨Ao49, co49, eo49⟩ := Kd.R_slice HO317.out; subst eo49) | (go_at_call 17; (with_reducible refine (thistlelaw01_same.calls k2 _ _ x3_1 _ _ t315 t318 _ ?side1 ?side2 ?side3 ?side4 A45.out).mono ?_); (case side1 => repeat (first | exact (Kd.R_reads' HO_3.out).2.2 | (with_reducible refine Kd.C_alloc ?_ _) | (with_reducible refine Kd.C_drewN ?_ _) | (with_reducible refine Kd.C_drew ?_))); (case side2 => exact (Kd.R_reads' HO_3.out).2.1); (case side3 => repeat (first | exact (Kd.R_reads' HO317.out).2.2 | (with_reducible refine Kd.C_alloc ?_ _) | (with_reducible refine Kd.C_drewN ?_ _) | (with_reducible refine Kd.C_drew ?_))); (case side4 => exact (Kd.R_reads' HO317.out).2.1); rintro e w' ⟨rfl, ⟨nd, rfl⟩⟩))
                        go_ret
                        exact ⟨by first | rfl | (simp [errW_none, errW_some] <;> rfl) | (simp [*, errW_none, errW_some] <;> rfl), by repeat (first | (with_reducible first | exact HB.out | apply below_alloc | apply pw_below_drewN | apply below_drew1) | exact HB.out)⟩
                      · replace c43 := Bool.eq_false_iff.mpr c43
                        subst c43
                        have H1 : (some false) = some r := by rw [if_neg (show ¬ (false = true) by decide)] at H; exact H
                        clear H
                        have H := H1
                        clear H1
                        obtain rfl := Option.some.inj H
                        go_wp2_with (first | ((with_reducible refine gate_callee (f := 23) rfl ?_); refine goesL_ (some 97) rfl rfl Tryd.func23 (by kernel_rfl) rfl #[.slice Ao21 x3_1.length co21] rfl (by (try simp only [List.map_toArray, List.map_cons, List.map_nil]); first | done | rfl | (simp only [List.length_drop, List.length_take]; rfl)) ?_; (with_reducible refine (utf_Text.calls _ _ x3_1 t312 t313 _ ?side1 ?side2 A38.out).mono ?_); (case side1 => repeat (first | exact (Kd.R_reads' HO_3.out).2.2 | (with_reducible refine Kd.C_alloc ?_ _) | (with_reducible refine Kd.C_drewN ?_ _) | (with_reducible refine Kd.C_drew ?_))); (case side2 => exact (Kd.R_reads' HO_3.out).2.1); rintro e w50 ⟨rfl, hb⟩; refine ⟨_, rfl, ?_⟩; have n0_ := Aside0.mk (Kd.R_below (by (with_reducible repeat (first | apply Kd.R_alloc | apply Kd.R_drewN | apply Kd.R_drew)); exact HO_3.out) hb); have n1_ := Aside0.mk (below_step (by repeat (first | (with_reducible first | exact HB.out | apply below_alloc | apply pw_below_drewN | apply below_drew1) | exact HB.out)) hb); clear HO_3; clear HB; have HO_3 := n0_; have HB := n1_; clear n0_ n1_; (try clear hb); (try clear hb2); (try clear hk); (try clear hi)) | (go_at_call 24; (with_reducible refine (utf_Apart.calls k2 _ _ x3_1 false _ ?side1 ?side2 A42.out).mono ?_); (case side1 => repeat (first | exact (Kd.R_reads' HO_3.out).2.2 | (with_reducible refine Kd.C_alloc ?_ _) | (with_reducible refine Kd.C_drewN ?_ _) | (with_reducible refine Kd.C_drew ?_))); (case side2 => exact (Kd.R_reads' HO_3.out).2.1); rintro e w51 ⟨rfl, hb⟩; have n0_ := Aside0.mk (Kd.R_below (by (with_reducible repeat (first | apply Kd.R_alloc | apply Kd.R_drewN | apply Kd.R_drew)); exact HO_3.out) hb); have n1_ := Aside0.mk (below_step (by repeat (first | (with_reducible first | exact HB.out | apply below_alloc | apply pw_below_drewN | apply below_drew1) | exact HB.out)) hb); clear HO_3; clear HB; have HO_3 := n0_; have HB := n1_; clear n0_ n1_; (try clear hb); (try clear hb2); (try clear hk); (try clear hi)))
                        go_ret
                        exact ⟨by first | rfl | (simp [errW_none, errW_some] <;> rfl) | (simp [*, errW_none, errW_some] <;> rfl), by repeat (first | (with_reducible first | exact HB.out | apply below_alloc | apply pw_below_drewN | apply below_drew1) | exact HB.out)⟩
                    · rw [if_neg c41] at H
                      have c41b0 : (t312.toList == a0.toList) = false := beq_eq_false_iff_ne.mpr c41
                      have c41b1 : (t312.toList != a0.toList) = true := bne_iff_ne.mpr c41
                      obtain rfl := Option.some.inj H
                      go_wp2_with (first | ((with_reducible refine gate_callee (f := 23) rfl ?_); refine goesL_ (some 97) rfl rfl Tryd.func23 (by kernel_rfl) rfl #[.slice Ao21 x3_1.length co21] rfl (by (try simp only [List.map_toArray, List.map_cons, List.map_nil]); first | done | rfl | (simp only [List.length_drop, List.length_take]; rfl)) ?_; (with_reducible refine (utf_Text.calls _ _ x3_1 t312 t313 _ ?side1 ?side2 A38.out).mono ?_); (case side1 => repeat (first | exact (Kd.R_reads' HO_3.out).2.2 | (with_reducible refine Kd.C_alloc ?_ _) | (with_reducible refine Kd.C_drewN ?_ _) | (with_reducible refine Kd.C_drew ?_))); (case side2 => exact (Kd.R_reads' HO_3.out).2.1); rintro e w52 ⟨rfl, hb⟩; refine ⟨_, rfl, ?_⟩; have n0_ := Aside0.mk (Kd.R_below (by (with_reducible repeat (first | apply Kd.R_alloc | apply Kd.R_drewN | apply Kd.R_drew)); exact HO_3.out) hb); have n1_ := Aside0.mk (below_step (by repeat (first | (with_reducible first | exact HB.out | apply below_alloc | apply pw_below_drewN | apply below_drew1) | exact HB.out)) hb); clear HO_3; clear HB; have HO_3 := n0_; have HB := n1_; clear n0_ n1_; (try clear hb); (try clear hb2); (try clear hk); (try clear hi)))
                      go_ret
                      exact ⟨by first | rfl | (simp [errW_none, errW_some] <;> rfl) | (simp [*, errW_none, errW_some] <;> rfl), by repeat (first | (with_reducible first | exact HB.out | apply below_alloc | apply pw_below_drewN | apply below_drew1) | exact HB.out)⟩
                  · rw [if_neg c40] at H
                    have c40b0 : (t313 == 0) = false := beq_eq_false_iff_ne.mpr c40
                    have c40b1 : (t313 != 0) = true := bne_iff_ne.mpr c40
                    obtain rfl := Option.some.inj H
                    go_wp2_with (first | ((with_reducible refine gate_callee (f := 23) rfl ?_); refine goesL_ (some 97) rfl rfl Tryd.func23 (by kernel_rfl) rfl #[.slice Ao21 x3_1.length co21] rfl (by (try simp only [List.map_toArray, List.map_cons, List.map_nil]); first | done | rfl | (simp only [List.length_drop, List.length_take]; rfl)) ?_; (with_reducible refine (utf_Text.calls _ _ x3_1 t312 t313 _ ?side1 ?side2 A38.out).mono ?_); (case side1 => repeat (first | exact (Kd.R_reads' HO_3.out).2.2 | (with_reducible refine Kd.C_alloc ?_ _) | (with_reducible refine Kd.C_drewN ?_ _) | (with_reducible refine Kd.C_drew ?_))); (case side2 => exact (Kd.R_reads' HO_3.out).2.1); rintro e w53 ⟨rfl, hb⟩; refine ⟨_, rfl, ?_⟩; have n0_ := Aside0.mk (Kd.R_below (by (with_reducible repeat (first | apply Kd.R_alloc | apply Kd.R_drewN | apply Kd.R_drew)); exact HO_3.out) hb); have n1_ := Aside0.mk (below_step (by repeat (first | (with_reducible first | exact HB.out | apply below_alloc | apply pw_below_drewN | apply below_drew1) | exact HB.out)) hb); clear HO_3; clear HB; have HO_3 := n0_; have HB := n1_; clear n0_ n1_; (try clear hb); (try clear hb2); (try clear hk); (try clear hi)))
                    go_ret
                    exact ⟨by first | rfl | (simp [errW_none, errW_some] <;> rfl) | (simp [*, errW_none, errW_some] <;> rfl), by repeat (first | (with_reducible first | exact HB.out | apply below_alloc | apply pw_below_drewN | apply below_drew1) | exact HB.out)⟩
                · rw [if_neg c39] at H
                  have c39b0 : (x8_2 == 0) = false := beq_eq_false_iff_ne.mpr c39
                  have c39b1 : (x8_2 != 0) = true := bne_iff_ne.mpr c39
                  obtain rfl := Option.some.inj H
                  go_wp2_with (first | ((with_reducible refine gate_callee (f := 23) rfl ?_); refine goesL_ (some 97) rfl rfl Tryd.func23 (by kernel_rfl) rfl #[.slice Ao21 x3_1.length co21] rfl (by (try simp only [List.map_toArray, List.map_cons, List.map_nil]); first | done | rfl | (simp only [List.length_drop, List.length_take]; rfl)) ?_; (with_reducible refine (utf_Text.calls _ _ x3_1 t312 t313 _ ?side1 ?side2 A38.out).mono ?_); (case side1 => repeat (first | exact (Kd.R_reads' HO_3.out).2.2 | (with_reducible refine Kd.C_alloc ?_ _) | (with_reducible refine Kd.C_drewN ?_ _) | (with_reducible refine Kd.C_drew ?_))); (case side2 => exact (Kd.R_reads' HO_3.out).2.1); rintro e w54 ⟨rfl, hb⟩; refine ⟨_, rfl, ?_⟩; have n0_ := Aside0.mk (Kd.R_below (by (with_reducible repeat (first | apply Kd.R_alloc | apply Kd.R_drewN | apply Kd.R_drew)); exact HO_3.out) hb); have n1_ := Aside0.mk (below_step (by repeat (first | (with_reducible first | exact HB.out | apply below_alloc | apply pw_below_drewN | apply below_drew1) | exact HB.out)) hb); clear HO_3; clear HB; have HO_3 := n0_; have HB := n1_; clear n0_ n1_; (try clear hb); (try clear hb2); (try clear hk); (try clear hi)))
                  go_ret
                  exact ⟨by first | rfl | (simp [errW_none, errW_some] <;> rfl) | (simp [*, errW_none, errW_some] <;> rfl), by repeat (first | (with_reducible first | exact HB.out | apply below_alloc | apply pw_below_drewN | apply below_drew1) | exact HB.out)⟩
  · replace c3 := Bool.eq_false_iff.mpr c3
    subst c3
    have H1 : (some false) = some r := by rw [if_neg (show ¬ (false = true) by decide)] at H; exact H
    clear H
    have H := H1
    clear H1
    obtain rfl := Option.some.inj H
    go_enter Tryd.func5, Tryd.ntmps5
    go_wp2_with (first | ((with_reducible refine gate_callee (f := 8) rfl ?_); refine goesL_ (some 14) rfl rfl Tryd.func8 (by kernel_rfl) rfl #[] rfl (by (try simp only [List.map_toArray, List.map_cons, List.map_nil]); first | done | rfl | (simp only [List.length_drop, List.length_take]; rfl)) ?_; (with_reducible refine (thistlelaw01_awake.calls  false _ A2.out).mono ?_); rintro e w55 ⟨rfl, hb⟩; refine ⟨_, rfl, ?_⟩; have n0_ := Aside0.mk (below_step (by repeat (first | (with_reducible first | exact HB.out | apply below_alloc | apply pw_below_drewN | apply below_drew1) | exact HB.out)) hb); clear HB; have HB := n0_; clear n0_; (try clear hb); (try clear hb2); (try clear hk); (try clear hi)))
    go_ret
    exact ⟨by first | rfl | (simp [errW_none, errW_some] <;> rfl) | (simp [*, errW_none, errW_some] <;> rfl), by repeat (first | (with_reducible first | exact HB.out | apply below_alloc | apply pw_below_drewN | apply below_drew1) | exact HB.out)⟩

end Go.Proofs.YtaipokmbgcmciaaDoor.PU
