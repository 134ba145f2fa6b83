/- Contracts of functions that the law reaches: what each call answers, as a plain function of what it reads; on condition that the function answers there. Printed by this session's own tool. -/
import Derived.Test.YtoggmegpodmfnaaDoorPYx0
import Derived.Test.YtoggmegpodmfnaaDoorPYx3
import Derived.Test.YtoggmegpodmfnaaDoorPYx5
import Derived.Test.YtoggmegpodmfnaaDoorPYx6
namespace Go.Proofs.YtoggmegpodmfnaaDoor.PY
open Go.RowKit Go.Proofs.YtoggmegpodmfnaaDoor.B Go.Proofs.YtoggmegpodmfnaaDoorW.PrintWords Go.Proofs.YtoggmegpodmfnaaDoorW.PrintLast Go.Proofs.YtoggmegpodmfnaaDoorW.PrintMore
attribute [local go_sem] max2_int min2_int max_two min_two max_three min_three max_four min_four   -- for this text's walks alone
set_option linter.unusedVariables false
set_option linter.unusedSimpArgs false

/-! ### sets_And: function 23 -/
def bandsA : List S29 := [⟨0, 55295⟩, ⟨57344, 1114111⟩, ⟨1114240, 1114367⟩]
def sets_And.f (k : Nat) (l0 l1 : List S29) : Option (List S29 × Int) := (sets_check.f k [l0, l1]).bind fun t => if t = 0 then (sets_without.f k bandsA l1).bind fun x => (sets_without.f k l0 x).bind fun y => some (y, 0) else some ([], t)
theorem sets_And.mono : ∀ a0 a1 k, LeO (sets_And.f k a0 a1) (sets_And.f (k + 1) a0 a1) := by
  intro a0 a1 k
  unfold sets_And.f
  repeat' first
      | exact sets_without.mono _ _ _
      | exact sets_check.mono _ _
      | exact LeO.refl _
      | refine LeO.ite ?_ ?_
      | refine LeO.bind ?_ (fun _ => ?_)
theorem sets_And.bands {w : World} (hG : Glob w) : Kd.C k29 w (some ⟨0, 0, none⟩) bandsA.length bandsA := by
  refine ⟨rfl, by decide, fun _ => ⟨_, rfl, fun j p hp => ?_⟩⟩
  match j, hp with
  | 0, hp => obtain rfl := Option.some.inj hp; exact ⟨[.int .i32 0, .int .i32 55295], rfl, k29_mk w ⟨0, 55295⟩, fun i u hu => by
      match i, hu with
      | 0, hu => obtain rfl := Option.some.inj hu; exact hG 0 (by omega)
      | 1, hu => obtain rfl := Option.some.inj hu; exact hG 1 (by omega)⟩
  | 1, hp => obtain rfl := Option.some.inj hp; exact ⟨[.int .i32 57344, .int .i32 1114111], rfl, k29_mk w ⟨57344, 1114111⟩, fun i u hu => by
      match i, hu with
      | 0, hu => obtain rfl := Option.some.inj hu; exact hG 2 (by omega)
      | 1, hu => obtain rfl := Option.some.inj hu; exact hG 3 (by omega)⟩
  | 2, hp => obtain rfl := Option.some.inj hp; exact ⟨[.int .i32 1114240, .int .i32 1114367], rfl, k29_mk w ⟨1114240, 1114367⟩, fun i u hu => by
      match i, hu with
      | 0, hu => obtain rfl := Option.some.inj hu; exact hG 4 (by omega)
      | 1, hu => obtain rfl := Option.some.inj hu; exact hG 5 (by omega)⟩
theorem sets_And.two {w : World} {A0 A1 : Option Addr} {c0 c1 : Nat} {l0 l1 : List S29} (hr0 : Kd.C k29 w A0 l0.length l0) (hc0 : l0.length ≤ c0) (hr1 : Kd.C k29 w A1 l1.length l1) (hc1 : l1.length ≤ c1) :
    Kd.C (Kd.slice 29 k29) (w.alloc (.cells #[.slice A0 l0.length c0, .slice A1 l1.length c1] 22)) (some ⟨w.heap.size, 0, none⟩) ([l0, l1] : List (List S29)).length [l0, l1] := by
  have hb := heap_alloc_new w (.cells #[.slice A0 l0.length c0, .slice A1 l1.length c1] 22)
  refine ⟨rfl, by simp, fun _ => ⟨_, rfl, fun j p hp => ?_⟩⟩
  match j, hp with
  | 0, hp => obtain rfl := Option.some.inj hp; exact ⟨[.slice A0 l0.length c0], rfl, ⟨A0, c0, rfl, hc0, Kd.C_alloc hr0 _⟩, fun i u hu => by
      match i, hu with
      | 0, hu => obtain rfl := Option.some.inj hu; exact (blk_cell hb 0).trans rfl⟩
  | 1, hp => obtain rfl := Option.some.inj hp; exact ⟨[.slice A1 l1.length c1], rfl, ⟨A1, c1, rfl, hc1, Kd.C_alloc hr1 _⟩, fun i u hu => by
      match i, hu with
      | 0, hu => obtain rfl := Option.some.inj hu; exact (blk_cell hb 1).trans rfl⟩
theorem sets_And.ck (k : Nat) (t : Int) (b : Nat) (l0 l1 : List S29) (w : World) (hC : Kd.C (Kd.slice 29 k29) w (some ⟨b, 0, none⟩) ([l0, l1] : List (List S29)).length [l0, l1]) (hG : Glob w) (h : sets_check.f k [l0, l1] = some t) :
    Calls Tryd.prog 40 #[.slice (some ⟨b, 0, none⟩) 2 2] w fun e w' => e = .returned (.int .i64 t) ∧ Below w.heap.size w w' :=
  sets_check.calls k (some ⟨b, 0, none⟩) 2 [l0, l1] t w hC (Nat.le_refl _) hG h
theorem sets_And.wo (k : Nat) (A1 : Option Addr) (c1 : Nat) (l1 x : List S29) (w : World) (hG : Glob w) (hr1 : Kd.C k29 w A1 l1.length l1) (hc1 : l1.length ≤ c1) (h : sets_without.f k bandsA l1 = some x) :
    Calls Tryd.prog 42 #[.slice (some ⟨0, 0, none⟩) 3 3, .slice A1 l1.length c1] w fun e w' => ∃ v0_ : Value, e = .returned v0_ ∧ Kd.R k29 29 w' w.heap.size (fun _ => True) v0_ x ∧ Below w.heap.size w w' :=
  sets_without.calls k (some ⟨0, 0, none⟩) 3 bandsA A1 c1 l1 x w (sets_And.bands hG) (by decide) hr1 hc1 h
set_option maxHeartbeats 4000000 in
set_option maxRecDepth 100000 in
theorem sets_And.calls (k : Nat) (A0 : Option Addr) (c0 : Nat) (l0 : List S29) (A1 : Option Addr) (c1 : Nat) (l1 : List S29) (r1 : List S29) (r2 : Int) (w : World) (hr0 : Kd.C k29 w A0 l0.length l0) (hc0 : l0.length ≤ c0) (hr1 : Kd.C k29 w A1 l1.length l1) (hc1 : l1.length ≤ c1) (hG : Glob w) (h : sets_And.f k l0 l1 = some (r1, r2)) :
    Calls Tryd.prog 23 #[.slice A0 l0.length c0, .slice A1 l1.length c1] w fun e w' => ∃ v0_ : Value, e = .returned (.tuple #[v0_, .int .i64 r2]) ∧ Kd.R k29 29 w' w.heap.size (fun _ => True) v0_ r1 ∧ Below w.heap.size w w' := by
  unfold sets_And.f at h
  obtain ⟨t, ht, h⟩ := Option.bind_eq_some_iff.1 h
  have HTW := Aside0.mk (sets_And.two hr0 hc0 hr1 hc1)
  have HR0 := Aside0.mk hr0
  have HR1 := Aside0.mk hr1
  have HG := Aside0.mk hG
  have HT := Aside0.mk ht
  have HB0 := Aside0.mk (below_alloc (Below.refl _ w) (.cells #[.slice A0 l0.length c0, .slice A1 l1.length c1] 22))
  clear hr0 hr1 hG ht
  by_cases h0 : t = 0
  · subst h0
    rw [if_pos rfl] at h
    obtain ⟨x, hx, h⟩ := Option.bind_eq_some_iff.1 h
    obtain ⟨y, hy, h⟩ := Option.bind_eq_some_iff.1 h
    simp only [Option.some.injEq, Prod.mk.injEq] at h
    obtain ⟨rfl, rfl⟩ := h
    have HX := Aside0.mk hx
    have HY := Aside0.mk hy
    clear hx hy
    have tok1 : True := trivial
    go_enter Tryd.func23, Tryd.ntmps23
    go_wp2_with (first
      | (go_at_call 40; (with_reducible refine (sets_And.ck k 0 _ l0 l1 _ HTW.out (HG.out.of_below HB0.out) HT.out).mono ?_); rintro e w1 ⟨rfl, hb1⟩; have HB1 := Aside0.mk (below_step HB0.out hb1); clear hb1)
      | (go_at_call 42; clear tok1; (with_reducible refine (sets_And.wo k _ _ l1 x _ (HG.out.of_below HB1.out) (Kd.C_below HR1.out HB1.out) hc1 HX.out).mono ?_); rintro e w2 ⟨v2, rfl, hR2, hb2⟩; obtain ⟨A2, c2, rfl, hc2, hC2⟩ := Kd.R_reads hR2; have HC2 := Aside0.mk hC2; have HB2 := Aside0.mk (below_step HB1.out hb2); clear hR2 hC2 hb2)
      | (go_at_call 42; (with_reducible refine (sets_without.calls k _ _ l0 _ _ x y _ (Kd.C_below HR0.out HB2.out) hc0 HC2.out hc2 HY.out).mono ?_); rintro e w3 ⟨v3, rfl, hR3, hb3⟩; have HO3 := Aside0.mk (Kd.R_lower hR3 HB2.out.size); have HB3 := Aside0.mk (below_step HB2.out hb3); clear hR3 hb3))
    go_ret2
    exact ⟨_, rfl, HO3.out, HB3.out⟩
  · rw [if_neg h0] at h
    simp only [Option.some.injEq, Prod.mk.injEq] at h
    obtain ⟨rfl, rfl⟩ := h
    have hne : (t != 0) = true := by simpa using h0
    clear h0
    go_enter Tryd.func23, Tryd.ntmps23
    go_wp2_with (go_at_call 40; (with_reducible refine (sets_And.ck k t _ l0 l1 _ HTW.out (HG.out.of_below HB0.out) HT.out).mono ?_); rintro e w1 ⟨rfl, hb1⟩; have HB1 := Aside0.mk (below_step HB0.out hb1); clear hb1)
    go_ret2
    exact ⟨_, rfl, Kd.R_nil _ _ _ _ _, HB1.out⟩

/-! ### sets_Minus: function 24 -/
def sets_Minus.f (k : Nat) (l0 : List (S29)) (l1 : List (S29)) : Option ((List (S29)) × Int) := (sets_check.f k (([l0, l1] : List (List (S29))))).bind fun t181 => (if t181 = 0 then ((sets_without.f k l0 l1).bind fun t182 => (some (t182, 0))) else (some (([] : List (S29)), t181)))
theorem sets_Minus.mono : ∀ a0 a1 k, LeO (sets_Minus.f k a0 a1) (sets_Minus.f (k + 1) a0 a1) := by
  intro a0 a1 k
  unfold sets_Minus.f
  repeat' first
      | (with_reducible exact sets_check.mono _ _)
      | (with_reducible exact sets_without.mono _ _ _)
      | (with_reducible exact LeO.refl _)
      | (with_reducible exact LeO.none _)
      | (with_reducible refine LeO.ite ?_ ?_)
      | (with_reducible refine LeO.bind ?_ (fun _ => ?_))
      | exact sets_check.mono _ _
      | exact sets_without.mono _ _ _
      | exact LeO.none _
      | refine LeO.ite ?_ ?_
      | refine LeO.bind ?_ (fun _ => ?_)
set_option maxHeartbeats 8000000 in
set_option maxRecDepth 100000 in
theorem sets_Minus.calls (k : Nat) (P0_ : Nat → Prop) (A0 : Option Addr) (c0 : Nat) (l0 : List (S29)) (P1_ : Nat → Prop) (A1 : Option Addr) (c1 : Nat) (l1 : List (S29)) (r1 : List (S29)) (r2 : Int) (w : World) (hs0 : Kd.V k29 29 w w.heap.size (fun k_ => P0_ k_) (.slice A0 l0.length c0) l0) (hs1 : Kd.V k29 29 w w.heap.size (fun k_ => P1_ k_) (.slice A1 l1.length c1) l1) (hG : Glob w) (h : sets_Minus.f k l0 l1 = some (r1, r2)) :
    Calls Tryd.prog 24 #[.slice A0 l0.length c0, .slice A1 l1.length c1] w fun e w' => ∃ v0_ : Value, e = .returned (.tuple #[v0_, .int .i64 r2]) ∧ Kd.R k29 29 w' w.heap.size (fun k_ => (w.heap.size ≤ k_)) v0_ r1 ∧ Below w.heap.size w w' := by
  have HO0 := Aside0.mk (show Kd.V k29 29 w w.heap.size (fun k_ => ((P0_ k_ ∨ P1_ k_) ∨ w.heap.size ≤ k_)) (.slice A0 l0.length c0) l0 from Kd.V_mono hs0 (fun k_ hk => .inl (.inl hk)))
  have HO1 := Aside0.mk (show Kd.V k29 29 w w.heap.size (fun k_ => ((P0_ k_ ∨ P1_ k_) ∨ w.heap.size ≤ k_)) (.slice A1 l1.length c1) l1 from Kd.V_mono hs1 (fun k_ hk => .inl (.inr hk)))
  have HB := Aside0.mk (Below.refl w.heap.size w)
  have H : ((sets_check.f k (([l0, l1] : List (List (S29))))).bind fun t181 => (if t181 = 0 then ((sets_without.f k l0 l1).bind fun t182 => (some (t182, 0))) else (some (([] : List (S29)), t181)))) = some (r1, r2) := h
  clear h
  obtain ⟨y178, hy178⟩ : ∃ y_ : List (List (S29)), y_ = (([l0, l1] : List (List (S29)))) := ⟨_, rfl⟩
  replace H : ((sets_check.f k y178).bind fun t181 => (if t181 = 0 then ((sets_without.f k l0 l1).bind fun t182 => (some (t182, 0))) else (some (([] : List (S29)), t181)))) = some (r1, r2) := by first | (rw [hy178]; with_reducible exact H) | (have H2_ := (Option.bind_some _ _).symm.trans H; rw [hy178]; with_reducible exact H2_) | (have H2_ := (Option.bind_some _ _).symm.trans H; with_reducible exact H2_) | with_reducible exact H | (rw [hy178]; exact H) | exact H
  have Ny178 := Aside0.mk hy178
  clear hy178
  replace H := Option.bind_eq_some_iff.mp H
  obtain ⟨t181, A30, H⟩ := H
  replace H : (if t181 = 0 then ((sets_without.f k l0 l1).bind fun t182 => (some (t182, 0))) else (some (([] : List (S29)), t181))) = some (r1, r2) := H
  have A3 := Aside0.mk A30
  clear A30
  by_cases c4 : t181 = 0
  · rw [if_pos c4] at H
    have c4b0 : (t181 == 0) = true := beq_iff_eq.mpr c4
    have c4b1 : (t181 != 0) = false := bne_eq_false_iff_eq.mpr c4
    clear c4
    replace H := Option.bind_eq_some_iff.mp H
    obtain ⟨t182, A50, H⟩ := H
    replace H : (some (t182, 0)) = some (r1, r2) := H
    have A5 := Aside0.mk A50
    clear A50
    simp only [Option.some.injEq, Prod.mk.injEq] at H
    obtain ⟨rfl, rfl⟩ := H
    go_enter Tryd.func24, Tryd.ntmps24
    go_wp2_with (first | ((with_reducible refine gate_dst (N := 9) rfl ?_); refine Kd.N_lit (Kd.slice 29 k29) _ 22 ?hg (N' := 9) ?hd (xs := ([l0, l1] : List (List (S29)))) (inner := [.slice A0 l0.length c0, .slice A1 l1.length c1]) (ok := (fun k_ => ((P0_ k_ ∨ P1_ k_) ∨ w.heap.size ≤ k_))) (okp := (fun k_ => ((P0_ k_ ∨ P1_ k_) ∨ w.heap.size ≤ k_))) ?hr ?hp (fun _ hk => hk) ((show ∀ k_, w.heap.size ≤ k_ → (fun k_ => ((P0_ k_ ∨ P1_ k_) ∨ w.heap.size ≤ k_)) k_ from fun k_ hk => (.inr (Nat.le_trans (below_size (by repeat (first | (with_reducible first | exact HB.out | apply below_alloc | apply pw_below_drewN | apply below_drew1) | exact HB.out))) hk))) _ (Nat.le_refl _)) (Below.refl _ _) (Nat.le_refl _) (by simp) ?_; (case hd => rfl); (case hg => rfl); (case hr => first | (go_simp; done) | (go_simp; rfl)); (case hp => exact (Reps.one (show Kd.FK (Kd.slice 29 k29) _ _ l0 [.slice A0 l0.length c0] from (Kd.FK_slice_mk (Kd.V_reads' (Kd.V_mono (ok' := (fun k_ => ((P0_ k_ ∨ P1_ k_) ∨ w.heap.size ≤ k_))) (HO0.out) (fun k_ hk => hk))).2.1 (Kd.V_F (Kd.V_mono (ok' := (fun k_ => ((P0_ k_ ∨ P1_ k_) ∨ w.heap.size ≤ k_))) (HO0.out) (fun k_ hk => hk))))) (Reps.one (show Kd.FK (Kd.slice 29 k29) _ _ l1 [.slice A1 l1.length c1] from (Kd.FK_slice_mk (Kd.V_reads' (Kd.V_mono (ok' := (fun k_ => ((P0_ k_ ∨ P1_ k_) ∨ w.heap.size ≤ k_))) (HO1.out) (fun k_ hk => hk))).2.1 (Kd.V_F (Kd.V_mono (ok' := (fun k_ => ((P0_ k_ ∨ P1_ k_) ∨ w.heap.size ≤ k_))) (HO1.out) (fun k_ hk => hk))))) (Reps.none _ _)))); intro v179 w6 ho7 hb hg_ hnew_; clear hg_ hnew_; (first | rw [← Ny178.out] at ho7 | (simp only [Int.reduceToNat] at ho7; rw [← Ny178.out] at ho7)); have n0_ := Aside0.mk (Kd.V_elder' (by (with_reducible repeat (first | apply Kd.V_alloc | apply Kd.V_drewN | apply Kd.V_drew)); exact HO0.out) (Kd.N_base ho7) hb); have n1_ := Aside0.mk (Kd.V_elder' (by (with_reducible repeat (first | apply Kd.V_alloc | apply Kd.V_drewN | apply Kd.V_drew)); exact HO1.out) (Kd.N_base ho7) hb); have n2_ := Aside0.mk (Kd.N_lower ho7 (below_size (by repeat (first | (with_reducible first | exact HB.out | apply below_alloc | apply pw_below_drewN | apply below_drew1) | exact HB.out)))); have n3_ := Aside0.mk (below_step (by repeat (first | (with_reducible first | exact HB.out | apply below_alloc | apply pw_below_drewN | apply below_drew1) | exact HB.out)) hb); clear HO0; clear HO1; clear HB; have HO0 := n0_; have HO1 := n1_; have HO180 := n2_; have HB := n3_; clear n0_ n1_ n2_ n3_; clear hb ho7; obtain ⟨Ao8, co8, eo8⟩ := Kd.N_slice HO180.out; subst eo8) | ((with_reducible refine gate_callee (f := 40) rfl ?_); refine goesL_ (some 10) rfl rfl Tryd.func40 (by kernel_rfl) rfl #[.slice Ao8 y178.length co8] rfl (by (try simp only [List.map_toArray, List.map_cons, List.map_nil]); first | done | rfl | (simp only [List.length_drop, List.length_take]; rfl)) ?_; (with_reducible refine (sets_check.calls k _ _ y178 t181 _ ?side1 ?side2 ?side3 A3.out).mono ?_); (case side1 => repeat (first | exact (Kd.N_reads' HO180.out).2.2 | (with_reducible refine Kd.C_alloc ?_ _) | (with_reducible refine Kd.C_drewN ?_ _) | (with_reducible refine Kd.C_drew ?_))); (case side2 => exact (Kd.N_reads' HO180.out).2.1); (case side3 => first | exact hG | exact Glob.of_below hG (by repeat (first | (with_reducible first | exact HB.out | apply below_alloc | apply pw_below_drewN | apply below_drew1) | exact HB.out)) | exact Glob.of_below hG HB.out | exact Glob.drewN hG _ | exact Glob.drew hG | (with_reducible repeat (first | exact hG | apply Glob.drewN | apply Glob.drew | apply Glob.alloc))); rintro e w9 ⟨rfl, hb⟩; refine ⟨_, rfl, ?_⟩; have n0_ := Aside0.mk (Kd.V_below (by (with_reducible repeat (first | apply Kd.V_alloc | apply Kd.V_drewN | apply Kd.V_drew)); exact HO0.out) hb); have n1_ := Aside0.mk (Kd.V_below (by (with_reducible repeat (first | apply Kd.V_alloc | apply Kd.V_drewN | apply Kd.V_drew)); exact HO1.out) hb); have n2_ := Aside0.mk (Kd.N_below (by (with_reducible repeat (first | apply Kd.N_alloc | apply Kd.N_drewN | apply Kd.N_drew)); exact HO180.out) hb); have n3_ := Aside0.mk (below_step (by repeat (first | (with_reducible first | exact HB.out | apply below_alloc | apply pw_below_drewN | apply below_drew1) | exact HB.out)) hb); clear HO0; clear HO1; clear HO180; clear HB; have HO0 := n0_; have HO1 := n1_; have HO180 := n2_; have HB := n3_; clear n0_ n1_ n2_ n3_; (try clear hb); (try clear hb2); (try clear hk); (try clear hi)) | ((with_reducible refine gate_callee (f := 42) rfl ?_); refine goesL_ (some 16) rfl rfl Tryd.func42 (by kernel_rfl) rfl #[.slice A0 l0.length c0, .slice A1 l1.length c1] rfl (by (try simp only [List.map_toArray, List.map_cons, List.map_nil]); first | done | rfl | (simp only [List.length_drop, List.length_take]; rfl)) ?_; (with_reducible refine (sets_without.calls k _ _ l0 _ _ l1 t182 _ ?side1 ?side2 ?side3 ?side4 A5.out).mono ?_); (case side1 => repeat (first | exact (Kd.V_reads' HO0.out).2.2 | (with_reducible refine Kd.C_alloc ?_ _) | (with_reducible refine Kd.C_drewN ?_ _) | (with_reducible refine Kd.C_drew ?_))); (case side2 => exact (Kd.V_reads' HO0.out).2.1); (case side3 => repeat (first | exact (Kd.V_reads' HO1.out).2.2 | (with_reducible refine Kd.C_alloc ?_ _) | (with_reducible refine Kd.C_drewN ?_ _) | (with_reducible refine Kd.C_drew ?_))); (case side4 => exact (Kd.V_reads' HO1.out).2.1); rintro e w10 ⟨v183, rfl, ho0, hb⟩; refine ⟨_, rfl, ?_⟩; have n0_ := Aside0.mk (Kd.V_elder' (by (with_reducible repeat (first | apply Kd.V_alloc | apply Kd.V_drewN | apply Kd.V_drew)); exact HO0.out) (Kd.R_base ho0) hb); have n1_ := Aside0.mk (Kd.V_elder' (by (with_reducible repeat (first | apply Kd.V_alloc | apply Kd.V_drewN | apply Kd.V_drew)); exact HO1.out) (Kd.R_base ho0) hb); have n2_ := Aside0.mk (Kd.N_elder' (by (with_reducible repeat (first | apply Kd.N_alloc | apply Kd.N_drewN | apply Kd.N_drew)); exact HO180.out) (Kd.R_base ho0) hb); have n3_ := Aside0.mk (Kd.R_lower (Kd.R_newM (M := fun k_ => (w.heap.size ≤ k_)) ho0 (below_size (by repeat (first | (with_reducible first | exact HB.out | apply below_alloc | apply pw_below_drewN | apply below_drew1) | exact HB.out))) (fun k_ h_ => h_)) (below_size (by repeat (first | (with_reducible first | exact HB.out | apply below_alloc | apply pw_below_drewN | apply below_drew1) | exact HB.out)))); have n4_ := Aside0.mk (below_step (by repeat (first | (with_reducible first | exact HB.out | apply below_alloc | apply pw_below_drewN | apply below_drew1) | exact HB.out)) hb); clear HO0; clear HO1; clear HO180; clear HB; have HO0 := n0_; have HO1 := n1_; have HO180 := n2_; have HO184 := n3_; have HB := n4_; clear n0_ n1_ n2_ n3_ n4_; (try clear hb); (try clear hb2); (try clear hk); (try clear hi); (try clear ho0)))
    go_ret2
    exact ⟨_, by first | rfl | (simp [errW_none, errW_some] <;> rfl) | (simp [*, errW_none, errW_some] <;> rfl), by (with_reducible repeat (first | apply Kd.R_alloc | apply Kd.R_drewN | apply Kd.R_drew)); exact Kd.R_mono HO184.out (fun _ hk => hk.1), by repeat (first | (with_reducible first | exact HB.out | apply below_alloc | apply pw_below_drewN | apply below_drew1) | exact HB.out)⟩
  · rw [if_neg c4] at H
    have c4b0 : (t181 == 0) = false := beq_eq_false_iff_ne.mpr c4
    have c4b1 : (t181 != 0) = true := bne_iff_ne.mpr c4
    simp only [Option.some.injEq, Prod.mk.injEq] at H
    obtain ⟨rfl, rfl⟩ := H
    go_enter Tryd.func24, Tryd.ntmps24
    go_wp2_with (first | ((with_reducible refine gate_dst (N := 9) rfl ?_); refine Kd.N_lit (Kd.slice 29 k29) _ 22 ?hg (N' := 9) ?hd (xs := ([l0, l1] : List (List (S29)))) (inner := [.slice A0 l0.length c0, .slice A1 l1.length c1]) (ok := (fun k_ => ((P0_ k_ ∨ P1_ k_) ∨ w.heap.size ≤ k_))) (okp := (fun k_ => ((P0_ k_ ∨ P1_ k_) ∨ w.heap.size ≤ k_))) ?hr ?hp (fun _ hk => hk) ((show ∀ k_, w.heap.size ≤ k_ → (fun k_ => ((P0_ k_ ∨ P1_ k_) ∨ w.heap.size ≤ k_)) k_ from fun k_ hk => (.inr (Nat.le_trans (below_size (by repeat (first | (with_reducible first | exact HB.out | apply below_alloc | apply pw_below_drewN | apply below_drew1) | exact HB.out))) hk))) _ (Nat.le_refl _)) (Below.refl _ _) (Nat.le_refl _) (by simp) ?_; (case hd => rfl); (case hg => rfl); (case hr => first | (go_simp; done) | (go_simp; rfl)); (case hp => exact (Reps.one (show Kd.FK (Kd.slice 29 k29) _ _ l0 [.slice A0 l0.length c0] from (Kd.FK_slice_mk (Kd.V_reads' (Kd.V_mono (ok' := (fun k_ => ((P0_ k_ ∨ P1_ k_) ∨ w.heap.size ≤ k_))) (HO0.out) (fun k_ hk => hk))).2.1 (Kd.V_F (Kd.V_mono (ok' := (fun k_ => ((P0_ k_ ∨ P1_ k_) ∨ w.heap.size ≤ k_))) (HO0.out) (fun k_ hk => hk))))) (Reps.one (show Kd.FK (Kd.slice 29 k29) _ _ l1 [.slice A1 l1.length c1] from (Kd.FK_slice_mk (Kd.V_reads' (Kd.V_mono (ok' := (fun k_ => ((P0_ k_ ∨ P1_ k_) ∨ w.heap.size ≤ k_))) (HO1.out) (fun k_ hk => hk))).2.1 (Kd.V_F (Kd.V_mono (ok' := (fun k_ => ((P0_ k_ ∨ P1_ k_) ∨ w.heap.size ≤ k_))) (HO1.out) (fun k_ hk => hk))))) (Reps.none _ _)))); intro v179 w11 ho12 hb hg_ hnew_; clear hg_ hnew_; (first | rw [← Ny178.out] at ho12 | (simp only [Int.reduceToNat] at ho12; rw [← Ny178.out] at ho12)); have n0_ := Aside0.mk (Kd.V_elder' (by (with_reducible repeat (first | apply Kd.V_alloc | apply Kd.V_drewN | apply Kd.V_drew)); exact HO0.out) (Kd.N_base ho12) hb); have n1_ := Aside0.mk (Kd.V_elder' (by (with_reducible repeat (first | apply Kd.V_alloc | apply Kd.V_drewN | apply Kd.V_drew)); exact HO1.out) (Kd.N_base ho12) hb); have n2_ := Aside0.mk (Kd.N_lower ho12 (below_size (by repeat (first | (with_reducible first | exact HB.out | apply below_alloc | apply pw_below_drewN | apply below_drew1) | exact HB.out)))); have n3_ := Aside0.mk (below_step (by repeat (first | (with_reducible first | exact HB.out | apply below_alloc | apply pw_below_drewN | apply below_drew1) | exact HB.out)) hb); clear HO0; clear HO1; clear HB; have HO0 := n0_; have HO1 := n1_; have HO180 := n2_; have HB := n3_; clear n0_ n1_ n2_ n3_; clear hb ho12; obtain ⟨Ao13, co13, eo13⟩ := Kd.N_slice HO180.out; subst eo13) | ((with_reducible refine gate_callee (f := 40) rfl ?_); refine goesL_ (some 10) rfl rfl Tryd.func40 (by kernel_rfl) rfl #[.slice Ao13 y178.length co13] rfl (by (try simp only [List.map_toArray, List.map_cons, List.map_nil]); first | done | rfl | (simp only [List.length_drop, List.length_take]; rfl)) ?_; (with_reducible refine (sets_check.calls k _ _ y178 t181 _ ?side1 ?side2 ?side3 A3.out).mono ?_); (case side1 => repeat (first | exact (Kd.N_reads' HO180.out).2.2 | (with_reducible refine Kd.C_alloc ?_ _) | (with_reducible refine Kd.C_drewN ?_ _) | (with_reducible refine Kd.C_drew ?_))); (case side2 => exact (Kd.N_reads' HO180.out).2.1); (case side3 => first | exact hG | exact Glob.of_below hG (by repeat (first | (with_reducible first | exact HB.out | apply below_alloc | apply pw_below_drewN | apply below_drew1) | exact HB.out)) | exact Glob.of_below hG HB.out | exact Glob.drewN hG _ | exact Glob.drew hG | (with_reducible repeat (first | exact hG | apply Glob.drewN | apply Glob.drew | apply Glob.alloc))); rintro e w14 ⟨rfl, hb⟩; refine ⟨_, rfl, ?_⟩; have n0_ := Aside0.mk (Kd.V_below (by (with_reducible repeat (first | apply Kd.V_alloc | apply Kd.V_drewN | apply Kd.V_drew)); exact HO0.out) hb); have n1_ := Aside0.mk (Kd.V_below (by (with_reducible repeat (first | apply Kd.V_alloc | apply Kd.V_drewN | apply Kd.V_drew)); exact HO1.out) hb); have n2_ := Aside0.mk (Kd.N_below (by (with_reducible repeat (first | apply Kd.N_alloc | apply Kd.N_drewN | apply Kd.N_drew)); exact HO180.out) hb); have n3_ := Aside0.mk (below_step (by repeat (first | (with_reducible first | exact HB.out | apply below_alloc | apply pw_below_drewN | apply below_drew1) | exact HB.out)) hb); clear HO0; clear HO1; clear HO180; clear HB; have HO0 := n0_; have HO1 := n1_; have HO180 := n2_; have HB := n3_; clear n0_ n1_ n2_ n3_; (try clear hb); (try clear hb2); (try clear hk); (try clear hi)))
    go_ret2
    exact ⟨_, by first | rfl | (simp [errW_none, errW_some] <;> rfl) | (simp [*, errW_none, errW_some] <;> rfl), by first | exact Kd.R_nil _ _ _ _ _ | exact Kd.N_nil _ _ _ _ _ | exact Kd.V_nil _ _ _ _ _ | exact Kd.Q_nil _ _ _ _ _ | exact Kd.S_nil _ _ _ _ _, by repeat (first | (with_reducible first | exact HB.out | apply below_alloc | apply pw_below_drewN | apply below_drew1) | exact HB.out)⟩

/-! ### sets_Not: function 25 -/
def bandsL : List S29 := [⟨0, 55295⟩, ⟨57344, 1114111⟩, ⟨1114240, 1114367⟩]
def sets_Not.f (k : Nat) (l0 : List S29) : Option (List S29 × Int) := (sets_Check.f k l0).bind fun t => if t = 0 then (sets_without.f k bandsL l0).bind fun x => some (x, 0) else some ([], t)
theorem sets_Not.mono : ∀ a0 k, LeO (sets_Not.f k a0) (sets_Not.f (k + 1) a0) := by
  intro a0 k
  unfold sets_Not.f
  repeat' first
      | exact sets_without.mono _ _ _
      | exact sets_Check.mono _ _
      | exact LeO.refl _
      | refine LeO.ite ?_ ?_
      | refine LeO.bind ?_ (fun _ => ?_)
theorem sets_Not.bands {w : World} (hG : Glob w) : Kd.C k29 w (some ⟨0, 0, none⟩) bandsL.length bandsL := by
  refine ⟨rfl, by decide, fun _ => ⟨_, rfl, fun j p hp => ?_⟩⟩
  match j, hp with
  | 0, hp => obtain rfl := Option.some.inj hp; exact ⟨[.int .i32 0, .int .i32 55295], rfl, k29_mk w ⟨0, 55295⟩, fun i u hu => by
      match i, hu with
      | 0, hu => obtain rfl := Option.some.inj hu; exact hG 0 (by omega)
      | 1, hu => obtain rfl := Option.some.inj hu; exact hG 1 (by omega)⟩
  | 1, hp => obtain rfl := Option.some.inj hp; exact ⟨[.int .i32 57344, .int .i32 1114111], rfl, k29_mk w ⟨57344, 1114111⟩, fun i u hu => by
      match i, hu with
      | 0, hu => obtain rfl := Option.some.inj hu; exact hG 2 (by omega)
      | 1, hu => obtain rfl := Option.some.inj hu; exact hG 3 (by omega)⟩
  | 2, hp => obtain rfl := Option.some.inj hp; exact ⟨[.int .i32 1114240, .int .i32 1114367], rfl, k29_mk w ⟨1114240, 1114367⟩, fun i u hu => by
      match i, hu with
      | 0, hu => obtain rfl := Option.some.inj hu; exact hG 4 (by omega)
      | 1, hu => obtain rfl := Option.some.inj hu; exact hG 5 (by omega)⟩
theorem sets_Not.wo (k : Nat) (A1 : Option Addr) (c1 : Nat) (l1 x : List S29) (w : World) (hG : Glob w) (hr1 : Kd.C k29 w A1 l1.length l1) (hc1 : l1.length ≤ c1) (h : sets_without.f k bandsL l1 = some x) :
    Calls Tryd.prog 42 #[.slice (some ⟨0, 0, none⟩) 3 3, .slice A1 l1.length c1] w fun e w' => ∃ v0_ : Value, e = .returned v0_ ∧ Kd.R k29 29 w' w.heap.size (fun _ => True) v0_ x ∧ Below w.heap.size w w' :=
  sets_without.calls k (some ⟨0, 0, none⟩) 3 bandsL A1 c1 l1 x w (sets_Not.bands hG) (by decide) hr1 hc1 h
set_option maxHeartbeats 4000000 in
set_option maxRecDepth 100000 in
theorem sets_Not.calls (k : Nat) (A0 : Option Addr) (c0 : Nat) (l0 : List S29) (r1 : List S29) (r2 : Int) (w : World) (hr0 : Kd.C k29 w A0 l0.length l0) (hc0 : l0.length ≤ c0) (hG : Glob w) (h : sets_Not.f k l0 = some (r1, r2)) :
    Calls Tryd.prog 25 #[.slice A0 l0.length c0] w fun e w' => ∃ v0_ : Value, e = .returned (.tuple #[v0_, .int .i64 r2]) ∧ Kd.R k29 29 w' w.heap.size (fun _ => True) v0_ r1 ∧ Below w.heap.size w w' := by
  unfold sets_Not.f at h
  obtain ⟨t, ht, h⟩ := Option.bind_eq_some_iff.1 h
  have HR0 := Aside0.mk hr0
  have HG := Aside0.mk hG
  have HT := Aside0.mk ht
  clear hr0 hG ht
  by_cases h0 : t = 0
  · subst h0
    rw [if_pos rfl] at h
    obtain ⟨x, hx, h⟩ := Option.bind_eq_some_iff.1 h
    simp only [Option.some.injEq, Prod.mk.injEq] at h
    obtain ⟨rfl, rfl⟩ := h
    have HX := Aside0.mk hx
    clear hx
    go_enter Tryd.func25, Tryd.ntmps25
    go_wp2_with (first
      | (go_at_call 10; (with_reducible refine (sets_Check.calls k _ _ l0 0 _ HR0.out hc0 HG.out HT.out).mono ?_); rintro e w1 ⟨rfl, hb1⟩; have HB1 := Aside0.mk hb1; clear hb1)
      | (go_at_call 42; (with_reducible refine (sets_Not.wo k _ _ l0 x _ (HG.out.of_below HB1.out) (Kd.C_below HR0.out HB1.out) hc0 HX.out).mono ?_); rintro e w2 ⟨v2, rfl, hR2, hb2⟩; have HO2 := Aside0.mk (Kd.R_lower hR2 HB1.out.size); have HB2 := Aside0.mk (below_step HB1.out hb2); clear hR2 hb2))
    go_ret2
    exact ⟨_, rfl, HO2.out, HB2.out⟩
  · rw [if_neg h0] at h
    simp only [Option.some.injEq, Prod.mk.injEq] at h
    obtain ⟨rfl, rfl⟩ := h
    have hne : (t != 0) = true := by simpa using h0
    clear h0
    go_enter Tryd.func25, Tryd.ntmps25
    go_wp2_with (go_at_call 10; (with_reducible refine (sets_Check.calls k _ _ l0 t _ HR0.out hc0 HG.out HT.out).mono ?_); rintro e w1 ⟨rfl, hb1⟩; have HB1 := Aside0.mk hb1; clear hb1)
    go_ret2
    exact ⟨_, rfl, Kd.R_nil _ _ _ _ _, HB1.out⟩

/-! ### sets_NotRunes: function 26 -/
def bandsR : List S29 := [⟨0, 55295⟩, ⟨57344, 1114111⟩]
def sets_NotRunes.f (k : Nat) (l0 : List S29) : Option (List S29 × Int) := (sets_Check.f k l0).bind fun t => if t = 0 then (sets_without.f k bandsR l0).bind fun x => some (x, 0) else some ([], t)
theorem sets_NotRunes.mono : ∀ a0 k, LeO (sets_NotRunes.f k a0) (sets_NotRunes.f (k + 1) a0) := by
  intro a0 k
  unfold sets_NotRunes.f
  repeat' first
      | exact sets_without.mono _ _ _
      | exact sets_Check.mono _ _
      | exact LeO.refl _
      | refine LeO.ite ?_ ?_
      | refine LeO.bind ?_ (fun _ => ?_)
theorem sets_NotRunes.bands {w : World} (hG : Glob w) : Kd.C k29 w (some ⟨0, 0, none⟩) bandsR.length bandsR := by
  refine ⟨rfl, by decide, fun _ => ⟨_, rfl, fun j p hp => ?_⟩⟩
  match j, hp with
  | 0, hp => obtain rfl := Option.some.inj hp; exact ⟨[.int .i32 0, .int .i32 55295], rfl, k29_mk w ⟨0, 55295⟩, fun i u hu => by
      match i, hu with
      | 0, hu => obtain rfl := Option.some.inj hu; exact hG 0 (by omega)
      | 1, hu => obtain rfl := Option.some.inj hu; exact hG 1 (by omega)⟩
  | 1, hp => obtain rfl := Option.some.inj hp; exact ⟨[.int .i32 57344, .int .i32 1114111], rfl, k29_mk w ⟨57344, 1114111⟩, fun i u hu => by
      match i, hu with
      | 0, hu => obtain rfl := Option.some.inj hu; exact hG 2 (by omega)
      | 1, hu => obtain rfl := Option.some.inj hu; exact hG 3 (by omega)⟩
theorem sets_NotRunes.wo (k : Nat) (A1 : Option Addr) (c1 : Nat) (l1 x : List S29) (w : World) (hG : Glob w) (hr1 : Kd.C k29 w A1 l1.length l1) (hc1 : l1.length ≤ c1) (h : sets_without.f k bandsR l1 = some x) :
    Calls Tryd.prog 42 #[.slice (some ⟨0, 0, none⟩) 2 3, .slice A1 l1.length c1] w fun e w' => ∃ v0_ : Value, e = .returned v0_ ∧ Kd.R k29 29 w' w.heap.size (fun _ => True) v0_ x ∧ Below w.heap.size w w' :=
  sets_without.calls k (some ⟨0, 0, none⟩) 3 bandsR A1 c1 l1 x w (sets_NotRunes.bands hG) (by decide) hr1 hc1 h
set_option maxHeartbeats 4000000 in
set_option maxRecDepth 100000 in
theorem sets_NotRunes.calls (k : Nat) (A0 : Option Addr) (c0 : Nat) (l0 : List S29) (r1 : List S29) (r2 : Int) (w : World) (hr0 : Kd.C k29 w A0 l0.length l0) (hc0 : l0.length ≤ c0) (hG : Glob w) (h : sets_NotRunes.f k l0 = some (r1, r2)) :
    Calls Tryd.prog 26 #[.slice A0 l0.length c0] w fun e w' => ∃ v0_ : Value, e = .returned (.tuple #[v0_, .int .i64 r2]) ∧ Kd.R k29 29 w' w.heap.size (fun _ => True) v0_ r1 ∧ Below w.heap.size w w' := by
  unfold sets_NotRunes.f at h
  obtain ⟨t, ht, h⟩ := Option.bind_eq_some_iff.1 h
  have HR0 := Aside0.mk hr0
  have HG := Aside0.mk hG
  have HT := Aside0.mk ht
  clear hr0 hG ht
  by_cases h0 : t = 0
  · subst h0
    rw [if_pos rfl] at h
    obtain ⟨x, hx, h⟩ := Option.bind_eq_some_iff.1 h
    simp only [Option.some.injEq, Prod.mk.injEq] at h
    obtain ⟨rfl, rfl⟩ := h
    have HX := Aside0.mk hx
    clear hx
    go_enter Tryd.func26, Tryd.ntmps26
    go_wp2_with (first
      | (go_at_call 10; (with_reducible refine (sets_Check.calls k _ _ l0 0 _ HR0.out hc0 HG.out HT.out).mono ?_); rintro e w1 ⟨rfl, hb1⟩; have HB1 := Aside0.mk hb1; clear hb1)
      | (go_at_call 42; (with_reducible refine (sets_NotRunes.wo k _ _ l0 x _ (HG.out.of_below HB1.out) (Kd.C_below HR0.out HB1.out) hc0 HX.out).mono ?_); rintro e w2 ⟨v2, rfl, hR2, hb2⟩; have HO2 := Aside0.mk (Kd.R_lower hR2 HB1.out.size); have HB2 := Aside0.mk (below_step HB1.out hb2); clear hR2 hb2))
    go_ret2
    exact ⟨_, rfl, HO2.out, HB2.out⟩
  · rw [if_neg h0] at h
    simp only [Option.some.injEq, Prod.mk.injEq] at h
    obtain ⟨rfl, rfl⟩ := h
    have hne : (t != 0) = true := by simpa using h0
    clear h0
    go_enter Tryd.func26, Tryd.ntmps26
    go_wp2_with (go_at_call 10; (with_reducible refine (sets_Check.calls k _ _ l0 t _ HR0.out hc0 HG.out HT.out).mono ?_); rintro e w1 ⟨rfl, hb1⟩; have HB1 := Aside0.mk hb1; clear hb1)
    go_ret2
    exact ⟨_, rfl, Kd.R_nil _ _ _ _ _, HB1.out⟩

end Go.Proofs.YtoggmegpodmfnaaDoor.PY
