/- Contracts of functions that the law reaches: what each call answers, as a plain function of what it reads; on condition that the function answers there. Printed by this session's own tool. -/
import Derived.Test.YtoggmegpodmfnaaGreatDoorPSx01
import Derived.Test.YtoggmegpodmfnaaGreatDoorPSx2
import Derived.Test.YtoggmegpodmfnaaGreatDoorPSx4
import Derived.Test.YtoggmegpodmfnaaGreatDoorPSx5
import Derived.Test.YtoggmegpodmfnaaGreatDoorBSq
namespace Go.Proofs.YtoggmegpodmfnaaGreatDoor.PS
open Go.RowKit Go.Proofs.YtoggmegpodmfnaaGreatDoor.B Go.Proofs.YtoggmegpodmfnaaGreatDoorW.PrintWords Go.Proofs.YtoggmegpodmfnaaGreatDoorW.PrintLast Go.Proofs.YtoggmegpodmfnaaGreatDoorW.PrintMore
attribute [local go_sem] max2_int min2_int max_two min_two max_three min_three max_four min_four   -- for this text's walks alone
set_option linter.unusedVariables false
set_option linter.unusedSimpArgs false
theorem growNil (n : Nat) (hn : n ≤ 4294967296) (w : World) : Calls Tryz.prog 81 #[.slice none 0 0, .int .i64 (n : Int)] w fun e w' => ∃ v : Value, e = .returned v ∧ Kd.R k41 41 w' w.heap.size (fun _ => True) v [] ∧ Below w.heap.size w w' := by
  by_cases h0 : n = 0
  · subst h0; refine (show Calls Tryz.prog 81 _ w _ from Any8.slices_Grow_room Tryz.growR none 0 0 0 w (by omega) (by omega) (by omega) (by omega)).mono ?_; rintro e w' ⟨rfl, rfl⟩; exact ⟨_, rfl, Kd.R_nil _ _ _ _ _, Below.refl _ _⟩
  · obtain ⟨i0, hi, hzz⟩ := Option.map_eq_some_iff.1 info41
    simp only [Prod.mk.injEq] at hzz; obtain ⟨hz0, hz1, hz2⟩ := hzz; have hcap := grownCap_ge w (0 + n) 0 (Tryz.growR_ren.t 25); have hcm := grownCap_le_maxLen w (0 + n) 0 (Tryz.growR_ren.t 25) (by unfold maxLen; omega); refine (show Calls Tryz.prog 81 _ w _ from Any8.slices_Grow_grow Tryz.growR i0 _ hi hz0 (by omega) none 0 0 n [] w (by omega) (by omega) (by rw [hz2]; omega) (by omega) (by simp) (fun _ => rfl) (fun _ h => by cases h)).mono ?_; rintro e w' ⟨rfl, rfl⟩; refine ⟨_, rfl, ?_, (Below.refl _ w).drew.alloc (Nat.le_refl _) _⟩; refine ⟨fun _ _ => trivial, [], ⟨by simp, .inr ⟨w.heap.size, _, _, rfl, Nat.le_refl _, heap_alloc_new w.drew _, Nat.zero_le _, hcm, ?_, by simp⟩⟩, Reps.none _ _⟩
    change _ = grownCap w (0 + n) 0 (Tryz.growR_ren.t 25) * 2
    simp only [Array.size_append, size_zeroCells, List.size_toArray, List.length_nil, List.length_cons, Value.cells]
    generalize grownCap w (0 + n) 0 (Tryz.growR_ren.t 25) = c at *
    omega
def api_Range_52.f (l0 : List (List S41)) : Option (List S41) := if l0.flatten.length ≤ 4294967296 then some l0.flatten else none
theorem flat_step {α : Type} (l : List (List α)) (i : Nat) (h : i < l.length) : (l.take (i + 1)).flatten = (l.take i).flatten ++ l[i] := by
  rw [List.take_succ_eq_append_getElem h, List.flatten_append, List.flatten_singleton]
theorem flat_le {α : Type} (l : List (List α)) (i : Nat) : (l.take i).flatten.length ≤ l.flatten.length := by
  have := congrArg (fun x => x.flatten.length) (List.take_append_drop i l); simp only [List.flatten_append, List.length_append] at this; omega
theorem rdL (l : List (List S41)) (i : Nat) (h : i < l.length) : rd_L4 l (i : Int) = l[i] := by
  unfold rd_L4; rw [Int.toNat_natCast, List.getD_eq_getElem?_getD, List.getElem?_eq_getElem h]; rfl
set_option maxHeartbeats 4000000 in
set_option maxRecDepth 100000 in
theorem api_Range_52.calls (A0 : Option Addr) (c0 : Nat) (l0 : List (List S41)) (r : List S41) (w : World) (hr0 : Kd.C (Kd.slice 41 k41) w A0 l0.length l0) (hc0 : l0.length ≤ c0) (h : api_Range_52.f l0 = some r) :
    Calls Tryz.prog 52 #[.slice A0 l0.length c0] w fun e w' => ∃ v0_ : Value, e = .returned v0_ ∧ Kd.R k41 41 w' w.heap.size (fun _ => True) v0_ r ∧ Below w.heap.size w w' := by
  unfold api_Range_52.f at h
  by_cases hs : l0.flatten.length ≤ 4294967296
  case neg => rw [if_neg hs] at h; exact absurd h (by simp)
  rw [if_pos hs] at h; obtain rfl := Option.some.inj h; clear h; have hmx := Kd.C_max hr0; have HR0 := Aside0.mk hr0; have HS := Aside0.mk hs; have HMX := Aside0.mk hmx; clear hr0 hs hmx; go_enter Tryz.func52, Tryz.ntmps52
  go_wp2
  go_loop [3, 11] (fun vs vi => ∃ (i n : Nat), vs = .int .i64 (n : Int) ∧ vi = .int .i64 (i : Int) ∧ i ≤ l0.length ∧ Aside0 (n = (l0.take i).flatten.length)) (fun _ vi => l0.length - (intOf vi).toNat)
  case atStart => exact ⟨0, 0, rfl, rfl, by omega, ⟨by simp⟩⟩
  case round =>
    obtain ⟨i, n, rfl, rfl, hi, HN⟩ := hrel
    by_cases hlt : i < l0.length
    · have hd1 : decide (i < l0.length) = true := decide_eq_true hlt
      obtain ⟨ad, A1, c1, e, hx, hl, hC⟩ := at_L4 HR0.out (i : Int) (by omega) (by omega)
      cases e
      have hfs := congrArg List.length (flat_step l0 i hlt); have hfl := flat_le l0 (i + 1); rw [List.length_append] at hfs; rw [rdL l0 i hlt] at hx; simp only [Int.toNat_natCast] at hx; obtain ⟨m, hm⟩ : ∃ m, m = l0[i].length := ⟨_, rfl⟩; rw [← hm] at hx hfs; have hn := HN.out; have hss := HS.out
      have hb : n + m ≤ 4294967296 := by omega
      have hn2 : n + m = (l0.take (i + 1)).flatten.length := by omega
      have hmx := HMX.out
      have hil : (i : Int) + 1 ≤ 9223372036854775807 := by omega
      have HNM := Aside0.mk hn2; have hp := eq_true (show (0 : Int) ≤ (i : Int) by omega); have hq := eq_true (show (i : Int) < (l0.length : Int) by omega); have hneg : decide (n + m < 0) = false := decide_eq_false (by omega); have hneg2 : decide ((n : Int) + (m : Int) < 0) = false := decide_eq_false (by omega); have HLT := Aside0.mk hlt; clear hl hC hfs hfl hm hn hss hn2 HN hlt hmx
      go_wp2
      go_round
      case rel => exact ⟨i + 1, n + m, by go_num, by go_num, by have := HLT.out; omega, HNM⟩
      case measure => have := HLT.out; simp [intOf]; omega
    · have hd1 : decide (i < l0.length) = false := decide_eq_false hlt
      obtain rfl : i = l0.length := by omega
      have hn := HN.out; rw [List.take_of_length_le (Nat.le_refl _)] at hn
      have hnb : n ≤ 4294967296 := by have := HS.out; omega
      have HNB := Aside0.mk hnb; have HNF := Aside0.mk hn; clear hn hlt hnb
      go_wp2_with (go_at_call 81; (with_reducible refine (growNil n HNB.out _).mono ?_); rintro e w1 ⟨v1, rfl, hR1, hb1⟩; have HO1 := Aside0.mk hR1; have HB1 := Aside0.mk hb1; clear hR1 hb1 hd1)
      go_loopw [6, 27] (fun vo vj wr => ∃ (j : Nat), vj = .int .i64 (j : Int) ∧ j ≤ l0.length ∧ Aside0 (Kd.R k41 41 wr w.heap.size (fun _ => True) vo (l0.take j).flatten) ∧ Aside0 (Below w.heap.size w wr)) (fun _ vj _ => l0.length - (intOf vj).toNat)
      case atStart => exact ⟨0, rfl, by omega, HO1, HB1⟩
      case round =>
        obtain ⟨j, rfl, hj, HO, HB⟩ := hrel
        by_cases hlt : j < l0.length
        · have hd1 : decide (j < l0.length) = true := decide_eq_true hlt
          obtain ⟨ad, A1, c1, e, hx, hl, hC⟩ := at_L4 (Kd.C_below HR0.out HB.out) (j : Int) (by omega) (by omega)
          cases e
          rw [rdL l0 j hlt] at hx hl hC; simp only [Int.toNat_natCast] at hx; have hfs := flat_step l0 j hlt; have hfl := flat_le l0 (j + 1)
          have hb8 : ((l0.take j).flatten.length + l0[j].length) * 8 ≤ 140737488355328 := by
            have := congrArg List.length hfs; rw [List.length_append] at this; have := HS.out; omega
          obtain ⟨xs, hxs⟩ : ∃ x, x = l0[j] := ⟨_, rfl⟩; obtain ⟨acc, hacc⟩ : ∃ x, x = (l0.take j).flatten := ⟨_, rfl⟩; rw [← hxs] at hx hl hC hfs hb8; rw [← hacc] at hfs hb8 HO; have HC := Aside0.mk hC; have HFS := Aside0.mk hfs; have HB8 := Aside0.mk hb8; have HLT := Aside0.mk hlt; have hmx := HMX.out
          have hil : (j : Int) + 1 ≤ 9223372036854775807 := by omega
          have hp := eq_true (show (0 : Int) ≤ (j : Int) by omega); have hq := eq_true (show (j : Int) < (l0.length : Int) by omega); clear hC hfs hb8 hfl hxs hacc hlt hmx
          go_wp2_with (at_builtin; refine Kd.R_append_rows k41 (w0 := w) w.heap.size rfl (.tmp 31) (.tmp 32) 24 41 (.agg #[(.int .i32 0), (.int .i32 0)]) 8 rfl Tryz.underlying24 info41 rfl (by decide) (by omega) _ acc xs _ _ _ (fun _ => True) (fun _ => False) rfl rfl HO.out HC.out (fun x cs hcs => by rw [k41_open hcs]; exact k41_mkM _ _ _ x) (fun _ hk => hk.elim) (fun _ _ => trivial) HB.out (below_size HB.out) HB8.out ?_; intro v2 w2 ho hb hg hat; have HO2 := Aside0.mk ho; have HB2 := Aside0.mk hb; clear ho hb hg hat)
          go_roundw
          case rel => exact ⟨j + 1, by go_num, by have := HLT.out; omega, ⟨by rw [HFS.out]; exact HO2.out⟩, HB2⟩
          case measure => have := HLT.out; simp [intOf]; omega
        · have hd1 : decide (j < l0.length) = false := decide_eq_false hlt
          obtain rfl : j = l0.length := by omega
          have ho := HO.out; rw [List.take_of_length_le (Nat.le_refl _)] at ho; have HO3 := Aside0.mk ho; clear ho hlt
          go_wp2
          go_ret; exact ⟨_, rfl, HO3.out, HB.out⟩
def bandsA : List S41 := [⟨0, 55295⟩, ⟨57344, 1114111⟩, ⟨1114240, 1114367⟩]
def sets_And.f (k : Nat) (l0 l1 : List S41) : Option (List S41 × Int) := (sets_check.f k [l0, l1]).bind fun t => if t = 0 then (sets_without.f k bandsA l1).bind fun x => (sets_without.f k l0 x).bind fun y => some (y, 0) else some ([], t)
theorem sets_And.mono : ∀ a0 a1 k, LeO (sets_And.f k a0 a1) (sets_And.f (k + 1) a0 a1) := by
  intro a0 a1 k; unfold sets_And.f
  repeat' first
      | exact sets_without.mono _ _ _
      | exact sets_check.mono _ _
      | exact LeO.refl _
      | refine LeO.ite ?_ ?_
      | refine LeO.bind ?_ (fun _ => ?_)
theorem sets_And.bands {w : World} (hG : Glob w) : Kd.C k41 w (some ⟨0, 0, none⟩) bandsA.length bandsA := by
  refine ⟨rfl, by decide, fun _ => ⟨_, rfl, fun j p hp => ?_⟩⟩
  match j, hp with
  | 0, hp => obtain rfl := Option.some.inj hp; exact ⟨[.int .i32 0, .int .i32 55295], rfl, k41_mk w ⟨0, 55295⟩, fun i u hu => by
      match i, hu with
      | 0, hu => obtain rfl := Option.some.inj hu; exact hG 0 (by omega)
      | 1, hu => obtain rfl := Option.some.inj hu; exact hG 1 (by omega)⟩
  | 1, hp => obtain rfl := Option.some.inj hp; exact ⟨[.int .i32 57344, .int .i32 1114111], rfl, k41_mk w ⟨57344, 1114111⟩, fun i u hu => by
      match i, hu with
      | 0, hu => obtain rfl := Option.some.inj hu; exact hG 2 (by omega)
      | 1, hu => obtain rfl := Option.some.inj hu; exact hG 3 (by omega)⟩
  | 2, hp => obtain rfl := Option.some.inj hp; exact ⟨[.int .i32 1114240, .int .i32 1114367], rfl, k41_mk w ⟨1114240, 1114367⟩, fun i u hu => by
      match i, hu with
      | 0, hu => obtain rfl := Option.some.inj hu; exact hG 4 (by omega)
      | 1, hu => obtain rfl := Option.some.inj hu; exact hG 5 (by omega)⟩
theorem sets_And.two {w : World} {A0 A1 : Option Addr} {c0 c1 : Nat} {l0 l1 : List S41} (hr0 : Kd.C k41 w A0 l0.length l0) (hc0 : l0.length ≤ c0) (hr1 : Kd.C k41 w A1 l1.length l1) (hc1 : l1.length ≤ c1) :
    Kd.C (Kd.slice 41 k41) (w.alloc (.cells #[.slice A0 l0.length c0, .slice A1 l1.length c1] 24)) (some ⟨w.heap.size, 0, none⟩) ([l0, l1] : List (List S41)).length [l0, l1] := by
  have hb := heap_alloc_new w (.cells #[.slice A0 l0.length c0, .slice A1 l1.length c1] 24); refine ⟨rfl, by simp, fun _ => ⟨_, rfl, fun j p hp => ?_⟩⟩
  match j, hp with
  | 0, hp => obtain rfl := Option.some.inj hp; exact ⟨[.slice A0 l0.length c0], rfl, ⟨A0, c0, rfl, hc0, Kd.C_alloc hr0 _⟩, fun i u hu => by
      match i, hu with
      | 0, hu => obtain rfl := Option.some.inj hu; exact (blk_cell hb 0).trans rfl⟩
  | 1, hp => obtain rfl := Option.some.inj hp; exact ⟨[.slice A1 l1.length c1], rfl, ⟨A1, c1, rfl, hc1, Kd.C_alloc hr1 _⟩, fun i u hu => by
      match i, hu with
      | 0, hu => obtain rfl := Option.some.inj hu; exact (blk_cell hb 1).trans rfl⟩
theorem sets_And.ck (k : Nat) (t : Int) (b : Nat) (l0 l1 : List S41) (w : World) (hC : Kd.C (Kd.slice 41 k41) w (some ⟨b, 0, none⟩) ([l0, l1] : List (List S41)).length [l0, l1]) (hG : Glob w) (h : sets_check.f k [l0, l1] = some t) :
    Calls Tryz.prog 51 #[.slice (some ⟨b, 0, none⟩) 2 2] w fun e w' => e = .returned (.int .i64 t) ∧ Below w.heap.size w w' :=
  sets_check.calls k (some ⟨b, 0, none⟩) 2 [l0, l1] t w hC (Nat.le_refl _) hG h
theorem sets_And.wo (k : Nat) (A1 : Option Addr) (c1 : Nat) (l1 x : List S41) (w : World) (hG : Glob w) (hr1 : Kd.C k41 w A1 l1.length l1) (hc1 : l1.length ≤ c1) (h : sets_without.f k bandsA l1 = some x) :
    Calls Tryz.prog 53 #[.slice (some ⟨0, 0, none⟩) 3 3, .slice A1 l1.length c1] w fun e w' => ∃ v0_ : Value, e = .returned v0_ ∧ Kd.R k41 41 w' w.heap.size (fun _ => True) v0_ x ∧ Below w.heap.size w w' :=
  sets_without.calls k (some ⟨0, 0, none⟩) 3 bandsA A1 c1 l1 x w (sets_And.bands hG) (by decide) hr1 hc1 h
set_option maxHeartbeats 4000000 in
set_option maxRecDepth 100000 in
theorem sets_And.calls (k : Nat) (A0 : Option Addr) (c0 : Nat) (l0 : List S41) (A1 : Option Addr) (c1 : Nat) (l1 : List S41) (r1 : List S41) (r2 : Int) (w : World) (hr0 : Kd.C k41 w A0 l0.length l0) (hc0 : l0.length ≤ c0) (hr1 : Kd.C k41 w A1 l1.length l1) (hc1 : l1.length ≤ c1) (hG : Glob w) (h : sets_And.f k l0 l1 = some (r1, r2)) :
    Calls Tryz.prog 26 #[.slice A0 l0.length c0, .slice A1 l1.length c1] w fun e w' => ∃ v0_ : Value, e = .returned (.tuple #[v0_, .int .i64 r2]) ∧ Kd.R k41 41 w' w.heap.size (fun _ => True) v0_ r1 ∧ Below w.heap.size w w' := by
  unfold sets_And.f at h; obtain ⟨t, ht, h⟩ := Option.bind_eq_some_iff.1 h; have HTW := Aside0.mk (sets_And.two hr0 hc0 hr1 hc1); have HR0 := Aside0.mk hr0; have HR1 := Aside0.mk hr1; have HG := Aside0.mk hG; have HT := Aside0.mk ht; have HB0 := Aside0.mk (below_alloc (Below.refl _ w) (.cells #[.slice A0 l0.length c0, .slice A1 l1.length c1] 24)); clear hr0 hr1 hG ht
  by_cases h0 : t = 0
  · subst h0
    rw [if_pos rfl] at h; obtain ⟨x, hx, h⟩ := Option.bind_eq_some_iff.1 h; obtain ⟨y, hy, h⟩ := Option.bind_eq_some_iff.1 h; simp only [Option.some.injEq, Prod.mk.injEq] at h; obtain ⟨rfl, rfl⟩ := h; have HX := Aside0.mk hx; have HY := Aside0.mk hy; clear hx hy; have tok1 : True := trivial; go_enter Tryz.func26, Tryz.ntmps26
    go_wp2_with (first
      | (go_at_call 51; (with_reducible refine (sets_And.ck k 0 _ l0 l1 _ HTW.out (HG.out.of_below HB0.out) HT.out).mono ?_); rintro e w1 ⟨rfl, hb1⟩; have HB1 := Aside0.mk (below_step HB0.out hb1); clear hb1)
      | (go_at_call 53; clear tok1; (with_reducible refine (sets_And.wo k _ _ l1 x _ (HG.out.of_below HB1.out) (Kd.C_below HR1.out HB1.out) hc1 HX.out).mono ?_); rintro e w2 ⟨v2, rfl, hR2, hb2⟩; obtain ⟨A2, c2, rfl, hc2, hC2⟩ := Kd.R_reads hR2; have HC2 := Aside0.mk hC2; have HB2 := Aside0.mk (below_step HB1.out hb2); clear hR2 hC2 hb2)
      | (go_at_call 53; (with_reducible refine (sets_without.calls k _ _ l0 _ _ x y _ (Kd.C_below HR0.out HB2.out) hc0 HC2.out hc2 HY.out).mono ?_); rintro e w3 ⟨v3, rfl, hR3, hb3⟩; have HO3 := Aside0.mk (Kd.R_lower hR3 HB2.out.size); have HB3 := Aside0.mk (below_step HB2.out hb3); clear hR3 hb3))
    go_ret2; exact ⟨_, rfl, HO3.out, HB3.out⟩
  · rw [if_neg h0] at h
    simp only [Option.some.injEq, Prod.mk.injEq] at h; obtain ⟨rfl, rfl⟩ := h
    have hne : (t != 0) = true := by simpa using h0
    clear h0; go_enter Tryz.func26, Tryz.ntmps26
    go_wp2_with (go_at_call 51; (with_reducible refine (sets_And.ck k t _ l0 l1 _ HTW.out (HG.out.of_below HB0.out) HT.out).mono ?_); rintro e w1 ⟨rfl, hb1⟩; have HB1 := Aside0.mk (below_step HB0.out hb1); clear hb1)
    go_ret2; exact ⟨_, rfl, Kd.R_nil _ _ _ _ _, HB1.out⟩
def bandsL : List S41 := [⟨0, 55295⟩, ⟨57344, 1114111⟩, ⟨1114240, 1114367⟩]
def sets_Not.f (k : Nat) (l0 : List S41) : Option (List S41 × Int) := (sets_Check.f k l0).bind fun t => if t = 0 then (sets_without.f k bandsL l0).bind fun x => some (x, 0) else some ([], t)
theorem sets_Not.mono : ∀ a0 k, LeO (sets_Not.f k a0) (sets_Not.f (k + 1) a0) := by
  intro a0 k; unfold sets_Not.f
  repeat' first
      | exact sets_without.mono _ _ _
      | exact sets_Check.mono _ _
      | exact LeO.refl _
      | refine LeO.ite ?_ ?_
      | refine LeO.bind ?_ (fun _ => ?_)
theorem sets_Not.bands {w : World} (hG : Glob w) : Kd.C k41 w (some ⟨0, 0, none⟩) bandsL.length bandsL := by
  refine ⟨rfl, by decide, fun _ => ⟨_, rfl, fun j p hp => ?_⟩⟩
  match j, hp with
  | 0, hp => obtain rfl := Option.some.inj hp; exact ⟨[.int .i32 0, .int .i32 55295], rfl, k41_mk w ⟨0, 55295⟩, fun i u hu => by
      match i, hu with
      | 0, hu => obtain rfl := Option.some.inj hu; exact hG 0 (by omega)
      | 1, hu => obtain rfl := Option.some.inj hu; exact hG 1 (by omega)⟩
  | 1, hp => obtain rfl := Option.some.inj hp; exact ⟨[.int .i32 57344, .int .i32 1114111], rfl, k41_mk w ⟨57344, 1114111⟩, fun i u hu => by
      match i, hu with
      | 0, hu => obtain rfl := Option.some.inj hu; exact hG 2 (by omega)
      | 1, hu => obtain rfl := Option.some.inj hu; exact hG 3 (by omega)⟩
  | 2, hp => obtain rfl := Option.some.inj hp; exact ⟨[.int .i32 1114240, .int .i32 1114367], rfl, k41_mk w ⟨1114240, 1114367⟩, fun i u hu => by
      match i, hu with
      | 0, hu => obtain rfl := Option.some.inj hu; exact hG 4 (by omega)
      | 1, hu => obtain rfl := Option.some.inj hu; exact hG 5 (by omega)⟩
theorem sets_Not.wo (k : Nat) (A1 : Option Addr) (c1 : Nat) (l1 x : List S41) (w : World) (hG : Glob w) (hr1 : Kd.C k41 w A1 l1.length l1) (hc1 : l1.length ≤ c1) (h : sets_without.f k bandsL l1 = some x) :
    Calls Tryz.prog 53 #[.slice (some ⟨0, 0, none⟩) 3 3, .slice A1 l1.length c1] w fun e w' => ∃ v0_ : Value, e = .returned v0_ ∧ Kd.R k41 41 w' w.heap.size (fun _ => True) v0_ x ∧ Below w.heap.size w w' :=
  sets_without.calls k (some ⟨0, 0, none⟩) 3 bandsL A1 c1 l1 x w (sets_Not.bands hG) (by decide) hr1 hc1 h
set_option maxHeartbeats 4000000 in
set_option maxRecDepth 100000 in
theorem sets_Not.calls (k : Nat) (A0 : Option Addr) (c0 : Nat) (l0 : List S41) (r1 : List S41) (r2 : Int) (w : World) (hr0 : Kd.C k41 w A0 l0.length l0) (hc0 : l0.length ≤ c0) (hG : Glob w) (h : sets_Not.f k l0 = some (r1, r2)) :
    Calls Tryz.prog 28 #[.slice A0 l0.length c0] w fun e w' => ∃ v0_ : Value, e = .returned (.tuple #[v0_, .int .i64 r2]) ∧ Kd.R k41 41 w' w.heap.size (fun _ => True) v0_ r1 ∧ Below w.heap.size w w' := by
  unfold sets_Not.f at h; obtain ⟨t, ht, h⟩ := Option.bind_eq_some_iff.1 h; have HR0 := Aside0.mk hr0; have HG := Aside0.mk hG; have HT := Aside0.mk ht; clear hr0 hG ht
  by_cases h0 : t = 0
  · subst h0
    rw [if_pos rfl] at h; obtain ⟨x, hx, h⟩ := Option.bind_eq_some_iff.1 h; simp only [Option.some.injEq, Prod.mk.injEq] at h; obtain ⟨rfl, rfl⟩ := h; have HX := Aside0.mk hx; clear hx; go_enter Tryz.func28, Tryz.ntmps28
    go_wp2_with (first
      | (go_at_call 24; (with_reducible refine (sets_Check.calls k _ _ l0 0 _ HR0.out hc0 HG.out HT.out).mono ?_); rintro e w1 ⟨rfl, hb1⟩; have HB1 := Aside0.mk hb1; clear hb1)
      | (go_at_call 53; (with_reducible refine (sets_Not.wo k _ _ l0 x _ (HG.out.of_below HB1.out) (Kd.C_below HR0.out HB1.out) hc0 HX.out).mono ?_); rintro e w2 ⟨v2, rfl, hR2, hb2⟩; have HO2 := Aside0.mk (Kd.R_lower hR2 HB1.out.size); have HB2 := Aside0.mk (below_step HB1.out hb2); clear hR2 hb2))
    go_ret2; exact ⟨_, rfl, HO2.out, HB2.out⟩
  · rw [if_neg h0] at h
    simp only [Option.some.injEq, Prod.mk.injEq] at h; obtain ⟨rfl, rfl⟩ := h
    have hne : (t != 0) = true := by simpa using h0
    clear h0; go_enter Tryz.func28, Tryz.ntmps28
    go_wp2_with (go_at_call 24; (with_reducible refine (sets_Check.calls k _ _ l0 t _ HR0.out hc0 HG.out HT.out).mono ?_); rintro e w1 ⟨rfl, hb1⟩; have HB1 := Aside0.mk hb1; clear hb1)
    go_ret2; exact ⟨_, rfl, Kd.R_nil _ _ _ _ _, HB1.out⟩
def bandsR : List S41 := [⟨0, 55295⟩, ⟨57344, 1114111⟩]
def sets_NotRunes.f (k : Nat) (l0 : List S41) : Option (List S41 × Int) := (sets_Check.f k l0).bind fun t => if t = 0 then (sets_without.f k bandsR l0).bind fun x => some (x, 0) else some ([], t)
theorem sets_NotRunes.mono : ∀ a0 k, LeO (sets_NotRunes.f k a0) (sets_NotRunes.f (k + 1) a0) := by
  intro a0 k; unfold sets_NotRunes.f
  repeat' first
      | exact sets_without.mono _ _ _
      | exact sets_Check.mono _ _
      | exact LeO.refl _
      | refine LeO.ite ?_ ?_
      | refine LeO.bind ?_ (fun _ => ?_)
theorem sets_NotRunes.bands {w : World} (hG : Glob w) : Kd.C k41 w (some ⟨0, 0, none⟩) bandsR.length bandsR := by
  refine ⟨rfl, by decide, fun _ => ⟨_, rfl, fun j p hp => ?_⟩⟩
  match j, hp with
  | 0, hp => obtain rfl := Option.some.inj hp; exact ⟨[.int .i32 0, .int .i32 55295], rfl, k41_mk w ⟨0, 55295⟩, fun i u hu => by
      match i, hu with
      | 0, hu => obtain rfl := Option.some.inj hu; exact hG 0 (by omega)
      | 1, hu => obtain rfl := Option.some.inj hu; exact hG 1 (by omega)⟩
  | 1, hp => obtain rfl := Option.some.inj hp; exact ⟨[.int .i32 57344, .int .i32 1114111], rfl, k41_mk w ⟨57344, 1114111⟩, fun i u hu => by
      match i, hu with
      | 0, hu => obtain rfl := Option.some.inj hu; exact hG 2 (by omega)
      | 1, hu => obtain rfl := Option.some.inj hu; exact hG 3 (by omega)⟩
theorem sets_NotRunes.wo (k : Nat) (A1 : Option Addr) (c1 : Nat) (l1 x : List S41) (w : World) (hG : Glob w) (hr1 : Kd.C k41 w A1 l1.length l1) (hc1 : l1.length ≤ c1) (h : sets_without.f k bandsR l1 = some x) :
    Calls Tryz.prog 53 #[.slice (some ⟨0, 0, none⟩) 2 3, .slice A1 l1.length c1] w fun e w' => ∃ v0_ : Value, e = .returned v0_ ∧ Kd.R k41 41 w' w.heap.size (fun _ => True) v0_ x ∧ Below w.heap.size w w' :=
  sets_without.calls k (some ⟨0, 0, none⟩) 3 bandsR A1 c1 l1 x w (sets_NotRunes.bands hG) (by decide) hr1 hc1 h
set_option maxHeartbeats 4000000 in
set_option maxRecDepth 100000 in
theorem sets_NotRunes.calls (k : Nat) (A0 : Option Addr) (c0 : Nat) (l0 : List S41) (r1 : List S41) (r2 : Int) (w : World) (hr0 : Kd.C k41 w A0 l0.length l0) (hc0 : l0.length ≤ c0) (hG : Glob w) (h : sets_NotRunes.f k l0 = some (r1, r2)) :
    Calls Tryz.prog 29 #[.slice A0 l0.length c0] w fun e w' => ∃ v0_ : Value, e = .returned (.tuple #[v0_, .int .i64 r2]) ∧ Kd.R k41 41 w' w.heap.size (fun _ => True) v0_ r1 ∧ Below w.heap.size w w' := by
  unfold sets_NotRunes.f at h; obtain ⟨t, ht, h⟩ := Option.bind_eq_some_iff.1 h; have HR0 := Aside0.mk hr0; have HG := Aside0.mk hG; have HT := Aside0.mk ht; clear hr0 hG ht
  by_cases h0 : t = 0
  · subst h0
    rw [if_pos rfl] at h; obtain ⟨x, hx, h⟩ := Option.bind_eq_some_iff.1 h; simp only [Option.some.injEq, Prod.mk.injEq] at h; obtain ⟨rfl, rfl⟩ := h; have HX := Aside0.mk hx; clear hx; go_enter Tryz.func29, Tryz.ntmps29
    go_wp2_with (first
      | (go_at_call 24; (with_reducible refine (sets_Check.calls k _ _ l0 0 _ HR0.out hc0 HG.out HT.out).mono ?_); rintro e w1 ⟨rfl, hb1⟩; have HB1 := Aside0.mk hb1; clear hb1)
      | (go_at_call 53; (with_reducible refine (sets_NotRunes.wo k _ _ l0 x _ (HG.out.of_below HB1.out) (Kd.C_below HR0.out HB1.out) hc0 HX.out).mono ?_); rintro e w2 ⟨v2, rfl, hR2, hb2⟩; have HO2 := Aside0.mk (Kd.R_lower hR2 HB1.out.size); have HB2 := Aside0.mk (below_step HB1.out hb2); clear hR2 hb2))
    go_ret2; exact ⟨_, rfl, HO2.out, HB2.out⟩
  · rw [if_neg h0] at h
    simp only [Option.some.injEq, Prod.mk.injEq] at h; obtain ⟨rfl, rfl⟩ := h
    have hne : (t != 0) = true := by simpa using h0
    clear h0; go_enter Tryz.func29, Tryz.ntmps29
    go_wp2_with (go_at_call 24; (with_reducible refine (sets_Check.calls k _ _ l0 t _ HR0.out hc0 HG.out HT.out).mono ?_); rintro e w1 ⟨rfl, hb1⟩; have HB1 := Aside0.mk hb1; clear hb1)
    go_ret2; exact ⟨_, rfl, Kd.R_nil _ _ _ _ _, HB1.out⟩
def api_Range_rune.l0 : Nat → List (S41) → Int → Int → Int → Int → Option (Int × Bool)
  | 0, _, _, _, _, _ => none
  | k + 1, x0, x1, x8, x9, x10 => if x9 < x10 then (if 0 ≤ (wrap64 ((IntKind.u64.wrap (wrap64 (x9 + x10))) / 2)) then (if (wrap64 ((IntKind.u64.wrap (wrap64 (x9 + x10))) / 2)) < (x0.length : Int) then ((sets_has_1.f ((rd_T41 x0 (wrap64 ((IntKind.u64.wrap (wrap64 (x9 + x10))) / 2))).f0) ((rd_T41 x0 (wrap64 ((IntKind.u64.wrap (wrap64 (x9 + x10))) / 2))).f1) x1).bind fun t144 => (if t144 < 0 then (api_Range_rune.l0 k x0 x1 x8 (wrap64 ((wrap64 ((IntKind.u64.wrap (wrap64 (x9 + x10))) / 2)) + 1)) x10) else (api_Range_rune.l0 k x0 x1 x8 x9 (wrap64 ((IntKind.u64.wrap (wrap64 (x9 + x10))) / 2))))) else (none)) else (none)) else (if x9 < x8 then (if 0 ≤ x9 then (if x9 < (x0.length : Int) then ((sets_has_1.f ((rd_T41 x0 x9).f0) ((rd_T41 x0 x9).f1) x1).bind fun t146 => (some (x9, (t146 == 0)))) else (none)) else (none)) else (some (x9, false)))
def api_Range_rune.f (k : Nat) (l0 : List (S41)) (a1 : Int) : Option (Int × Bool) := api_Range_rune.l0 k l0 a1 (l0.length : Int) 0 (l0.length : Int)
theorem api_Range_rune.mono_l : ∀ k, (∀ y0 y1 y2 y3 y4, LeO (api_Range_rune.l0 k y0 y1 y2 y3 y4) (api_Range_rune.l0 (k + 1) y0 y1 y2 y3 y4))
  | 0 => fun _ _ _ _ _ r h => by simp [api_Range_rune.l0] at h
  | k + 1 => by
    have ih0 := api_Range_rune.mono_l k
    · intro y0 y1 y2 y3 y4
      unfold api_Range_rune.l0
      repeat' first
      | (with_reducible exact ih0 _ _ _ _ _)
      | (with_reducible exact LeO.refl _)
      | (with_reducible exact LeO.none _)
      | (with_reducible refine LeO.ite ?_ ?_)
      | (with_reducible refine LeO.bind ?_ (fun _ => ?_))
      | exact ih0 _ _ _ _ _
      | exact LeO.none _
      | refine LeO.ite ?_ ?_
      | refine LeO.bind ?_ (fun _ => ?_)
theorem api_Range_rune.mono : ∀ a0 a1 k, LeO (api_Range_rune.f k a0 a1) (api_Range_rune.f (k + 1) a0 a1) := by
  intro a0 a1 k; have ih0 := api_Range_rune.mono_l k; unfold api_Range_rune.f
  repeat' first
      | (with_reducible exact ih0 _ _ _ _ _)
      | (with_reducible exact LeO.refl _)
      | (with_reducible exact LeO.none _)
      | (with_reducible refine LeO.ite ?_ ?_)
      | (with_reducible refine LeO.bind ?_ (fun _ => ?_))
      | exact ih0 _ _ _ _ _
      | exact LeO.none _
      | refine LeO.ite ?_ ?_
      | refine LeO.bind ?_ (fun _ => ?_)
set_option maxHeartbeats 8000000 in
set_option maxRecDepth 100000 in
theorem api_Range_rune.calls (k : Nat) (A0 : Option Addr) (c0 : Nat) (l0 : List (S41)) (a1 : Int) (r1 : Int) (r2 : Bool) (w : World) (hr0 : Kd.C k41 w A0 l0.length l0) (hc0 : l0.length ≤ c0) (h : api_Range_rune.f k l0 a1 = some (r1, r2)) :
    Calls Tryz.prog 82 #[.slice A0 l0.length c0, .int .i32 a1, .func (.func 83) #[] #[]] w fun e w' => e = .returned (.tuple #[.int .i64 r1, .bool r2]) ∧ Below w.heap.size w w' := by
  have hu41 := Tryz.underlying41; have HR0 := Aside0.mk hr0; have HC0 := Aside0.mk hc0; clear hr0 hc0; have HB := Aside0.mk (Below.refl w.heap.size w); have H : (api_Range_rune.l0 k l0 a1 (l0.length : Int) 0 (l0.length : Int)) = some (r1, r2) := h; clear h; have H' := Aside0.mk H; clear H; go_enter Tryz.func82, Tryz.ntmps82
  go_wp2
  go_loopg [9, 10] k (fun kq v9 v10 w' => ∃ (x9_1 : Int) (x10_1 : Int), v9 = .int .i64 x9_1 ∧ v10 = .int .i64 x10_1 ∧ Aside0 (api_Range_rune.l0 kq l0 a1 (l0.length : Int) x9_1 x10_1 = some (r1, r2)) ∧ Aside0 (kq ≤ k) ∧ Aside0 (Below w.heap.size w w'))
  case atStart => exact ⟨(0), ((l0.length : Int)), (by first | rfl | (simp; done) | (simp [*]; done)), (by first | rfl | (simp; done) | (simp [*]; done)), H', ⟨Nat.le_refl _⟩, ⟨by repeat (first | (with_reducible first | exact HB.out | apply below_alloc | apply pw_below_drewN | apply below_drew1) | exact HB.out)⟩⟩
  case round =>
    clear H'
    try clear p2
    obtain ⟨x9_1, x10_1, rfl, rfl, HA, HK1, HB⟩ := hrel
    cases gk with
    | zero => exact absurd HA.out (by simp [api_Range_rune.l0])
    | succ k1 =>
      have H := HA.out; clear HA; simp only [api_Range_rune.l0] at H
      by_cases c3 : x9_1 < x10_1
      · rw [if_pos c3] at H
        have c3b0 : decide (x9_1 < x10_1) = true := decide_eq_true c3; clear c3; obtain ⟨ji4, hji4⟩ : ∃ j_ : Int, (wrap64 ((IntKind.u64.wrap (wrap64 (x9_1 + x10_1))) / 2)) = j_ := ⟨_, rfl⟩
        replace H : (if 0 ≤ (ji4) then (if (ji4) < (l0.length : Int) then ((sets_has_1.f ((rd_T41 l0 (ji4)).f0) ((rd_T41 l0 (ji4)).f1) a1).bind fun t144 => (if t144 < 0 then (api_Range_rune.l0 k1 l0 a1 (l0.length : Int) (wrap64 ((ji4) + 1)) x10_1) else (api_Range_rune.l0 k1 l0 a1 (l0.length : Int) x9_1 ji4))) else (none)) else (none)) = some (r1, r2) := by first | (rw [hji4] at H; exact H) | (simp only [hji4] at H ⊢; exact H)
        have hji4w : (IntKind.i64.wrap ((IntKind.u64.wrap (wrap64 (x9_1 + x10_1))) / 2)) = ji4 := (i64_w _).trans hji4
        by_cases c5 : 0 ≤ (ji4)
        · rw [if_pos c5] at H
          have c5b0 : decide (0 ≤ (ji4)) = true := decide_eq_true c5; clear c5
          by_cases c6 : (ji4) < (l0.length : Int)
          · rw [if_pos c6] at H
            have c6b0 : decide ((ji4) < (l0.length : Int)) = true := decide_eq_true c6; clear c6; replace H := Option.bind_eq_some_iff.mp H; obtain ⟨t144, A70, H⟩ := H; replace H : (if t144 < 0 then (api_Range_rune.l0 k1 l0 a1 (l0.length : Int) (wrap64 ((ji4) + 1)) x10_1) else (api_Range_rune.l0 k1 l0 a1 (l0.length : Int) x9_1 ji4)) = some (r1, r2) := H; have A7 := Aside0.mk A70; clear A70
            by_cases c8 : t144 < 0
            · rw [if_pos c8] at H
              have c8b0 : decide (t144 < 0) = true := decide_eq_true c8; clear c8; have H' := Aside0.mk H; clear H; have p143 : 0 ≤ ((ji4) : Int) := of_decide_eq_true (by first | (with_reducible assumption) | assumption); have q143 : (ji4) < (l0.length : Int) := of_decide_eq_true (by first | (with_reducible assumption) | assumption); obtain ⟨ad143, e143, hx143_0, hx143_1⟩ := at_T41 HR0.out (ji4) p143 q143
              cases e143
              replace hx143_0 := (HB.out.cell (World.block_lt_of_cell? w _ hx143_0)).trans hx143_0; replace hx143_1 := (HB.out.cell (World.block_lt_of_cell? w _ hx143_1)).trans hx143_1; replace p143 := eq_true p143; replace q143 := eq_true q143
              go_wp2_with (first | (go_at_call 83; (with_reducible refine (sets_has_1.calls ((rd_T41 l0 (ji4)).f0) ((rd_T41 l0 (ji4)).f1) a1 t144 _ A7.out).mono ?_); rintro e w9 ⟨rfl, hb⟩; have n0_ := Aside0.mk (below_step (by repeat (first | (with_reducible first | exact HB.out | apply below_alloc | apply pw_below_drewN | apply below_drew1) | exact HB.out)) hb); clear HB; have HB := n0_; clear n0_; (try clear hb); (try clear hb2); (try clear hk); (try clear hi)))
              go_roundg k1
              case measure => have := HK1.out; omega
              case rel => exact ⟨(wrap64 ((ji4) + 1)), (x10_1), (by first | rfl | (simp; done) | (simp only [← hji4] <;> (first | rfl | simp)) | (simp [*]; done)), (by first | rfl | (simp; done) | (simp [*]; done)), H', ⟨by have := HK1.out; omega⟩, ⟨by repeat (first | (with_reducible first | exact HB.out | apply below_alloc | apply pw_below_drewN | apply below_drew1) | exact HB.out)⟩⟩
            · rw [if_neg c8] at H
              have c8b0 : decide (t144 < 0) = false := decide_eq_false c8; clear c8; have H' := Aside0.mk H; clear H; have p143 : 0 ≤ ((ji4) : Int) := of_decide_eq_true (by first | (with_reducible assumption) | assumption); have q143 : (ji4) < (l0.length : Int) := of_decide_eq_true (by first | (with_reducible assumption) | assumption); obtain ⟨ad143, e143, hx143_0, hx143_1⟩ := at_T41 HR0.out (ji4) p143 q143
              cases e143
              replace hx143_0 := (HB.out.cell (World.block_lt_of_cell? w _ hx143_0)).trans hx143_0; replace hx143_1 := (HB.out.cell (World.block_lt_of_cell? w _ hx143_1)).trans hx143_1; replace p143 := eq_true p143; replace q143 := eq_true q143
              go_wp2_with (first | (go_at_call 83; (with_reducible refine (sets_has_1.calls ((rd_T41 l0 (ji4)).f0) ((rd_T41 l0 (ji4)).f1) a1 t144 _ A7.out).mono ?_); rintro e w10 ⟨rfl, hb⟩; have n0_ := Aside0.mk (below_step (by repeat (first | (with_reducible first | exact HB.out | apply below_alloc | apply pw_below_drewN | apply below_drew1) | exact HB.out)) hb); clear HB; have HB := n0_; clear n0_; (try clear hb); (try clear hb2); (try clear hk); (try clear hi)))
              go_roundg k1
              case measure => have := HK1.out; omega
              case rel => exact ⟨(x9_1), (ji4), (by first | rfl | (simp; done) | (simp [*]; done)), (by first | rfl | (simp; done) | (simp only [← hji4] <;> (first | rfl | simp)) | (simp [*]; done)), H', ⟨by have := HK1.out; omega⟩, ⟨by repeat (first | (with_reducible first | exact HB.out | apply below_alloc | apply pw_below_drewN | apply below_drew1) | exact HB.out)⟩⟩
          · rw [if_neg c6] at H; exact absurd H (by simp)
        · rw [if_neg c5] at H; exact absurd H (by simp)
      · rw [if_neg c3] at H
        have c3b0 : decide (x9_1 < x10_1) = false := decide_eq_false c3; clear c3
        by_cases c11 : x9_1 < (l0.length : Int)
        · rw [if_pos c11] at H
          have c11b0 : decide (x9_1 < (l0.length : Int)) = true := decide_eq_true c11; clear c11
          by_cases c12 : 0 ≤ x9_1
          · rw [if_pos c12] at H
            have c12b0 : decide (0 ≤ x9_1) = true := decide_eq_true c12; clear c12
            by_cases c13 : x9_1 < (l0.length : Int)
            · rw [if_pos c13] at H
              have c13b0 : decide (x9_1 < (l0.length : Int)) = true := decide_eq_true c13; clear c13; replace H := Option.bind_eq_some_iff.mp H; obtain ⟨t146, A140, H⟩ := H; replace H : (some (x9_1, (t146 == 0))) = some (r1, r2) := H; have A14 := Aside0.mk A140; clear A140; simp only [Option.some.injEq, Prod.mk.injEq] at H; obtain ⟨rfl, rfl⟩ := H; have p145 : 0 ≤ (x9_1 : Int) := of_decide_eq_true (by first | (with_reducible assumption) | assumption); have q145 : x9_1 < (l0.length : Int) := of_decide_eq_true (by first | (with_reducible assumption) | assumption); obtain ⟨ad145, e145, hx145_0, hx145_1⟩ := at_T41 HR0.out x9_1 p145 q145
              cases e145
              replace hx145_0 := (HB.out.cell (World.block_lt_of_cell? w _ hx145_0)).trans hx145_0; replace hx145_1 := (HB.out.cell (World.block_lt_of_cell? w _ hx145_1)).trans hx145_1; replace p145 := eq_true p145; replace q145 := eq_true q145
              go_wp2_with (first | (go_at_call 83; (with_reducible refine (sets_has_1.calls ((rd_T41 l0 x9_1).f0) ((rd_T41 l0 x9_1).f1) a1 t146 _ A14.out).mono ?_); rintro e w15 ⟨rfl, hb⟩; have n0_ := Aside0.mk (below_step (by repeat (first | (with_reducible first | exact HB.out | apply below_alloc | apply pw_below_drewN | apply below_drew1) | exact HB.out)) hb); clear HB; have HB := n0_; clear n0_; (try clear hb); (try clear hb2); (try clear hk); (try clear hi)))
              go_ret2; exact ⟨by first | rfl | (simp [errW_none, errW_some] <;> rfl) | (simp [*, errW_none, errW_some] <;> rfl), by repeat (first | (with_reducible first | exact HB.out | apply below_alloc | apply pw_below_drewN | apply below_drew1) | exact HB.out)⟩
            · rw [if_neg c13] at H; exact absurd H (by simp)
          · rw [if_neg c12] at H; exact absurd H (by simp)
        · rw [if_neg c11] at H
          have c11b0 : decide (x9_1 < (l0.length : Int)) = false := decide_eq_false c11; clear c11; simp only [Option.some.injEq, Prod.mk.injEq] at H; obtain ⟨rfl, rfl⟩ := H
          go_wp2
          go_ret2; exact ⟨by first | rfl | (simp [errW_none, errW_some] <;> rfl) | (simp [*, errW_none, errW_some] <;> rfl), by repeat (first | (with_reducible first | exact HB.out | apply below_alloc | apply pw_below_drewN | apply below_drew1) | exact HB.out)⟩
def sets_has.f (k : Nat) (l0 : List (S41)) (a1 : Int) : Option (Bool) := (api_Range_rune.f k l0 a1).bind fun bt147 => (some bt147.2)
theorem sets_has.mono : ∀ a0 a1 k, LeO (sets_has.f k a0 a1) (sets_has.f (k + 1) a0 a1) := by
 intro a0 a1 k; unfold sets_has.f
 repeat' first
   | (with_reducible exact api_Range_rune.mono _ _ _)
   | (with_reducible exact LeO.refl _)
   | (with_reducible exact LeO.none _)
   | (with_reducible refine LeO.ite ?_ ?_)
   | (with_reducible refine LeO.bind ?_ (fun _ => ?_))
set_option maxHeartbeats 8000000 in
set_option maxRecDepth 100000 in
theorem sets_has.calls (k : Nat) (A0 : Option Addr) (c0 : Nat) (l0 : List (S41)) (a1 : Int) (r : Bool) (w : World) (hr0 : Kd.C k41 w A0 l0.length l0) (hc0 : l0.length ≤ c0) (h : sets_has.f k l0 a1 = some r) :
  Calls Tryz.prog 54 #[.slice A0 l0.length c0, .int .i32 a1] w fun e w' => e = .returned (.bool r) ∧ Below w.heap.size w w' := by
 have HR0 := Aside0.mk hr0; have HC0 := Aside0.mk hc0; clear hr0 hc0; have HB : BelC w w := bc0; have H : ((api_Range_rune.f k l0 a1).bind fun bt147 => (some bt147.2)) = some r := h; clear h; replace H := Option.bind_eq_some_iff.mp H; obtain ⟨⟨t147, t148⟩, A30, H⟩ := H; replace H : (some t148) = some r := H; have A3 := Aside0.mk A30; clear A30; obtain rfl := Option.some.inj H; go_enter Tryz.func54, Tryz.ntmps54
 go_wp2_with (first | ((with_reducible refine gate_callee (f := 82) rfl ?_); refine goesL_ (some 10) rfl rfl Tryz.func82 (by kernel_rfl) rfl #[.slice A0 l0.length c0, .int .i32 a1, .func (.func 83) #[] #[]] rfl (by (try simp only [List.map_toArray, List.map_cons, List.map_nil]); first | done | rfl | (simp only [List.length_drop, List.length_take]; rfl)) ?_; (with_reducible refine (api_Range_rune.calls k _ _ l0 a1 t147 t148 _ ?side1 ?side2 A3.out).mono ?_); (case side1 => exact cl HR0.out); (case side2 => exact HC0.out); rintro e w4 ⟨rfl, hb⟩; refine ⟨_, rfl, ?_⟩; replace HB : BelC w _ := bs hb; (try clear hb); (try clear hb2); (try clear hk); (try clear hi)))
 go_ret; exact ⟨by first | rfl | (simp [errW_none, errW_some] <;> rfl) | (simp [*, errW_none, errW_some] <;> rfl), bw⟩
def sets_Has.f (k : Nat) (l0 : List (S41)) (a1 : Int) : Option (Bool × Int) := (sets_Check.f k l0).bind fun t149 => (if t149 = 0 then ((sets_has.f k l0 a1).bind fun t150 => (some (t150, 0))) else (some (false, t149)))
theorem sets_Has.mono : ∀ a0 a1 k, LeO (sets_Has.f k a0 a1) (sets_Has.f (k + 1) a0 a1) := by
 intro a0 a1 k; unfold sets_Has.f
 repeat' first
   | (with_reducible exact sets_Check.mono _ _)
   | (with_reducible exact sets_has.mono _ _ _)
   | (with_reducible exact LeO.refl _)
   | (with_reducible exact LeO.none _)
   | (with_reducible refine LeO.ite ?_ ?_)
   | (with_reducible refine LeO.bind ?_ (fun _ => ?_))
set_option maxHeartbeats 8000000 in
set_option maxRecDepth 100000 in
theorem sets_Has.calls (k : Nat) (A0 : Option Addr) (c0 : Nat) (l0 : List (S41)) (a1 : Int) (r1 : Bool) (r2 : Int) (w : World) (hr0 : Kd.C k41 w A0 l0.length l0) (hc0 : l0.length ≤ c0) (hG : Glob w) (h : sets_Has.f k l0 a1 = some (r1, r2)) :
  Calls Tryz.prog 30 #[.slice A0 l0.length c0, .int .i32 a1] w fun e w' => e = .returned (.tuple #[.bool r1, .int .i64 r2]) ∧ Below w.heap.size w w' := by
 have HR0 := Aside0.mk hr0; have HC0 := Aside0.mk hc0; clear hr0 hc0; have HB : BelC w w := bc0; have H : ((sets_Check.f k l0).bind fun t149 => (if t149 = 0 then ((sets_has.f k l0 a1).bind fun t150 => (some (t150, 0))) else (some (false, t149)))) = some (r1, r2) := h; clear h; replace H := Option.bind_eq_some_iff.mp H; obtain ⟨t149, A30, H⟩ := H; replace H : (if t149 = 0 then ((sets_has.f k l0 a1).bind fun t150 => (some (t150, 0))) else (some (false, t149))) = some (r1, r2) := H; have A3 := Aside0.mk A30; clear A30
 by_cases c4 : t149 = 0
 ·
  rw [if_pos c4] at H; have c4b0 : (t149 == 0) = true := beq_iff_eq.mpr c4; have c4b1 : (t149 != 0) = false := bne_eq_false_iff_eq.mpr c4; clear c4; replace H := Option.bind_eq_some_iff.mp H; obtain ⟨t150, A50, H⟩ := H; replace H : (some (t150, 0)) = some (r1, r2) := H; have A5 := Aside0.mk A50; clear A50; simp only [Option.some.injEq, Prod.mk.injEq] at H; obtain ⟨rfl, rfl⟩ := H; go_enter Tryz.func30, Tryz.ntmps30
  go_wp2_with (first | ((with_reducible refine gate_callee (f := 24) rfl ?_); refine goesL_ (some 8) rfl rfl Tryz.func24 (by kernel_rfl) rfl #[.slice A0 l0.length c0] rfl (by (try simp only [List.map_toArray, List.map_cons, List.map_nil]); first | done | rfl | (simp only [List.length_drop, List.length_take]; rfl)) ?_; (with_reducible refine (sets_Check.calls k _ _ l0 t149 _ ?side1 ?side2 ?side3 A3.out).mono ?_); (case side1 => exact cl HR0.out); (case side2 => exact HC0.out); (case side3 => first | exact hG | exact Glob.of_below hG bw | exact Glob.of_below hG HB.out | exact Glob.drewN hG _ | exact Glob.drew hG | (with_reducible repeat (first | exact hG | apply Glob.drewN | apply Glob.drew | apply Glob.alloc))); rintro e w6 ⟨rfl, hb⟩; refine ⟨_, rfl, ?_⟩; replace HB : BelC w _ := bs hb; (try clear hb); (try clear hb2); (try clear hk); (try clear hi)) | ((with_reducible refine gate_callee (f := 54) rfl ?_); refine goesL_ (some 14) rfl rfl Tryz.func54 (by kernel_rfl) rfl #[.slice A0 l0.length c0, .int .i32 a1] rfl (by (try simp only [List.map_toArray, List.map_cons, List.map_nil]); first | done | rfl | (simp only [List.length_drop, List.length_take]; rfl)) ?_; (with_reducible refine (sets_has.calls k _ _ l0 a1 t150 _ ?side1 ?side2 A5.out).mono ?_); (case side1 => exact cl (Kd.C_below HR0.out HB.out)); (case side2 => exact HC0.out); rintro e w7 ⟨rfl, hb⟩; refine ⟨_, rfl, ?_⟩; replace HB : BelC w _ := bs hb; (try clear hb); (try clear hb2); (try clear hk); (try clear hi)))
  go_ret2; exact ⟨by first | rfl | (simp [errW_none, errW_some] <;> rfl) | (simp [*, errW_none, errW_some] <;> rfl), bw⟩
 ·
  rw [if_neg c4] at H; have c4b0 : (t149 == 0) = false := beq_eq_false_iff_ne.mpr c4; have c4b1 : (t149 != 0) = true := bne_iff_ne.mpr c4; simp only [Option.some.injEq, Prod.mk.injEq] at H; obtain ⟨rfl, rfl⟩ := H; go_enter Tryz.func30, Tryz.ntmps30
  go_wp2_with (first | ((with_reducible refine gate_callee (f := 24) rfl ?_); refine goesL_ (some 8) rfl rfl Tryz.func24 (by kernel_rfl) rfl #[.slice A0 l0.length c0] rfl (by (try simp only [List.map_toArray, List.map_cons, List.map_nil]); first | done | rfl | (simp only [List.length_drop, List.length_take]; rfl)) ?_; (with_reducible refine (sets_Check.calls k _ _ l0 t149 _ ?side1 ?side2 ?side3 A3.out).mono ?_); (case side1 => exact cl HR0.out); (case side2 => exact HC0.out); (case side3 => first | exact hG | exact Glob.of_below hG bw | exact Glob.of_below hG HB.out | exact Glob.drewN hG _ | exact Glob.drew hG | (with_reducible repeat (first | exact hG | apply Glob.drewN | apply Glob.drew | apply Glob.alloc))); rintro e w8 ⟨rfl, hb⟩; refine ⟨_, rfl, ?_⟩; replace HB : BelC w _ := bs hb; (try clear hb); (try clear hb2); (try clear hk); (try clear hi)))
  go_ret2; exact ⟨by first | rfl | (simp [errW_none, errW_some] <;> rfl) | (simp [*, errW_none, errW_some] <;> rfl), bw⟩
def sets_Size.l0 : Nat → Int → List (S41) → Int → Int → Option (Int × Int)
 | 0, _, _, _, _ => none
 | k + 1, x5, x13, x14, x15 => if x15 < x14 then (if 0 ≤ x15 then (if x15 < (x13.length : Int) then (sets_Size.l0 k (wrap64 (x5 + (wrap64 ((wrap64 (wrap32 (((rd_T41 x13 x15).f1) - ((rd_T41 x13 x15).f0)))) + 1)))) x13 x14 (wrap64 (x15 + 1))) else (none)) else (none)) else (some (x5, 0))
def sets_Size.f (k : Nat) (l0 : List (S41)) : Option (Int × Int) := (sets_Check.f k l0).bind fun t151 => (if t151 = 0 then (sets_Size.l0 k 0 l0 (l0.length : Int) 0) else (some (0, t151)))
theorem sets_Size.mono_l : ∀ k, (∀ y0 y1 y2 y3, LeO (sets_Size.l0 k y0 y1 y2 y3) (sets_Size.l0 (k + 1) y0 y1 y2 y3))
 | 0 => fun _ _ _ _ r h => by simp [sets_Size.l0] at h
 | k + 1 => by
  have ih0 := sets_Size.mono_l k
  ·
   intro y0 y1 y2 y3; unfold sets_Size.l0
   repeat' first
   | (with_reducible exact ih0 _ _ _ _)
   | (with_reducible exact sets_Check.mono _ _)
   | (with_reducible exact LeO.refl _)
   | (with_reducible exact LeO.none _)
   | (with_reducible refine LeO.ite ?_ ?_)
   | (with_reducible refine LeO.bind ?_ (fun _ => ?_))
theorem sets_Size.mono : ∀ a0 k, LeO (sets_Size.f k a0) (sets_Size.f (k + 1) a0) := by
 intro a0 k; have ih0 := sets_Size.mono_l k; unfold sets_Size.f
 repeat' first
   | (with_reducible exact ih0 _ _ _ _)
   | (with_reducible exact sets_Check.mono _ _)
   | (with_reducible exact LeO.refl _)
   | (with_reducible exact LeO.none _)
   | (with_reducible refine LeO.ite ?_ ?_)
   | (with_reducible refine LeO.bind ?_ (fun _ => ?_))
set_option maxHeartbeats 8000000 in
set_option maxRecDepth 100000 in
theorem sets_Size.calls (k : Nat) (A0 : Option Addr) (c0 : Nat) (l0 : List (S41)) (r1 : Int) (r2 : Int) (w : World) (hr0 : Kd.C k41 w A0 l0.length l0) (hc0 : l0.length ≤ c0) (hG : Glob w) (h : sets_Size.f k l0 = some (r1, r2)) :
  Calls Tryz.prog 31 #[.slice A0 l0.length c0] w fun e w' => e = .returned (.tuple #[.int .i64 r1, .int .i64 r2]) ∧ Below w.heap.size w w' := by
 have hu41 := Tryz.underlying41; have HR0 := Aside0.mk hr0; have HC0 := Aside0.mk hc0; clear hr0 hc0; have HB : BelC w w := bc0; have H : ((sets_Check.f k l0).bind fun t151 => (if t151 = 0 then (sets_Size.l0 k 0 l0 (l0.length : Int) 0) else (some (0, t151)))) = some (r1, r2) := h; clear h; replace H := Option.bind_eq_some_iff.mp H; obtain ⟨t151, A20, H⟩ := H; replace H : (if t151 = 0 then (sets_Size.l0 k 0 l0 (l0.length : Int) 0) else (some (0, t151))) = some (r1, r2) := H; have A2 := Aside0.mk A20; clear A20
 by_cases c3 : t151 = 0
 ·
  rw [if_pos c3] at H; have c3b0 : (t151 == 0) = true := beq_iff_eq.mpr c3; have c3b1 : (t151 != 0) = false := bne_eq_false_iff_eq.mpr c3; clear c3; have H' := Aside0.mk H; clear H; go_enter Tryz.func31, Tryz.ntmps31
  go_wp2_with (first | ((with_reducible refine gate_callee (f := 24) rfl ?_); refine goesL_ (some 9) rfl rfl Tryz.func24 (by kernel_rfl) rfl #[.slice A0 l0.length c0] rfl (by (try simp only [List.map_toArray, List.map_cons, List.map_nil]); first | done | rfl | (simp only [List.length_drop, List.length_take]; rfl)) ?_; (with_reducible refine (sets_Check.calls k _ _ l0 t151 _ ?side1 ?side2 ?side3 A2.out).mono ?_); (case side1 => exact cl HR0.out); (case side2 => exact HC0.out); (case side3 => first | exact hG | exact Glob.of_below hG bw | exact Glob.of_below hG HB.out | exact Glob.drewN hG _ | exact Glob.drew hG | (with_reducible repeat (first | exact hG | apply Glob.drewN | apply Glob.drew | apply Glob.alloc))); rintro e w4 ⟨rfl, hb⟩; refine ⟨_, rfl, ?_⟩; replace HB : BelC w _ := bs hb; (try clear hb); (try clear hb2); (try clear hk); (try clear hi)))
  go_loopg [5, 15] k (fun kq v5 v15 w' => ∃ (x5_1 : Int) (x15_1 : Int), v5 = .int .i64 x5_1 ∧ v15 = .int .i64 x15_1 ∧ Aside0 (sets_Size.l0 kq x5_1 l0 (l0.length : Int) x15_1 = some (r1, r2)) ∧ Aside0 (kq ≤ k) ∧ BelC w w')
  case atStart => exact ⟨(0), (0), (by first | rfl | (simp; done) | (simp [*]; done)), (by first | rfl | (simp; done) | (simp [*]; done)), H', ⟨Nat.le_refl _⟩, ⟨bw⟩⟩
  case round =>
   clear H'
   try clear c2
   try clear p2
   try clear c3
   try clear c3b0
   try clear c3b1
   obtain ⟨x5_1, x15_1, rfl, rfl, HA, HK1, HB⟩ := hrel
   cases gk with
   | zero => exact absurd HA.out (by simp [sets_Size.l0])
   | succ k1 =>
    have H := HA.out; clear HA; simp only [sets_Size.l0] at H
    by_cases c5 : x15_1 < (l0.length : Int)
    ·
     rw [if_pos c5] at H; have c5b0 : decide (x15_1 < (l0.length : Int)) = true := decide_eq_true c5; clear c5
     by_cases c6 : 0 ≤ x15_1
     ·
      rw [if_pos c6] at H; have c6b0 : decide (0 ≤ x15_1) = true := decide_eq_true c6; clear c6
      by_cases c7 : x15_1 < (l0.length : Int)
      ·
       rw [if_pos c7] at H; have c7b0 : decide (x15_1 < (l0.length : Int)) = true := decide_eq_true c7; clear c7; have H' := Aside0.mk H; clear H; have p152 : 0 ≤ (x15_1 : Int) := od (by assumption); have q152 : x15_1 < (l0.length : Int) := od (by assumption); obtain ⟨ad152, e152, hx152_0, hx152_1⟩ := at_T41 HR0.out x15_1 p152 q152
       cases e152
       replace hx152_0 := (HB.out.cell (World.block_lt_of_cell? w _ hx152_0)).trans hx152_0; replace hx152_1 := (HB.out.cell (World.block_lt_of_cell? w _ hx152_1)).trans hx152_1; replace p152 := eq_true p152; replace q152 := eq_true q152
       go_wp2_with (first | ((with_reducible refine gate_dst (N := 7) rfl ?_); refine box_event ?hg (N := 7) ?hd (cs := #[.int .i32 0, .int .i32 0]) (t := 41) ?hr ?_; (case hd => rfl); (case hg => rfl); (case hr => first | (go_simp; done) | (go_simp; rfl)); intro gb153 hg w8 hbox hb; have BK153 := Aside0.mk (hbox); have GW153 := Aside0.mk ((by rw [hg]; exact bz : w.heap.size ≤ gb153)); have GE153 := Aside0.mk ((by rw [hg]; exact bz : w.heap.size ≤ gb153)); replace HB : BelC w _ := bs hb; clear hb hbox hg; have hcz9_0 : w8.cell? ⟨gb153, 0, none⟩ = some (.int .i32 0) := (blk_cell BK153.out 0).trans rfl; have hcz9_1 : w8.cell? ⟨gb153, 1, none⟩ = some (.int .i32 0) := (blk_cell BK153.out 1).trans rfl; have hfz9_0 := blk_frozen BK153.out 0; have hfz9_1 := blk_frozen BK153.out 1))
       go_roundg k1
       case measure => have := HK1.out; omega
       case rel => exact ⟨(wrap64 (x5_1 + (wrap64 ((wrap64 (wrap32 (((rd_T41 l0 x15_1).f1) - ((rd_T41 l0 x15_1).f0)))) + 1)))), (wrap64 (x15_1 + 1)), (by first | rfl | (simp; done) | (simp [*]; done)), (by first | rfl | (simp; done) | (simp [*]; done)), H', ⟨by have := HK1.out; omega⟩, ⟨by repeat (first | (with_reducible first | exact HB.out | apply below_alloc | apply pw_below_drewN | apply below_drew1 | refine below_set ?_ GE153.out) | exact HB.out)⟩⟩
      ·
       rw [if_neg c7] at H; exact absurd H (by simp)
     ·
      rw [if_neg c6] at H; exact absurd H (by simp)
    ·
     rw [if_neg c5] at H; have c5b0 : decide (x15_1 < (l0.length : Int)) = false := decide_eq_false c5; clear c5; simp only [Option.some.injEq, Prod.mk.injEq] at H; obtain ⟨rfl, rfl⟩ := H
     go_wp2
     go_ret2; exact ⟨by first | rfl | (simp [errW_none, errW_some] <;> rfl) | (simp [*, errW_none, errW_some] <;> rfl), bw⟩
 ·
  rw [if_neg c3] at H; have c3b0 : (t151 == 0) = false := beq_eq_false_iff_ne.mpr c3; have c3b1 : (t151 != 0) = true := bne_iff_ne.mpr c3; simp only [Option.some.injEq, Prod.mk.injEq] at H; obtain ⟨rfl, rfl⟩ := H; go_enter Tryz.func31, Tryz.ntmps31
  go_wp2_with (first | ((with_reducible refine gate_callee (f := 24) rfl ?_); refine goesL_ (some 9) rfl rfl Tryz.func24 (by kernel_rfl) rfl #[.slice A0 l0.length c0] rfl (by (try simp only [List.map_toArray, List.map_cons, List.map_nil]); first | done | rfl | (simp only [List.length_drop, List.length_take]; rfl)) ?_; (with_reducible refine (sets_Check.calls k _ _ l0 t151 _ ?side1 ?side2 ?side3 A2.out).mono ?_); (case side1 => exact cl HR0.out); (case side2 => exact HC0.out); (case side3 => first | exact hG | exact Glob.of_below hG bw | exact Glob.of_below hG HB.out | exact Glob.drewN hG _ | exact Glob.drew hG | (with_reducible repeat (first | exact hG | apply Glob.drewN | apply Glob.drew | apply Glob.alloc))); rintro e w10 ⟨rfl, hb⟩; refine ⟨_, rfl, ?_⟩; replace HB : BelC w _ := bs hb; (try clear hb); (try clear hb2); (try clear hk); (try clear hi)))
  go_ret2; exact ⟨by first | rfl | (simp [errW_none, errW_some] <;> rfl) | (simp [*, errW_none, errW_some] <;> rfl), bw⟩
def sets_Pick.l0 : Nat → Int → List (S41) → Int → Int → Option (Int × Int)
 | 0, _, _, _, _ => none
 | k + 1, x1, x17, x18, x19 => if x19 < x18 then (if 0 ≤ x19 then (if x19 < (x17.length : Int) then (if x1 < (wrap64 ((wrap64 (wrap32 (((rd_T41 x17 x19).f1) - ((rd_T41 x17 x19).f0)))) + 1)) then (some (wrap32 (((rd_T41 x17 x19).f0) + (wrap32 (x1))), 0)) else (sets_Pick.l0 k (wrap64 (x1 - (wrap64 ((wrap64 (wrap32 (((rd_T41 x17 x19).f1) - ((rd_T41 x17 x19).f0)))) + 1)))) x17 x18 (wrap64 (x19 + 1)))) else (none)) else (none)) else (some (0, 2))
def sets_Pick.f (k : Nat) (l0 : List (S41)) (a1 : Int) : Option (Int × Int) := (sets_Check.f k l0).bind fun t154 => (if t154 = 0 then (if a1 < 0 then (some (0, 2)) else (sets_Pick.l0 k a1 l0 (l0.length : Int) 0)) else (some (0, t154)))
theorem sets_Pick.mono_l : ∀ k, (∀ y0 y1 y2 y3, LeO (sets_Pick.l0 k y0 y1 y2 y3) (sets_Pick.l0 (k + 1) y0 y1 y2 y3))
 | 0 => fun _ _ _ _ r h => by simp [sets_Pick.l0] at h
 | k + 1 => by
  have ih0 := sets_Pick.mono_l k
  ·
   intro y0 y1 y2 y3; unfold sets_Pick.l0
   repeat' first
   | (with_reducible exact ih0 _ _ _ _)
   | (with_reducible exact sets_Check.mono _ _)
   | (with_reducible exact LeO.refl _)
   | (with_reducible exact LeO.none _)
   | (with_reducible refine LeO.ite ?_ ?_)
   | (with_reducible refine LeO.bind ?_ (fun _ => ?_))
theorem sets_Pick.mono : ∀ a0 a1 k, LeO (sets_Pick.f k a0 a1) (sets_Pick.f (k + 1) a0 a1) := by
 intro a0 a1 k; have ih0 := sets_Pick.mono_l k; unfold sets_Pick.f
 repeat' first
   | (with_reducible exact ih0 _ _ _ _)
   | (with_reducible exact sets_Check.mono _ _)
   | (with_reducible exact LeO.refl _)
   | (with_reducible exact LeO.none _)
   | (with_reducible refine LeO.ite ?_ ?_)
   | (with_reducible refine LeO.bind ?_ (fun _ => ?_))
set_option maxHeartbeats 8000000 in
set_option maxRecDepth 100000 in
theorem sets_Pick.calls (k : Nat) (A0 : Option Addr) (c0 : Nat) (l0 : List (S41)) (a1 : Int) (r1 : Int) (r2 : Int) (w : World) (hr0 : Kd.C k41 w A0 l0.length l0) (hc0 : l0.length ≤ c0) (hG : Glob w) (h : sets_Pick.f k l0 a1 = some (r1, r2)) :
  Calls Tryz.prog 32 #[.slice A0 l0.length c0, .int .i64 a1] w fun e w' => e = .returned (.tuple #[.int .i32 r1, .int .i64 r2]) ∧ Below w.heap.size w w' := by
 have hu41 := Tryz.underlying41; have HR0 := Aside0.mk hr0; have HC0 := Aside0.mk hc0; clear hr0 hc0; have HB : BelC w w := bc0; have H : ((sets_Check.f k l0).bind fun t154 => (if t154 = 0 then (if a1 < 0 then (some (0, 2)) else (sets_Pick.l0 k a1 l0 (l0.length : Int) 0)) else (some (0, t154)))) = some (r1, r2) := h; clear h; replace H := Option.bind_eq_some_iff.mp H; obtain ⟨t154, A30, H⟩ := H; replace H : (if t154 = 0 then (if a1 < 0 then (some (0, 2)) else (sets_Pick.l0 k a1 l0 (l0.length : Int) 0)) else (some (0, t154))) = some (r1, r2) := H; have A3 := Aside0.mk A30; clear A30
 by_cases c4 : t154 = 0
 ·
  rw [if_pos c4] at H; have c4b0 : (t154 == 0) = true := beq_iff_eq.mpr c4; have c4b1 : (t154 != 0) = false := bne_eq_false_iff_eq.mpr c4; clear c4
  by_cases c5 : a1 < 0
  ·
   rw [if_pos c5] at H; have c5b0 : decide (a1 < 0) = true := decide_eq_true c5; clear c5; simp only [Option.some.injEq, Prod.mk.injEq] at H; obtain ⟨rfl, rfl⟩ := H; go_enter Tryz.func32, Tryz.ntmps32
   go_wp2_with (first | ((with_reducible refine gate_callee (f := 24) rfl ?_); refine goesL_ (some 11) rfl rfl Tryz.func24 (by kernel_rfl) rfl #[.slice A0 l0.length c0] rfl (by (try simp only [List.map_toArray, List.map_cons, List.map_nil]); first | done | rfl | (simp only [List.length_drop, List.length_take]; rfl)) ?_; (with_reducible refine (sets_Check.calls k _ _ l0 t154 _ ?side1 ?side2 ?side3 A3.out).mono ?_); (case side1 => exact cl HR0.out); (case side2 => exact HC0.out); (case side3 => first | exact hG | exact Glob.of_below hG bw | exact Glob.of_below hG HB.out | exact Glob.drewN hG _ | exact Glob.drew hG | (with_reducible repeat (first | exact hG | apply Glob.drewN | apply Glob.drew | apply Glob.alloc))); rintro e w6 ⟨rfl, hb⟩; refine ⟨_, rfl, ?_⟩; replace HB : BelC w _ := bs hb; (try clear hb); (try clear hb2); (try clear hk); (try clear hi)))
   go_ret2; exact ⟨by first | rfl | (simp [errW_none, errW_some] <;> rfl) | (simp [*, errW_none, errW_some] <;> rfl), bw⟩
  ·
   rw [if_neg c5] at H; have c5b0 : decide (a1 < 0) = false := decide_eq_false c5; clear c5; have H' := Aside0.mk H; clear H; go_enter Tryz.func32, Tryz.ntmps32
   go_wp2_with (first | ((with_reducible refine gate_callee (f := 24) rfl ?_); refine goesL_ (some 11) rfl rfl Tryz.func24 (by kernel_rfl) rfl #[.slice A0 l0.length c0] rfl (by (try simp only [List.map_toArray, List.map_cons, List.map_nil]); first | done | rfl | (simp only [List.length_drop, List.length_take]; rfl)) ?_; (with_reducible refine (sets_Check.calls k _ _ l0 t154 _ ?side1 ?side2 ?side3 A3.out).mono ?_); (case side1 => exact cl HR0.out); (case side2 => exact HC0.out); (case side3 => first | exact hG | exact Glob.of_below hG bw | exact Glob.of_below hG HB.out | exact Glob.drewN hG _ | exact Glob.drew hG | (with_reducible repeat (first | exact hG | apply Glob.drewN | apply Glob.drew | apply Glob.alloc))); rintro e w7 ⟨rfl, hb⟩; refine ⟨_, rfl, ?_⟩; replace HB : BelC w _ := bs hb; (try clear hb); (try clear hb2); (try clear hk); (try clear hi)))
   go_loopg [1, 19] k (fun kq v1 v19 w' => ∃ (x1_1 : Int) (x19_1 : Int), v1 = .int .i64 x1_1 ∧ v19 = .int .i64 x19_1 ∧ Aside0 (sets_Pick.l0 kq x1_1 l0 (l0.length : Int) x19_1 = some (r1, r2)) ∧ Aside0 (kq ≤ k) ∧ BelC w w')
   case atStart => exact ⟨(a1), (0), (by first | rfl | (simp; done) | (simp [*]; done)), (by first | rfl | (simp; done) | (simp [*]; done)), H', ⟨Nat.le_refl _⟩, ⟨bw⟩⟩
   case round =>
    clear H'
    try clear c2
    try clear p2
    try clear c3
    try clear c4
    try clear c4b0
    try clear c4b1
    try clear c5
    try clear c5b0
    obtain ⟨x1_1, x19_1, rfl, rfl, HA, HK1, HB⟩ := hrel
    cases gk with
    | zero => exact absurd HA.out (by simp [sets_Pick.l0])
    | succ k1 =>
     have H := HA.out; clear HA; simp only [sets_Pick.l0] at H
     by_cases c8 : x19_1 < (l0.length : Int)
     ·
      rw [if_pos c8] at H; have c8b0 : decide (x19_1 < (l0.length : Int)) = true := decide_eq_true c8; clear c8
      by_cases c9 : 0 ≤ x19_1
      ·
       rw [if_pos c9] at H; have c9b0 : decide (0 ≤ x19_1) = true := decide_eq_true c9; clear c9
       by_cases c10 : x19_1 < (l0.length : Int)
       ·
        rw [if_pos c10] at H; have c10b0 : decide (x19_1 < (l0.length : Int)) = true := decide_eq_true c10; clear c10
        by_cases c11 : x1_1 < (wrap64 ((wrap64 (wrap32 (((rd_T41 l0 x19_1).f1) - ((rd_T41 l0 x19_1).f0)))) + 1))
        ·
         rw [if_pos c11] at H; have c11b0 : decide (x1_1 < (wrap64 ((wrap64 (wrap32 (((rd_T41 l0 x19_1).f1) - ((rd_T41 l0 x19_1).f0)))) + 1))) = true := decide_eq_true c11; clear c11; simp only [Option.some.injEq, Prod.mk.injEq] at H; obtain ⟨rfl, rfl⟩ := H; have p155 : 0 ≤ (x19_1 : Int) := od (by assumption); have q155 : x19_1 < (l0.length : Int) := od (by assumption); obtain ⟨ad155, e155, hx155_0, hx155_1⟩ := at_T41 HR0.out x19_1 p155 q155
         cases e155
         replace hx155_0 := (HB.out.cell (World.block_lt_of_cell? w _ hx155_0)).trans hx155_0; replace hx155_1 := (HB.out.cell (World.block_lt_of_cell? w _ hx155_1)).trans hx155_1; replace p155 := eq_true p155; replace q155 := eq_true q155
         go_wp2_with (first | ((with_reducible refine gate_dst (N := 8) rfl ?_); refine box_event ?hg (N := 8) ?hd (cs := #[.int .i32 0, .int .i32 0]) (t := 41) ?hr ?_; (case hd => rfl); (case hg => rfl); (case hr => first | (go_simp; done) | (go_simp; rfl)); intro gb156 hg w12 hbox hb; have BK156 := Aside0.mk (hbox); have GW156 := Aside0.mk ((by rw [hg]; exact bz : w.heap.size ≤ gb156)); have GE156 := Aside0.mk ((by rw [hg]; exact bz : w.heap.size ≤ gb156)); replace HB : BelC w _ := bs hb; clear hb hbox hg; have hcz13_0 : w12.cell? ⟨gb156, 0, none⟩ = some (.int .i32 0) := (blk_cell BK156.out 0).trans rfl; have hcz13_1 : w12.cell? ⟨gb156, 1, none⟩ = some (.int .i32 0) := (blk_cell BK156.out 1).trans rfl; have hfz13_0 := blk_frozen BK156.out 0; have hfz13_1 := blk_frozen BK156.out 1))
         go_ret2; exact ⟨by first | rfl | (simp [errW_none, errW_some] <;> rfl) | (simp [*, errW_none, errW_some] <;> rfl), by repeat (first | (with_reducible first | exact HB.out | apply below_alloc | apply pw_below_drewN | apply below_drew1 | refine below_set ?_ GE156.out) | exact HB.out)⟩
        ·
         rw [if_neg c11] at H; have c11b0 : decide (x1_1 < (wrap64 ((wrap64 (wrap32 (((rd_T41 l0 x19_1).f1) - ((rd_T41 l0 x19_1).f0)))) + 1))) = false := decide_eq_false c11; clear c11; have H' := Aside0.mk H; clear H; have p155 : 0 ≤ (x19_1 : Int) := od (by assumption); have q155 : x19_1 < (l0.length : Int) := od (by assumption); obtain ⟨ad155, e155, hx155_0, hx155_1⟩ := at_T41 HR0.out x19_1 p155 q155
         cases e155
         replace hx155_0 := (HB.out.cell (World.block_lt_of_cell? w _ hx155_0)).trans hx155_0; replace hx155_1 := (HB.out.cell (World.block_lt_of_cell? w _ hx155_1)).trans hx155_1; replace p155 := eq_true p155; replace q155 := eq_true q155
         go_wp2_with (first | ((with_reducible refine gate_dst (N := 8) rfl ?_); refine box_event ?hg (N := 8) ?hd (cs := #[.int .i32 0, .int .i32 0]) (t := 41) ?hr ?_; (case hd => rfl); (case hg => rfl); (case hr => first | (go_simp; done) | (go_simp; rfl)); intro gb156 hg w14 hbox hb; have BK156 := Aside0.mk (hbox); have GW156 := Aside0.mk ((by rw [hg]; exact bz : w.heap.size ≤ gb156)); have GE156 := Aside0.mk ((by rw [hg]; exact bz : w.heap.size ≤ gb156)); replace HB : BelC w _ := bs hb; clear hb hbox hg; have hcz15_0 : w14.cell? ⟨gb156, 0, none⟩ = some (.int .i32 0) := (blk_cell BK156.out 0).trans rfl; have hcz15_1 : w14.cell? ⟨gb156, 1, none⟩ = some (.int .i32 0) := (blk_cell BK156.out 1).trans rfl; have hfz15_0 := blk_frozen BK156.out 0; have hfz15_1 := blk_frozen BK156.out 1))
         go_roundg k1
         case measure => have := HK1.out; omega
         case rel => exact ⟨(wrap64 (x1_1 - (wrap64 ((wrap64 (wrap32 (((rd_T41 l0 x19_1).f1) - ((rd_T41 l0 x19_1).f0)))) + 1)))), (wrap64 (x19_1 + 1)), (by first | rfl | (simp; done) | (simp [*]; done)), (by first | rfl | (simp; done) | (simp [*]; done)), H', ⟨by have := HK1.out; omega⟩, ⟨by repeat (first | (with_reducible first | exact HB.out | apply below_alloc | apply pw_below_drewN | apply below_drew1 | refine below_set ?_ GE156.out) | exact HB.out)⟩⟩
       ·
        rw [if_neg c10] at H; exact absurd H (by simp)
      ·
       rw [if_neg c9] at H; exact absurd H (by simp)
     ·
      rw [if_neg c8] at H; have c8b0 : decide (x19_1 < (l0.length : Int)) = false := decide_eq_false c8; clear c8; simp only [Option.some.injEq, Prod.mk.injEq] at H; obtain ⟨rfl, rfl⟩ := H
      go_wp2
      go_ret2; exact ⟨by first | rfl | (simp [errW_none, errW_some] <;> rfl) | (simp [*, errW_none, errW_some] <;> rfl), bw⟩
 ·
  rw [if_neg c4] at H; have c4b0 : (t154 == 0) = false := beq_eq_false_iff_ne.mpr c4; have c4b1 : (t154 != 0) = true := bne_iff_ne.mpr c4; simp only [Option.some.injEq, Prod.mk.injEq] at H; obtain ⟨rfl, rfl⟩ := H; go_enter Tryz.func32, Tryz.ntmps32
  go_wp2_with (first | ((with_reducible refine gate_callee (f := 24) rfl ?_); refine goesL_ (some 11) rfl rfl Tryz.func24 (by kernel_rfl) rfl #[.slice A0 l0.length c0] rfl (by (try simp only [List.map_toArray, List.map_cons, List.map_nil]); first | done | rfl | (simp only [List.length_drop, List.length_take]; rfl)) ?_; (with_reducible refine (sets_Check.calls k _ _ l0 t154 _ ?side1 ?side2 ?side3 A3.out).mono ?_); (case side1 => exact cl HR0.out); (case side2 => exact HC0.out); (case side3 => first | exact hG | exact Glob.of_below hG bw | exact Glob.of_below hG HB.out | exact Glob.drewN hG _ | exact Glob.drew hG | (with_reducible repeat (first | exact hG | apply Glob.drewN | apply Glob.drew | apply Glob.alloc))); rintro e w16 ⟨rfl, hb⟩; refine ⟨_, rfl, ?_⟩; replace HB : BelC w _ := bs hb; (try clear hb); (try clear hb2); (try clear hk); (try clear hi)))
  go_ret2; exact ⟨by first | rfl | (simp [errW_none, errW_some] <;> rfl) | (simp [*, errW_none, errW_some] <;> rfl), bw⟩
end Go.Proofs.YtoggmegpodmfnaaGreatDoor.PS
