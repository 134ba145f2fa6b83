/- Contracts of functions that the law reaches: what each call answers, as a plain function of what it reads; on condition that the function answers there. Printed by this session's own tool. -/
import Derived.Test.YtoggmegpodmfnaaGreatDoorPSx01
import Derived.Test.YtoggmegpodmfnaaGreatDoorPSx2
import Derived.Test.YtoggmegpodmfnaaGreatDoorPSx3
import Derived.Test.YtoggmegpodmfnaaGreatDoorBSq
namespace Go.Proofs.YtoggmegpodmfnaaGreatDoor.PS
open Go.RowKit Go.Proofs.YtoggmegpodmfnaaGreatDoor.B Go.Proofs.YtoggmegpodmfnaaGreatDoorW.PrintWords Go.Proofs.YtoggmegpodmfnaaGreatDoorW.PrintLast Go.Proofs.YtoggmegpodmfnaaGreatDoorW.PrintMore
attribute [local go_sem] max2_int min2_int max_two min_two max_three min_three max_four min_four   -- for this text's walks alone
set_option linter.unusedVariables false
set_option linter.unusedSimpArgs false
def clipB (lo hi : Int) (r : S41) : List S41 := if mx r.f0 lo ≤ mn r.f1 hi then [⟨mx r.f0 lo, mn r.f1 hi⟩] else []
def clips (r : S41) : List S41 := clipB 0 55295 r ++ clipB 57344 1114111 r ++ clipB 1114240 1114367 r
def clipN (k : Nat) (r : S41) : List S41 := (if 1 ≤ k then clipB 0 55295 r else []) ++ (if 2 ≤ k then clipB 57344 1114111 r else []) ++ (if 3 ≤ k then clipB 1114240 1114367 r else [])
theorem clipWrap (i : Nat) (h : i ≤ 1073741824) : wrap64 ((i : Int) + 1) = ((i + 1 : Nat) : Int) := by unfold wrap64; omega
theorem clipB_length (lo hi : Int) (r : S41) : (clipB lo hi r).length ≤ 1 := by unfold clipB; split <;> simp
def sets_Make.f (k : Nat) (l0 : List S41) : Option (List S41 × Int) :=
  if l0.length ≤ 1073741824 then (if l0.all (fun r => decide (r.f0 ≤ r.f1)) = true then (sets_gather.f k (l0.flatMap clips)).bind fun g => some (g, 0) else some ([], 2)) else none
theorem sets_Make.mono : ∀ a0 k, LeO (sets_Make.f k a0) (sets_Make.f (k + 1) a0) := by
  intro a0 k; unfold sets_Make.f; refine LeO.ite (LeO.ite (LeO.bind (sets_gather.mono _ _) (fun _ => LeO.refl _)) (LeO.refl _)) (LeO.none _)
set_option maxHeartbeats 4000000 in
set_option maxRecDepth 100000 in
theorem sets_Make.calls (k : Nat) (A0 : Option Addr) (c0 : Nat) (l0 : List S41) (r1 : List S41) (r2 : Int) (w : World) (hr0 : Kd.C k41 w A0 l0.length l0) (hc0 : l0.length ≤ c0) (hG : Glob w) (h : sets_Make.f k l0 = some (r1, r2)) :
    Calls Tryz.prog 12 #[.slice A0 l0.length c0] w fun e w' => ∃ v0_ : Value, e = .returned (.tuple #[v0_, .int .i64 r2]) ∧ Kd.R k41 41 w' w.heap.size (fun _ => True) v0_ r1 ∧ Below w.heap.size w w' := by
  unfold sets_Make.f at h
  by_cases hs : l0.length ≤ 1073741824
  case neg => rw [if_neg hs] at h; exact absurd h (by simp)
  rw [if_pos hs] at h; have HR0 := Aside0.mk hr0; have HG := Aside0.mk hG; have HH := Aside0.mk h; have HS := Aside0.mk hs; clear hr0 hG h hs; go_enter Tryz.func12, Tryz.ntmps12
  go_wp2
  go_loopw [13, 4] (fun vi vin wr => ∃ (i : Nat) (acc : List S41), vi = .int .i64 (i : Int) ∧ i ≤ l0.length ∧ Aside0 (Kd.R k41 41 wr w.heap.size (fun _ => True) vin acc) ∧ Aside0 (Below w.heap.size w wr) ∧ Aside0 (acc = (l0.take i).flatMap clips) ∧ Aside0 ((l0.take i).all (fun r => decide (r.f0 ≤ r.f1)) = true) ∧ Aside0 (acc.length ≤ 3 * i)) (fun vi _ _ => l0.length - (intOf vi).toNat)
  case atStart => exact ⟨0, [], rfl, by omega, ⟨Kd.R_nil _ _ _ _ _⟩, ⟨Below.refl _ w⟩, ⟨by simp⟩, ⟨by simp⟩, ⟨by simp⟩⟩
  case round =>
    obtain ⟨i, acc, rfl, hi, HO, HB, HA, HALL, HL⟩ := hrel
    by_cases hlt : i < l0.length
    · have hd1 : decide (i < l0.length) = true := decide_eq_true hlt
      obtain ⟨ad, e, hx0, hx1⟩ := at_T41 HR0.out (i : Int) (by omega) (by omega)
      cases e
      replace hx0 := (HB.out.cell (World.block_lt_of_cell? w _ hx0)).trans hx0; replace hx1 := (HB.out.cell (World.block_lt_of_cell? w _ hx1)).trans hx1; obtain ⟨re, hre⟩ : ∃ x, x = rd_T41 l0 (i : Int) := ⟨_, rfl⟩; rw [← hre] at hx0 hx1; have HRE := Aside0.mk hre; clear hre hlt; simp only [Int.toNat_natCast] at hx0 hx1; have hp := eq_true (show (0 : Int) ≤ (i : Int) by omega); have hq := eq_true (show (i : Int) < (l0.length : Int) from Int.ofNat_lt.2 (of_decide_eq_true hd1)); have HGr := Aside0.mk (HG.out.of_below HB.out)
      by_cases hbad : re.f0 ≤ re.f1
      · have hd2 : decide (re.f0 > re.f1) = false := decide_eq_false (by omega)
        have HGo := Aside0.mk hbad; clear hbad; have HGa := Aside0.mk (HGr.out.alloc (.cells #[.int .i32 re.f0, .int .i32 re.f1] 41)); have c0 := HGa.out 0 (by omega); have c1 := HGa.out 1 (by omega); have c2 := HGa.out 2 (by omega); have c3 := HGa.out 3 (by omega); have c4 := HGa.out 4 (by omega); have c5 := HGa.out 5 (by omega); simp only [bandCells, List.getD_cons_zero, List.getD_cons_succ] at c0 c1 c2 c3 c4 c5
        go_wp2
        have BKr := Aside0.mk (show (wr.alloc (.cells #[.int .i32 re.f0, .int .i32 re.f1] 41)).heap[wr.heap.size]? = some (.cells #[.int .i32 re.f0, .int .i32 re.f1] 41 (0, 0)) by simpa using heap_alloc_new wr _); have HBa := Aside0.mk (below_alloc HB.out (.cells #[.int .i32 re.f0, .int .i32 re.f1] 41)); have HOa := Aside0.mk (Kd.R_mono (Kd.R_bound (Kd.R_alloc HO.out (.cells #[.int .i32 re.f0, .int .i32 re.f1] 41))) (fun q hq => trivial) : Kd.R _ _ _ _ (fun _ => True) _ _); have HOb := Aside0.mk (Kd.R_alloc (Kd.R_elderB HO.out wr.heap.size (Nat.le_refl _)) (.cells #[.int .i32 re.f0, .int .i32 re.f1] 41)); have HGE := Aside0.mk (below_size HB.out)
        generalize wr.heap.size = gr at *
        generalize hwa : (wr.alloc (.cells #[.int .i32 re.f0, .int .i32 re.f1] 41)) = wa at *
        clear c0 c1 c2 c3 c4 c5 hx0 hx1 HB HO HOa HGr hwa
        go_loopw [23, 4] (fun vk vin wi => ∃ (k : Int) (ac : List S41), vk = .int .i64 k ∧ 0 ≤ k ∧ k ≤ 3 ∧ Aside0 (Kd.R k41 41 wi w.heap.size (fun q => q ≠ gr) vin ac) ∧ Aside0 (Below w.heap.size w wi) ∧ Aside0 (wi.heap[gr]? = some (.cells #[.int .i32 re.f0, .int .i32 re.f1] 41 (0, 0))) ∧ Aside0 (ac = acc ++ clipN k.toNat re) ∧ Aside0 ((ac.length : Int) ≤ 3 * i + k)) (fun vk _ _ => 3 - (intOf vk).toNat)
        case atStart => exact ⟨0, acc, rfl, by omega, by omega, ⟨Kd.R_mono HOb.out (fun q hq => hq.2)⟩, HBa, BKr, ⟨by simp [clipN]⟩, ⟨by have := HL.out; omega⟩⟩
        case round =>
          obtain ⟨k, ac, rfl, hk0, hk, HO, HB, BK, HAC, HLC⟩ := hrel
          rcases (show k = 0 ∨ k = 1 ∨ k = 2 ∨ k = 3 by omega) with rfl | rfl | rfl | rfl
          · as_aux_lemma =>
              obtain ⟨Ao, co, rfl⟩ := Kd.R_slice HO.out; obtain ⟨lo, hlo⟩ : ∃ x, mx re.f0 0 = x := ⟨_, rfl⟩; obtain ⟨hi', hhi⟩ : ∃ x, mn re.f1 55295 = x := ⟨_, rfl⟩
              have hcl : clipB 0 55295 re = if lo ≤ hi' then [⟨lo, hi'⟩] else [] := by unfold clipB; rw [hlo, hhi]
              have hlo_ : (if re.f0 < (0 : Int) then (0 : Int) else re.f0) = lo := hlo; have hhi_ : (if (55295 : Int) < re.f1 then (55295 : Int) else re.f1) = hi' := hhi; clear hlo hhi; have HOb := Aside0.mk (Kd.R_alloc HO.out (.cells #[.int .i32 0, .int .i32 55295] 41)); have HBb := Aside0.mk (below_alloc HB.out (.cells #[.int .i32 0, .int .i32 55295] 41)); have BKb := Aside0.mk (blk_alloc BK.out (.cells #[.int .i32 0, .int .i32 55295] 41)); have y0 : (wr.alloc (.cells #[.int .i32 0, .int .i32 55295] 41)).cell? ⟨wr.heap.size, 0, none⟩ = some (.int .i32 0) := (blk_cell (heap_alloc_new wr _) 0).trans rfl; have y1 : (wr.alloc (.cells #[.int .i32 0, .int .i32 55295] 41)).cell? ⟨wr.heap.size, 1, none⟩ = some (.int .i32 55295) := (blk_cell (heap_alloc_new wr _) 1).trans rfl; have x0 : (wr.alloc (.cells #[.int .i32 0, .int .i32 55295] 41)).cell? ⟨gr, 0, none⟩ = some (.int .i32 re.f0) := (below_alloc (Below.refl _ wr) _).cell (p := ⟨gr, 0, none⟩) (blk_lt BK.out) |>.trans ((blk_cell BK.out 0).trans rfl); have x1 : (wr.alloc (.cells #[.int .i32 0, .int .i32 55295] 41)).cell? ⟨gr, 1, none⟩ = some (.int .i32 re.f1) := (below_alloc (Below.refl _ wr) _).cell (p := ⟨gr, 1, none⟩) (blk_lt BK.out) |>.trans ((blk_cell BK.out 1).trans rfl); have hix := bandIx0
              by_cases hc : lo ≤ hi'
              · as_aux_lemma =>
                  have hcd : decide (lo ≤ hi') = true := decide_eq_true hc; rw [if_pos hc] at hcl; have HCL := Aside0.mk hcl; clear hc hcl
                  go_wp2
                  generalize wr.heap.size = gb at *
                  generalize hwb : wr.alloc (.cells #[.int .i32 0, .int .i32 55295] 41) = wb at *
                  clear HO HB BK hwb; have HO := HOb; have HB := HBb; have BK := BKb; clear HOb HBb BKb
                  go_quiet  (fail)
                  go_wp2_with (first | ((with_reducible refine gate_builtin (b := .append) (xs := #[.tmp 39, .tmp 43]) rfl ?_); at_builtin; refine Kd.R_append k41 (w0 := w) w.heap.size rfl (.tmp 39) (.tmp 43) 24 41 (.agg #[(.int .i32 0), (.int .i32 0)]) 8 rfl Tryz.underlying24 info41 rfl (by decide) (by omega) (.slice Ao ac.length co) ac (⟨lo, hi'⟩ : S41) [.int .i32 lo, .int .i32 hi'] (fun q => q ≠ gr) (fun _ => False) rfl rfl ?aP (fun _ hk => hk.elim) ?aF ?aO ?aB ?aS ?aL ?_; (case aP => exact k41_mkM _ _ _ (⟨lo, hi'⟩ : S41)); (case aB => exact (by repeat (first | (with_reducible first | exact HB.out | apply below_alloc | apply pw_below_drewN | apply below_drew1) | exact HB.out))); (case aF => exact (fun k_ hk => Kd.freshB (g := gr) (o := (.cells #[.int .i32 re.f0, .int .i32 re.f1] 41 (0, 0))) (by (with_reducible repeat (first | refine blk_drewN ?_ _ | refine blk_drew ?_ | refine blk_alloc ?_ _)); exact BK.out) k_ hk)); (case aO => exact (by (with_reducible repeat (first | apply Kd.R_alloc | apply Kd.R_drewN | apply Kd.R_drew)); exact HO.out)); (case aS => exact (below_size (by repeat (first | (with_reducible first | exact HB.out | apply below_alloc | apply pw_below_drewN | apply below_drew1) | exact HB.out)))); (case aL => have := HLC.out; have := HS.out; omega); intro v1 w1 ho hb hg hat; have BK2 := Aside0.mk (blk_grown (g := gr) (o := (.cells #[.int .i32 re.f0, .int .i32 re.f1] 41 (0, 0))) (by (with_reducible repeat (first | refine blk_drewN ?_ _ | refine blk_drew ?_ | refine blk_alloc ?_ _)); exact BK.out) hg (Kd.R_away HO.out (fun _ hk => hk))); have HB2 := Aside0.mk hb; have HO2 := Aside0.mk ho; clear ho hb hg hat))
                  go_roundw
                  case rel => exact ⟨1, ac ++ [⟨lo, hi'⟩], rfl, by omega, by omega, HO2, HB2, BK2, ⟨by rw [HAC.out, ← HCL.out]; simp [clipN]⟩, ⟨by have := HLC.out; simp; omega⟩⟩
                  case measure => simp [intOf]
              · as_aux_lemma =>
                  have hcd : decide (lo ≤ hi') = false := decide_eq_false hc; rw [if_neg hc] at hcl; have HCL := Aside0.mk hcl; clear hc hcl
                  go_wp2
                  generalize wr.heap.size = gb at *
                  generalize hwb : wr.alloc (.cells #[.int .i32 0, .int .i32 55295] 41) = wb at *
                  clear HO HB BK hwb; have HO := HOb; have HB := HBb; have BK := BKb; clear HOb HBb BKb
                  go_quiet  (fail)
                  go_wp2
                  go_roundw
                  case rel =>
                    refine ⟨1, ac, rfl, by omega, by omega, ⟨?_⟩, ⟨?_⟩, ⟨?_⟩, ⟨?_⟩, ⟨by have := HLC.out; omega⟩⟩
                    · (with_reducible repeat (first | apply Kd.R_alloc | apply Kd.R_drewN | apply Kd.R_drew)); exact HO.out
                    · repeat (first | (with_reducible first | exact HB.out | apply below_alloc | apply pw_below_drewN | apply below_drew1) | exact HB.out)
                    · (with_reducible repeat (first | refine blk_drewN ?_ _ | refine blk_drew ?_ | refine blk_alloc ?_ _)); exact BK.out
                    · rw [HAC.out]; simp [clipN, HCL.out]
                  case measure => simp [intOf]
          · as_aux_lemma =>
              obtain ⟨Ao, co, rfl⟩ := Kd.R_slice HO.out; obtain ⟨lo, hlo⟩ : ∃ x, mx re.f0 57344 = x := ⟨_, rfl⟩; obtain ⟨hi', hhi⟩ : ∃ x, mn re.f1 1114111 = x := ⟨_, rfl⟩
              have hcl : clipB 57344 1114111 re = if lo ≤ hi' then [⟨lo, hi'⟩] else [] := by unfold clipB; rw [hlo, hhi]
              have hlo_ : (if re.f0 < (57344 : Int) then (57344 : Int) else re.f0) = lo := hlo; have hhi_ : (if (1114111 : Int) < re.f1 then (1114111 : Int) else re.f1) = hi' := hhi; clear hlo hhi; have HOb := Aside0.mk (Kd.R_alloc HO.out (.cells #[.int .i32 57344, .int .i32 1114111] 41)); have HBb := Aside0.mk (below_alloc HB.out (.cells #[.int .i32 57344, .int .i32 1114111] 41)); have BKb := Aside0.mk (blk_alloc BK.out (.cells #[.int .i32 57344, .int .i32 1114111] 41)); have y0 : (wr.alloc (.cells #[.int .i32 57344, .int .i32 1114111] 41)).cell? ⟨wr.heap.size, 0, none⟩ = some (.int .i32 57344) := (blk_cell (heap_alloc_new wr _) 0).trans rfl; have y1 : (wr.alloc (.cells #[.int .i32 57344, .int .i32 1114111] 41)).cell? ⟨wr.heap.size, 1, none⟩ = some (.int .i32 1114111) := (blk_cell (heap_alloc_new wr _) 1).trans rfl; have x0 : (wr.alloc (.cells #[.int .i32 57344, .int .i32 1114111] 41)).cell? ⟨gr, 0, none⟩ = some (.int .i32 re.f0) := (below_alloc (Below.refl _ wr) _).cell (p := ⟨gr, 0, none⟩) (blk_lt BK.out) |>.trans ((blk_cell BK.out 0).trans rfl); have x1 : (wr.alloc (.cells #[.int .i32 57344, .int .i32 1114111] 41)).cell? ⟨gr, 1, none⟩ = some (.int .i32 re.f1) := (below_alloc (Below.refl _ wr) _).cell (p := ⟨gr, 1, none⟩) (blk_lt BK.out) |>.trans ((blk_cell BK.out 1).trans rfl); have hix := bandIx1
              by_cases hc : lo ≤ hi'
              · as_aux_lemma =>
                  have hcd : decide (lo ≤ hi') = true := decide_eq_true hc; rw [if_pos hc] at hcl; have HCL := Aside0.mk hcl; clear hc hcl
                  go_wp2
                  generalize wr.heap.size = gb at *
                  generalize hwb : wr.alloc (.cells #[.int .i32 57344, .int .i32 1114111] 41) = wb at *
                  clear HO HB BK hwb; have HO := HOb; have HB := HBb; have BK := BKb; clear HOb HBb BKb
                  go_quiet  (fail)
                  go_wp2_with (first | ((with_reducible refine gate_builtin (b := .append) (xs := #[.tmp 39, .tmp 43]) rfl ?_); at_builtin; refine Kd.R_append k41 (w0 := w) w.heap.size rfl (.tmp 39) (.tmp 43) 24 41 (.agg #[(.int .i32 0), (.int .i32 0)]) 8 rfl Tryz.underlying24 info41 rfl (by decide) (by omega) (.slice Ao ac.length co) ac (⟨lo, hi'⟩ : S41) [.int .i32 lo, .int .i32 hi'] (fun q => q ≠ gr) (fun _ => False) rfl rfl ?aP (fun _ hk => hk.elim) ?aF ?aO ?aB ?aS ?aL ?_; (case aP => exact k41_mkM _ _ _ (⟨lo, hi'⟩ : S41)); (case aB => exact (by repeat (first | (with_reducible first | exact HB.out | apply below_alloc | apply pw_below_drewN | apply below_drew1) | exact HB.out))); (case aF => exact (fun k_ hk => Kd.freshB (g := gr) (o := (.cells #[.int .i32 re.f0, .int .i32 re.f1] 41 (0, 0))) (by (with_reducible repeat (first | refine blk_drewN ?_ _ | refine blk_drew ?_ | refine blk_alloc ?_ _)); exact BK.out) k_ hk)); (case aO => exact (by (with_reducible repeat (first | apply Kd.R_alloc | apply Kd.R_drewN | apply Kd.R_drew)); exact HO.out)); (case aS => exact (below_size (by repeat (first | (with_reducible first | exact HB.out | apply below_alloc | apply pw_below_drewN | apply below_drew1) | exact HB.out)))); (case aL => have := HLC.out; have := HS.out; omega); intro v1 w1 ho hb hg hat; have BK2 := Aside0.mk (blk_grown (g := gr) (o := (.cells #[.int .i32 re.f0, .int .i32 re.f1] 41 (0, 0))) (by (with_reducible repeat (first | refine blk_drewN ?_ _ | refine blk_drew ?_ | refine blk_alloc ?_ _)); exact BK.out) hg (Kd.R_away HO.out (fun _ hk => hk))); have HB2 := Aside0.mk hb; have HO2 := Aside0.mk ho; clear ho hb hg hat))
                  go_roundw
                  case rel => exact ⟨2, ac ++ [⟨lo, hi'⟩], rfl, by omega, by omega, HO2, HB2, BK2, ⟨by rw [HAC.out, ← HCL.out]; simp [clipN]⟩, ⟨by have := HLC.out; simp; omega⟩⟩
                  case measure => simp [intOf]
              · as_aux_lemma =>
                  have hcd : decide (lo ≤ hi') = false := decide_eq_false hc; rw [if_neg hc] at hcl; have HCL := Aside0.mk hcl; clear hc hcl
                  go_wp2
                  generalize wr.heap.size = gb at *
                  generalize hwb : wr.alloc (.cells #[.int .i32 57344, .int .i32 1114111] 41) = wb at *
                  clear HO HB BK hwb; have HO := HOb; have HB := HBb; have BK := BKb; clear HOb HBb BKb
                  go_quiet  (fail)
                  go_wp2
                  go_roundw
                  case rel =>
                    refine ⟨2, ac, rfl, by omega, by omega, ⟨?_⟩, ⟨?_⟩, ⟨?_⟩, ⟨?_⟩, ⟨by have := HLC.out; omega⟩⟩
                    · (with_reducible repeat (first | apply Kd.R_alloc | apply Kd.R_drewN | apply Kd.R_drew)); exact HO.out
                    · repeat (first | (with_reducible first | exact HB.out | apply below_alloc | apply pw_below_drewN | apply below_drew1) | exact HB.out)
                    · (with_reducible repeat (first | refine blk_drewN ?_ _ | refine blk_drew ?_ | refine blk_alloc ?_ _)); exact BK.out
                    · rw [HAC.out]; simp [clipN, HCL.out]
                  case measure => simp [intOf]
          · as_aux_lemma =>
              obtain ⟨Ao, co, rfl⟩ := Kd.R_slice HO.out; obtain ⟨lo, hlo⟩ : ∃ x, mx re.f0 1114240 = x := ⟨_, rfl⟩; obtain ⟨hi', hhi⟩ : ∃ x, mn re.f1 1114367 = x := ⟨_, rfl⟩
              have hcl : clipB 1114240 1114367 re = if lo ≤ hi' then [⟨lo, hi'⟩] else [] := by unfold clipB; rw [hlo, hhi]
              have hlo_ : (if re.f0 < (1114240 : Int) then (1114240 : Int) else re.f0) = lo := hlo; have hhi_ : (if (1114367 : Int) < re.f1 then (1114367 : Int) else re.f1) = hi' := hhi; clear hlo hhi; have HOb := Aside0.mk (Kd.R_alloc HO.out (.cells #[.int .i32 1114240, .int .i32 1114367] 41)); have HBb := Aside0.mk (below_alloc HB.out (.cells #[.int .i32 1114240, .int .i32 1114367] 41)); have BKb := Aside0.mk (blk_alloc BK.out (.cells #[.int .i32 1114240, .int .i32 1114367] 41)); have y0 : (wr.alloc (.cells #[.int .i32 1114240, .int .i32 1114367] 41)).cell? ⟨wr.heap.size, 0, none⟩ = some (.int .i32 1114240) := (blk_cell (heap_alloc_new wr _) 0).trans rfl; have y1 : (wr.alloc (.cells #[.int .i32 1114240, .int .i32 1114367] 41)).cell? ⟨wr.heap.size, 1, none⟩ = some (.int .i32 1114367) := (blk_cell (heap_alloc_new wr _) 1).trans rfl; have x0 : (wr.alloc (.cells #[.int .i32 1114240, .int .i32 1114367] 41)).cell? ⟨gr, 0, none⟩ = some (.int .i32 re.f0) := (below_alloc (Below.refl _ wr) _).cell (p := ⟨gr, 0, none⟩) (blk_lt BK.out) |>.trans ((blk_cell BK.out 0).trans rfl); have x1 : (wr.alloc (.cells #[.int .i32 1114240, .int .i32 1114367] 41)).cell? ⟨gr, 1, none⟩ = some (.int .i32 re.f1) := (below_alloc (Below.refl _ wr) _).cell (p := ⟨gr, 1, none⟩) (blk_lt BK.out) |>.trans ((blk_cell BK.out 1).trans rfl); have hix := bandIx2
              by_cases hc : lo ≤ hi'
              · as_aux_lemma =>
                  have hcd : decide (lo ≤ hi') = true := decide_eq_true hc; rw [if_pos hc] at hcl; have HCL := Aside0.mk hcl; clear hc hcl
                  go_wp2
                  generalize wr.heap.size = gb at *
                  generalize hwb : wr.alloc (.cells #[.int .i32 1114240, .int .i32 1114367] 41) = wb at *
                  clear HO HB BK hwb; have HO := HOb; have HB := HBb; have BK := BKb; clear HOb HBb BKb
                  go_quiet  (fail)
                  go_wp2_with (first | ((with_reducible refine gate_builtin (b := .append) (xs := #[.tmp 39, .tmp 43]) rfl ?_); at_builtin; refine Kd.R_append k41 (w0 := w) w.heap.size rfl (.tmp 39) (.tmp 43) 24 41 (.agg #[(.int .i32 0), (.int .i32 0)]) 8 rfl Tryz.underlying24 info41 rfl (by decide) (by omega) (.slice Ao ac.length co) ac (⟨lo, hi'⟩ : S41) [.int .i32 lo, .int .i32 hi'] (fun q => q ≠ gr) (fun _ => False) rfl rfl ?aP (fun _ hk => hk.elim) ?aF ?aO ?aB ?aS ?aL ?_; (case aP => exact k41_mkM _ _ _ (⟨lo, hi'⟩ : S41)); (case aB => exact (by repeat (first | (with_reducible first | exact HB.out | apply below_alloc | apply pw_below_drewN | apply below_drew1) | exact HB.out))); (case aF => exact (fun k_ hk => Kd.freshB (g := gr) (o := (.cells #[.int .i32 re.f0, .int .i32 re.f1] 41 (0, 0))) (by (with_reducible repeat (first | refine blk_drewN ?_ _ | refine blk_drew ?_ | refine blk_alloc ?_ _)); exact BK.out) k_ hk)); (case aO => exact (by (with_reducible repeat (first | apply Kd.R_alloc | apply Kd.R_drewN | apply Kd.R_drew)); exact HO.out)); (case aS => exact (below_size (by repeat (first | (with_reducible first | exact HB.out | apply below_alloc | apply pw_below_drewN | apply below_drew1) | exact HB.out)))); (case aL => have := HLC.out; have := HS.out; omega); intro v1 w1 ho hb hg hat; have BK2 := Aside0.mk (blk_grown (g := gr) (o := (.cells #[.int .i32 re.f0, .int .i32 re.f1] 41 (0, 0))) (by (with_reducible repeat (first | refine blk_drewN ?_ _ | refine blk_drew ?_ | refine blk_alloc ?_ _)); exact BK.out) hg (Kd.R_away HO.out (fun _ hk => hk))); have HB2 := Aside0.mk hb; have HO2 := Aside0.mk ho; clear ho hb hg hat))
                  go_roundw
                  case rel => exact ⟨3, ac ++ [⟨lo, hi'⟩], rfl, by omega, by omega, HO2, HB2, BK2, ⟨by rw [HAC.out, ← HCL.out]; simp [clipN]⟩, ⟨by have := HLC.out; simp; omega⟩⟩
                  case measure => simp [intOf]
              · as_aux_lemma =>
                  have hcd : decide (lo ≤ hi') = false := decide_eq_false hc; rw [if_neg hc] at hcl; have HCL := Aside0.mk hcl; clear hc hcl
                  go_wp2
                  generalize wr.heap.size = gb at *
                  generalize hwb : wr.alloc (.cells #[.int .i32 1114240, .int .i32 1114367] 41) = wb at *
                  clear HO HB BK hwb; have HO := HOb; have HB := HBb; have BK := BKb; clear HOb HBb BKb
                  go_quiet  (fail)
                  go_wp2
                  go_roundw
                  case rel =>
                    refine ⟨3, ac, rfl, by omega, by omega, ⟨?_⟩, ⟨?_⟩, ⟨?_⟩, ⟨?_⟩, ⟨by have := HLC.out; omega⟩⟩
                    · (with_reducible repeat (first | apply Kd.R_alloc | apply Kd.R_drewN | apply Kd.R_drew)); exact HO.out
                    · repeat (first | (with_reducible first | exact HB.out | apply below_alloc | apply pw_below_drewN | apply below_drew1) | exact HB.out)
                    · (with_reducible repeat (first | refine blk_drewN ?_ _ | refine blk_drew ?_ | refine blk_alloc ?_ _)); exact BK.out
                    · rw [HAC.out]; simp [clipN, HCL.out]
                  case measure => simp [intOf]
          · as_aux_lemma =>
              have hlt : i < l0.length := of_decide_eq_true hd1
              have hget : l0[i]? = some re := by
                have h := HRE.out; unfold rd_T41 at h; rw [h, Int.toNat_natCast, List.getD_eq_getElem?_getD, List.getElem?_eq_getElem hlt]; rfl
              have HGET := Aside0.mk hget; clear hget hlt
              go_wp2
              go_roundw
              case rel => as_aux_lemma =>
                have hlt : i < l0.length := (List.getElem?_eq_some_iff.1 HGET.out).1; have hs := HS.out; refine ⟨i + 1, ac, by rw [clipWrap i (by omega)], by omega, ⟨Kd.R_mono HO.out (fun _ _ => trivial)⟩, HB, ⟨?_⟩, ⟨?_⟩, ⟨by have := HLC.out; omega⟩⟩
                · as_aux_lemma => rw [List.take_add_one, HGET.out, HAC.out, HA.out]; simp [clipN, clips]
                · as_aux_lemma => rw [List.take_add_one, HGET.out]; simp [HGo.out]; simpa using HALL.out
              case measure => as_aux_lemma =>
                have hlt : i < l0.length := (List.getElem?_eq_some_iff.1 HGET.out).1; have hs := HS.out; have e := clipWrap i (by omega); clear hs HS
                generalize wrap64 ((i : Int) + 1) = j at e ⊢
                subst e; simp only [intOf, Int.toNat_natCast]; omega
      · as_aux_lemma =>
          have hd2 : decide (re.f0 > re.f1) = true := decide_eq_true (by omega); have hlt : i < l0.length := of_decide_eq_true hd1
          have hre : re = l0[i] := by
            have h := HRE.out; unfold rd_T41 at h; rw [h, Int.toNat_natCast, List.getD_eq_getElem?_getD, List.getElem?_eq_getElem hlt]; rfl
          have hall : ¬ (l0.all (fun r => decide (r.f0 ≤ r.f1)) = true) := fun h => hbad (by
            have := List.all_eq_true.1 h re (by rw [hre]; exact List.getElem_mem hlt)
            simpa using this)
          have h := HH.out; rw [if_neg hall] at h; injection h with h; injection h with h1 h2; subst h1; subst h2; have HB1 := Aside0.mk (below_alloc HB.out (.cells #[.int .i32 re.f0, .int .i32 re.f1] 41)); clear hbad hall hre hlt
          go_wp2
          go_ret2; exact ⟨_, rfl, Kd.R_nil _ _ _ _ _, HB1.out⟩
    · as_aux_lemma =>
        have hd1 : decide (i < l0.length) = false := decide_eq_false hlt
        have hil : i = l0.length := by omega
        have hall : l0.all (fun r => decide (r.f0 ≤ r.f1)) = true := by have := HALL.out; rwa [hil, List.take_length] at this
        have hacc : acc = l0.flatMap clips := by have := HA.out; rwa [hil, List.take_length] at this
        have h := HH.out; rw [if_pos hall, ← hacc] at h; obtain ⟨g, hg, h⟩ := Option.bind_eq_some_iff.1 h; injection h with h; injection h with h1 h2; subst h1; subst h2; have HGA := Aside0.mk hg; have HOP := Aside0.mk (Kd.R_mono (Kd.R_bound HO.out) (fun q hq => hq.2.1) : Kd.R k41 41 wr w.heap.size (fun q => w.heap.size ≤ q) _ acc); clear hall hacc hg HA HALL
        go_wp2_with (go_at_call 45; refine (sets_gather.calls k (fun q => w.heap.size ≤ q) _ acc g w _ HB.out HOP.out HGA.out).mono ?_; rintro e w1 ⟨v0, rfl, hR, hb, _⟩; have HR1 := Aside0.mk hR; have HB1 := Aside0.mk hb; clear hR hb)
        go_ret2; exact ⟨_, rfl, Kd.R_mono HR1.out (fun _ _ => trivial), HB1.out⟩
def sets_check.l0 : Nat → List (List (S41)) → Int → Int → Option (Int)
 | 0, _, _, _ => none
 | k + 1, x5, x6, x7 => if x7 < x6 then (if 0 ≤ x7 then (if x7 < (x5.length : Int) then ((sets_Check.f k (rd_L4 x5 x7)).bind fun t128 => (if t128 = 0 then (sets_check.l0 k x5 x6 (wrap64 (x7 + 1))) else (some 1))) else (none)) else (none)) else (some 0)
def sets_check.f (k : Nat) (l0 : List (List (S41))) : Option (Int) := sets_check.l0 k l0 (l0.length : Int) 0
theorem sets_check.mono_l : ∀ k, (∀ y0 y1 y2, LeO (sets_check.l0 k y0 y1 y2) (sets_check.l0 (k + 1) y0 y1 y2))
 | 0 => fun _ _ _ r h => by simp [sets_check.l0] at h
 | k + 1 => by
  have ih0 := sets_check.mono_l k
  ·
   intro y0 y1 y2; unfold sets_check.l0
   repeat' first
   | (with_reducible exact ih0 _ _ _)
   | (with_reducible exact sets_Check.mono _ _)
   | (with_reducible exact LeO.refl _)
   | (with_reducible exact LeO.none _)
   | (with_reducible refine LeO.ite ?_ ?_)
   | (with_reducible refine LeO.bind ?_ (fun _ => ?_))
theorem sets_check.mono : ∀ a0 k, LeO (sets_check.f k a0) (sets_check.f (k + 1) a0) := by
 intro a0 k; have ih0 := sets_check.mono_l k; unfold sets_check.f
 repeat' first
   | (with_reducible exact ih0 _ _ _)
   | (with_reducible exact sets_Check.mono _ _)
   | (with_reducible exact LeO.refl _)
   | (with_reducible exact LeO.none _)
   | (with_reducible refine LeO.ite ?_ ?_)
   | (with_reducible refine LeO.bind ?_ (fun _ => ?_))
set_option maxHeartbeats 8000000 in
set_option maxRecDepth 100000 in
theorem sets_check.calls (k : Nat) (A0 : Option Addr) (c0 : Nat) (l0 : List (List (S41))) (r : Int) (w : World) (hr0 : Kd.C (Kd.slice 41 k41) w A0 l0.length l0) (hc0 : l0.length ≤ c0) (hG : Glob w) (h : sets_check.f k l0 = some r) :
  Calls Tryz.prog 51 #[.slice A0 l0.length c0] w fun e w' => e = .returned (.int .i64 r) ∧ Below w.heap.size w w' := by
 have HR0 := Aside0.mk hr0; have HC0 := Aside0.mk hc0; clear hr0 hc0; have HB : BelC w w := bc0; have H : (sets_check.l0 k l0 (l0.length : Int) 0) = some r := h; clear h; have H' := Aside0.mk H; clear H; go_enter Tryz.func51, Tryz.ntmps51
 go_wp2
 go_loopg [7] k (fun kq v7 w' => ∃ (x7_1 : Int), v7 = .int .i64 x7_1 ∧ Aside0 (sets_check.l0 kq l0 (l0.length : Int) x7_1 = some r) ∧ Aside0 (kq ≤ k) ∧ BelC w w')
 case atStart => exact ⟨(0), (by first | rfl | (simp; done) | (simp [*]; done)), H', ⟨Nat.le_refl _⟩, ⟨bw⟩⟩
 case round =>
  clear H'; obtain ⟨x7_1, rfl, HA, HK1, HB⟩ := hrel
  cases gk with
  | zero => exact absurd HA.out (by simp [sets_check.l0])
  | succ k1 =>
   have H := HA.out; clear HA; simp only [sets_check.l0] at H
   by_cases c2 : x7_1 < (l0.length : Int)
   ·
    rw [if_pos c2] at H; have c2b0 : decide (x7_1 < (l0.length : Int)) = true := decide_eq_true c2; clear c2
    by_cases c3 : 0 ≤ x7_1
    ·
     rw [if_pos c3] at H; have c3b0 : decide (0 ≤ x7_1) = true := decide_eq_true c3; clear c3
     by_cases c4 : x7_1 < (l0.length : Int)
     ·
      rw [if_pos c4] at H; have c4b0 : decide (x7_1 < (l0.length : Int)) = true := decide_eq_true c4; clear c4; replace H := Option.bind_eq_some_iff.mp H; obtain ⟨t128, A50, H⟩ := H; replace H : (if t128 = 0 then (sets_check.l0 k1 l0 (l0.length : Int) (wrap64 (x7_1 + 1))) else (some 1)) = some r := H; have A5 := Aside0.mk A50; clear A50
      by_cases c6 : t128 = 0
      ·
       rw [if_pos c6] at H; have c6b0 : (t128 == 0) = true := beq_iff_eq.mpr c6; have c6b1 : (t128 != 0) = false := bne_eq_false_iff_eq.mpr c6; clear c6; have H' := Aside0.mk H; clear H; have p127 : 0 ≤ (x7_1 : Int) := od (by assumption); have q127 : x7_1 < (l0.length : Int) := od (by assumption); obtain ⟨ad127, A127_0, c127_0, e127, hx127_0, hl127_0, hi127_0⟩ := at_L4 HR0.out x7_1 p127 q127
       cases e127
       replace hx127_0 := (HB.out.cell (World.block_lt_of_cell? w _ hx127_0)).trans hx127_0; have HR127_0 := Aside0.mk hi127_0; have HC127_0 := Aside0.mk hl127_0; clear hi127_0 hl127_0; replace p127 := eq_true p127; replace q127 := eq_true q127
       go_wp2_with (first | ((with_reducible refine gate_callee (f := 24) rfl ?_); refine goesL_ (some 12) rfl rfl Tryz.func24 (by kernel_rfl) rfl #[.slice A127_0 (rd_L4 l0 x7_1).length c127_0] rfl (by (try simp only [List.map_toArray, List.map_cons, List.map_nil]); first | done | rfl | (simp only [List.length_drop, List.length_take]; rfl)) ?_; (with_reducible refine (sets_Check.calls k1 _ _ (rd_L4 l0 x7_1) t128 _ ?side1 ?side2 ?side3 A5.out).mono ?_); (case side1 => exact cl (Kd.C_below HR127_0.out HB.out)); (case side2 => exact HC127_0.out); (case side3 => first | exact hG | exact Glob.of_below hG bw | exact Glob.of_below hG HB.out | exact Glob.drewN hG _ | exact Glob.drew hG | (with_reducible repeat (first | exact hG | apply Glob.drewN | apply Glob.drew | apply Glob.alloc))); rintro e w7 ⟨rfl, hb⟩; refine ⟨_, rfl, ?_⟩; replace HB : BelC w _ := bs hb; (try clear hb); (try clear hb2); (try clear hk); (try clear hi)))
       go_roundg k1
       case measure => have := HK1.out; omega
       case rel => exact ⟨(wrap64 (x7_1 + 1)), (by first | rfl | (simp; done) | (simp [*]; done)), H', ⟨by have := HK1.out; omega⟩, ⟨bw⟩⟩
      ·
       rw [if_neg c6] at H; have c6b0 : (t128 == 0) = false := beq_eq_false_iff_ne.mpr c6; have c6b1 : (t128 != 0) = true := bne_iff_ne.mpr c6; obtain rfl := Option.some.inj H; have p127 : 0 ≤ (x7_1 : Int) := od (by assumption); have q127 : x7_1 < (l0.length : Int) := od (by assumption); obtain ⟨ad127, A127_0, c127_0, e127, hx127_0, hl127_0, hi127_0⟩ := at_L4 HR0.out x7_1 p127 q127
       cases e127
       replace hx127_0 := (HB.out.cell (World.block_lt_of_cell? w _ hx127_0)).trans hx127_0; have HR127_0 := Aside0.mk hi127_0; have HC127_0 := Aside0.mk hl127_0; clear hi127_0 hl127_0; replace p127 := eq_true p127; replace q127 := eq_true q127
       go_wp2_with (first | ((with_reducible refine gate_callee (f := 24) rfl ?_); refine goesL_ (some 12) rfl rfl Tryz.func24 (by kernel_rfl) rfl #[.slice A127_0 (rd_L4 l0 x7_1).length c127_0] rfl (by (try simp only [List.map_toArray, List.map_cons, List.map_nil]); first | done | rfl | (simp only [List.length_drop, List.length_take]; rfl)) ?_; (with_reducible refine (sets_Check.calls k1 _ _ (rd_L4 l0 x7_1) t128 _ ?side1 ?side2 ?side3 A5.out).mono ?_); (case side1 => exact cl (Kd.C_below HR127_0.out HB.out)); (case side2 => exact HC127_0.out); (case side3 => first | exact hG | exact Glob.of_below hG bw | exact Glob.of_below hG HB.out | exact Glob.drewN hG _ | exact Glob.drew hG | (with_reducible repeat (first | exact hG | apply Glob.drewN | apply Glob.drew | apply Glob.alloc))); rintro e w8 ⟨rfl, hb⟩; refine ⟨_, rfl, ?_⟩; replace HB : BelC w _ := bs hb; (try clear hb); (try clear hb2); (try clear hk); (try clear hi)))
       go_ret; exact ⟨by first | rfl | (simp [errW_none, errW_some] <;> rfl) | (simp [*, errW_none, errW_some] <;> rfl), bw⟩
     ·
      rw [if_neg c4] at H; exact absurd H (by simp)
    ·
     rw [if_neg c3] at H; exact absurd H (by simp)
   ·
    rw [if_neg c2] at H; have c2b0 : decide (x7_1 < (l0.length : Int)) = false := decide_eq_false c2; clear c2; obtain rfl := Option.some.inj H
    go_wp2
    go_ret; exact ⟨by first | rfl | (simp [errW_none, errW_some] <;> rfl) | (simp [*, errW_none, errW_some] <;> rfl), bw⟩
end Go.Proofs.YtoggmegpodmfnaaGreatDoor.PS
