/- Contracts of functions that the law reaches: what each call answers, as a plain function of what it reads; on condition that the function answers there. Printed by this session's own tool. -/
import Derived.Test.YtoggmegpodmfnaaDoorPTx0
import Derived.Test.YtoggmegpodmfnaaDoorPTx1
namespace Go.Proofs.YtoggmegpodmfnaaDoor.PT
open Go.RowKit Go.Proofs.YtoggmegpodmfnaaDoor.B Go.Proofs.YtoggmegpodmfnaaDoorW.PrintWords Go.Proofs.YtoggmegpodmfnaaDoorW.PrintLast Go.Proofs.YtoggmegpodmfnaaDoorW.PrintMore
attribute [local go_sem] max2_int min2_int max_two min_two max_three min_three max_four min_four   -- for this text's walks alone
set_option linter.unusedVariables false
set_option linter.unusedSimpArgs false

/-! ### sets_Make: function 9 -/
/-- What lies in one band of a range. -/
def clipB (lo hi : Int) (r : S29) : List S29 := if mx r.f0 lo ≤ mn r.f1 hi then [⟨mx r.f0 lo, mn r.f1 hi⟩] else []
def clips (r : S29) : List S29 := clipB 0 55295 r ++ clipB 57344 1114111 r ++ clipB 1114240 1114367 r
def clipN (k : Nat) (r : S29) : List S29 := (if 1 ≤ k then clipB 0 55295 r else []) ++ (if 2 ≤ k then clipB 57344 1114111 r else []) ++ (if 3 ≤ k then clipB 1114240 1114367 r else [])
theorem clipWrap (i : Nat) (h : i ≤ 1073741824) : wrap64 ((i : Int) + 1) = ((i + 1 : Nat) : Int) := by unfold wrap64; omega
theorem clipB_length (lo hi : Int) (r : S29) : (clipB lo hi r).length ≤ 1 := by unfold clipB; split <;> simp
def sets_Make.f (k : Nat) (l0 : List S29) : Option (List S29 × Int) :=
  if l0.length ≤ 1073741824 then (if l0.all (fun r => decide (r.f0 ≤ r.f1)) = true then (sets_gather.f k (l0.flatMap clips)).bind fun g => some (g, 0) else some ([], 2)) else none
theorem sets_Make.mono : ∀ a0 k, LeO (sets_Make.f k a0) (sets_Make.f (k + 1) a0) := by
  intro a0 k
  unfold sets_Make.f
  refine LeO.ite (LeO.ite (LeO.bind (sets_gather.mono _ _) (fun _ => LeO.refl _)) (LeO.refl _)) (LeO.none _)
set_option maxHeartbeats 4000000 in
set_option maxRecDepth 100000 in
theorem sets_Make.calls (k : Nat) (A0 : Option Addr) (c0 : Nat) (l0 : List S29) (r1 : List S29) (r2 : Int) (w : World) (hr0 : Kd.C k29 w A0 l0.length l0) (hc0 : l0.length ≤ c0) (hG : Glob w) (h : sets_Make.f k l0 = some (r1, r2)) :
    Calls Tryd.prog 9 #[.slice A0 l0.length c0] w fun e w' => ∃ v0_ : Value, e = .returned (.tuple #[v0_, .int .i64 r2]) ∧ Kd.R k29 29 w' w.heap.size (fun _ => True) v0_ r1 ∧ Below w.heap.size w w' := by
  unfold sets_Make.f at h
  by_cases hs : l0.length ≤ 1073741824
  case neg => rw [if_neg hs] at h; exact absurd h (by simp)
  rw [if_pos hs] at h
  have HR0 := Aside0.mk hr0
  have HG := Aside0.mk hG
  have HH := Aside0.mk h
  have HS := Aside0.mk hs
  clear hr0 hG h hs
  go_enter Tryd.func9, Tryd.ntmps9
  go_wp2
  go_loopw [13, 4] (fun vi vin wr => ∃ (i : Nat) (acc : List S29), vi = .int .i64 (i : Int) ∧ i ≤ l0.length ∧ Aside0 (Kd.R k29 29 wr w.heap.size (fun _ => True) vin acc) ∧ Aside0 (Below w.heap.size w wr) ∧ Aside0 (acc = (l0.take i).flatMap clips) ∧ Aside0 ((l0.take i).all (fun r => decide (r.f0 ≤ r.f1)) = true) ∧ Aside0 (acc.length ≤ 3 * i)) (fun vi _ _ => l0.length - (intOf vi).toNat)
  case atStart => exact ⟨0, [], rfl, by omega, ⟨Kd.R_nil _ _ _ _ _⟩, ⟨Below.refl _ w⟩, ⟨by simp⟩, ⟨by simp⟩, ⟨by simp⟩⟩
  case round =>
    obtain ⟨i, acc, rfl, hi, HO, HB, HA, HALL, HL⟩ := hrel
    by_cases hlt : i < l0.length
    · have hd1 : decide (i < l0.length) = true := decide_eq_true hlt
      obtain ⟨ad, e, hx0, hx1⟩ := at_T29 HR0.out (i : Int) (by omega) (by omega)
      cases e
      replace hx0 := (HB.out.cell (World.block_lt_of_cell? w _ hx0)).trans hx0
      replace hx1 := (HB.out.cell (World.block_lt_of_cell? w _ hx1)).trans hx1
      obtain ⟨re, hre⟩ : ∃ x, x = rd_T29 l0 (i : Int) := ⟨_, rfl⟩
      rw [← hre] at hx0 hx1
      have HRE := Aside0.mk hre
      clear hre hlt
      simp only [Int.toNat_natCast] at hx0 hx1
      have hp := eq_true (show (0 : Int) ≤ (i : Int) by omega)
      have hq := eq_true (show (i : Int) < (l0.length : Int) from Int.ofNat_lt.2 (of_decide_eq_true hd1))
      have HGr := Aside0.mk (HG.out.of_below HB.out)
      by_cases hbad : re.f0 ≤ re.f1
      · have hd2 : decide (re.f0 > re.f1) = false := decide_eq_false (by omega)
        have HGo := Aside0.mk hbad
        clear hbad
        have HGa := Aside0.mk (HGr.out.alloc (.cells #[.int .i32 re.f0, .int .i32 re.f1] 29))
        have c0 := HGa.out 0 (by omega)
        have c1 := HGa.out 1 (by omega)
        have c2 := HGa.out 2 (by omega)
        have c3 := HGa.out 3 (by omega)
        have c4 := HGa.out 4 (by omega)
        have c5 := HGa.out 5 (by omega)
        simp only [bandCells, List.getD_cons_zero, List.getD_cons_succ] at c0 c1 c2 c3 c4 c5
        go_wp2
        have BKr := Aside0.mk (show (wr.alloc (.cells #[.int .i32 re.f0, .int .i32 re.f1] 29)).heap[wr.heap.size]? = some (.cells #[.int .i32 re.f0, .int .i32 re.f1] 29 (0, 0)) by simpa using heap_alloc_new wr _)
        have HBa := Aside0.mk (below_alloc HB.out (.cells #[.int .i32 re.f0, .int .i32 re.f1] 29))
        have HOa := Aside0.mk (Kd.R_mono (Kd.R_bound (Kd.R_alloc HO.out (.cells #[.int .i32 re.f0, .int .i32 re.f1] 29))) (fun q hq => trivial) : Kd.R _ _ _ _ (fun _ => True) _ _)
        have HOb := Aside0.mk (Kd.R_alloc (Kd.R_elderB HO.out wr.heap.size (Nat.le_refl _)) (.cells #[.int .i32 re.f0, .int .i32 re.f1] 29))
        have HGE := Aside0.mk (below_size HB.out)
        generalize wr.heap.size = gr at *
        generalize hwa : (wr.alloc (.cells #[.int .i32 re.f0, .int .i32 re.f1] 29)) = wa at *
        clear c0 c1 c2 c3 c4 c5 hx0 hx1 HB HO HOa HGr hwa
        go_loopw [23, 4] (fun vk vin wi => ∃ (k : Int) (ac : List S29), vk = .int .i64 k ∧ 0 ≤ k ∧ k ≤ 3 ∧ Aside0 (Kd.R k29 29 wi w.heap.size (fun q => q ≠ gr) vin ac) ∧ Aside0 (Below w.heap.size w wi) ∧ Aside0 (wi.heap[gr]? = some (.cells #[.int .i32 re.f0, .int .i32 re.f1] 29 (0, 0))) ∧ Aside0 (ac = acc ++ clipN k.toNat re) ∧ Aside0 ((ac.length : Int) ≤ 3 * i + k)) (fun vk _ _ => 3 - (intOf vk).toNat)
        case atStart => exact ⟨0, acc, rfl, by omega, by omega, ⟨Kd.R_mono HOb.out (fun q hq => hq.2)⟩, HBa, BKr, ⟨by simp [clipN]⟩, ⟨by have := HL.out; omega⟩⟩
        case round =>
          obtain ⟨k, ac, rfl, hk0, hk, HO, HB, BK, HAC, HLC⟩ := hrel
          rcases (show k = 0 ∨ k = 1 ∨ k = 2 ∨ k = 3 by omega) with rfl | rfl | rfl | rfl
          · as_aux_lemma =>
              obtain ⟨Ao, co, rfl⟩ := Kd.R_slice HO.out
              obtain ⟨lo, hlo⟩ : ∃ x, mx re.f0 0 = x := ⟨_, rfl⟩
              obtain ⟨hi', hhi⟩ : ∃ x, mn re.f1 55295 = x := ⟨_, rfl⟩
              have hcl : clipB 0 55295 re = if lo ≤ hi' then [⟨lo, hi'⟩] else [] := by unfold clipB; rw [hlo, hhi]
              have hlo_ : (if re.f0 < (0 : Int) then (0 : Int) else re.f0) = lo := hlo
              have hhi_ : (if (55295 : Int) < re.f1 then (55295 : Int) else re.f1) = hi' := hhi
              clear hlo hhi
              have HOb := Aside0.mk (Kd.R_alloc HO.out (.cells #[.int .i32 0, .int .i32 55295] 29))
              have HBb := Aside0.mk (below_alloc HB.out (.cells #[.int .i32 0, .int .i32 55295] 29))
              have BKb := Aside0.mk (blk_alloc BK.out (.cells #[.int .i32 0, .int .i32 55295] 29))
              have y0 : (wr.alloc (.cells #[.int .i32 0, .int .i32 55295] 29)).cell? ⟨wr.heap.size, 0, none⟩ = some (.int .i32 0) := (blk_cell (heap_alloc_new wr _) 0).trans rfl
              have y1 : (wr.alloc (.cells #[.int .i32 0, .int .i32 55295] 29)).cell? ⟨wr.heap.size, 1, none⟩ = some (.int .i32 55295) := (blk_cell (heap_alloc_new wr _) 1).trans rfl
              have x0 : (wr.alloc (.cells #[.int .i32 0, .int .i32 55295] 29)).cell? ⟨gr, 0, none⟩ = some (.int .i32 re.f0) := (below_alloc (Below.refl _ wr) _).cell (p := ⟨gr, 0, none⟩) (blk_lt BK.out) |>.trans ((blk_cell BK.out 0).trans rfl)
              have x1 : (wr.alloc (.cells #[.int .i32 0, .int .i32 55295] 29)).cell? ⟨gr, 1, none⟩ = some (.int .i32 re.f1) := (below_alloc (Below.refl _ wr) _).cell (p := ⟨gr, 1, none⟩) (blk_lt BK.out) |>.trans ((blk_cell BK.out 1).trans rfl)
              have hix := bandIx0
              by_cases hc : lo ≤ hi'
              · as_aux_lemma =>
                  have hcd : decide (lo ≤ hi') = true := decide_eq_true hc
                  rw [if_pos hc] at hcl
                  have HCL := Aside0.mk hcl
                  clear hc hcl
                  go_wp2
                  generalize wr.heap.size = gb at *
                  generalize hwb : wr.alloc (.cells #[.int .i32 0, .int .i32 55295] 29) = wb at *
                  clear HO HB BK hwb
                  have HO := HOb
                  have HB := HBb
                  have BK := BKb
                  clear HOb HBb BKb
                  go_quiet  (fail)
                  go_wp2_with (first | ((with_reducible refine gate_builtin (b := .append) (xs := #[.tmp 39, .tmp 43]) rfl ?_); at_builtin; refine Kd.R_append k29 (w0 := w) w.heap.size rfl (.tmp 39) (.tmp 43) 22 29 (.agg #[(.int .i32 0), (.int .i32 0)]) 8 rfl Tryd.underlying22 info29 rfl (by decide) (by omega) (.slice Ao ac.length co) ac (⟨lo, hi'⟩ : S29) [.int .i32 lo, .int .i32 hi'] (fun q => q ≠ gr) (fun _ => False) rfl rfl ?aP (fun _ hk => hk.elim) ?aF ?aO ?aB ?aS ?aL ?_; (case aP => exact k29_mkM _ _ _ (⟨lo, hi'⟩ : S29)); (case aB => exact (by repeat (first | (with_reducible first | exact HB.out | apply below_alloc | apply pw_below_drewN | apply below_drew1) | exact HB.out))); (case aF => exact (fun k_ hk => Kd.freshB (g := gr) (o := (.cells #[.int .i32 re.f0, .int .i32 re.f1] 29 (0, 0))) (by (with_reducible repeat (first | refine blk_drewN ?_ _ | refine blk_drew ?_ | refine blk_alloc ?_ _)); exact BK.out) k_ hk)); (case aO => exact (by (with_reducible repeat (first | apply Kd.R_alloc | apply Kd.R_drewN | apply Kd.R_drew)); exact HO.out)); (case aS => exact (below_size (by repeat (first | (with_reducible first | exact HB.out | apply below_alloc | apply pw_below_drewN | apply below_drew1) | exact HB.out)))); (case aL => have := HLC.out; have := HS.out; omega); intro v1 w1 ho hb hg hat; have BK2 := Aside0.mk (blk_grown (g := gr) (o := (.cells #[.int .i32 re.f0, .int .i32 re.f1] 29 (0, 0))) (by (with_reducible repeat (first | refine blk_drewN ?_ _ | refine blk_drew ?_ | refine blk_alloc ?_ _)); exact BK.out) hg (Kd.R_away HO.out (fun _ hk => hk))); have HB2 := Aside0.mk hb; have HO2 := Aside0.mk ho; clear ho hb hg hat))
                  go_roundw
                  case rel => exact ⟨1, ac ++ [⟨lo, hi'⟩], rfl, by omega, by omega, HO2, HB2, BK2, ⟨by rw [HAC.out, ← HCL.out]; simp [clipN]⟩, ⟨by have := HLC.out; simp; omega⟩⟩
                  case measure => simp [intOf]
              · as_aux_lemma =>
                  have hcd : decide (lo ≤ hi') = false := decide_eq_false hc
                  rw [if_neg hc] at hcl
                  have HCL := Aside0.mk hcl
                  clear hc hcl
                  go_wp2
                  generalize wr.heap.size = gb at *
                  generalize hwb : wr.alloc (.cells #[.int .i32 0, .int .i32 55295] 29) = wb at *
                  clear HO HB BK hwb
                  have HO := HOb
                  have HB := HBb
                  have BK := BKb
                  clear HOb HBb BKb
                  go_quiet  (fail)
                  go_wp2
                  go_roundw
                  case rel =>
                    refine ⟨1, ac, rfl, by omega, by omega, ⟨?_⟩, ⟨?_⟩, ⟨?_⟩, ⟨?_⟩, ⟨by have := HLC.out; omega⟩⟩
                    · (with_reducible repeat (first | apply Kd.R_alloc | apply Kd.R_drewN | apply Kd.R_drew)); exact HO.out
                    · repeat (first | (with_reducible first | exact HB.out | apply below_alloc | apply pw_below_drewN | apply below_drew1) | exact HB.out)
                    · (with_reducible repeat (first | refine blk_drewN ?_ _ | refine blk_drew ?_ | refine blk_alloc ?_ _)); exact BK.out
                    · rw [HAC.out]; simp [clipN, HCL.out]
                  case measure => simp [intOf]
          · as_aux_lemma =>
              obtain ⟨Ao, co, rfl⟩ := Kd.R_slice HO.out
              obtain ⟨lo, hlo⟩ : ∃ x, mx re.f0 57344 = x := ⟨_, rfl⟩
              obtain ⟨hi', hhi⟩ : ∃ x, mn re.f1 1114111 = x := ⟨_, rfl⟩
              have hcl : clipB 57344 1114111 re = if lo ≤ hi' then [⟨lo, hi'⟩] else [] := by unfold clipB; rw [hlo, hhi]
              have hlo_ : (if re.f0 < (57344 : Int) then (57344 : Int) else re.f0) = lo := hlo
              have hhi_ : (if (1114111 : Int) < re.f1 then (1114111 : Int) else re.f1) = hi' := hhi
              clear hlo hhi
              have HOb := Aside0.mk (Kd.R_alloc HO.out (.cells #[.int .i32 57344, .int .i32 1114111] 29))
              have HBb := Aside0.mk (below_alloc HB.out (.cells #[.int .i32 57344, .int .i32 1114111] 29))
              have BKb := Aside0.mk (blk_alloc BK.out (.cells #[.int .i32 57344, .int .i32 1114111] 29))
              have y0 : (wr.alloc (.cells #[.int .i32 57344, .int .i32 1114111] 29)).cell? ⟨wr.heap.size, 0, none⟩ = some (.int .i32 57344) := (blk_cell (heap_alloc_new wr _) 0).trans rfl
              have y1 : (wr.alloc (.cells #[.int .i32 57344, .int .i32 1114111] 29)).cell? ⟨wr.heap.size, 1, none⟩ = some (.int .i32 1114111) := (blk_cell (heap_alloc_new wr _) 1).trans rfl
              have x0 : (wr.alloc (.cells #[.int .i32 57344, .int .i32 1114111] 29)).cell? ⟨gr, 0, none⟩ = some (.int .i32 re.f0) := (below_alloc (Below.refl _ wr) _).cell (p := ⟨gr, 0, none⟩) (blk_lt BK.out) |>.trans ((blk_cell BK.out 0).trans rfl)
              have x1 : (wr.alloc (.cells #[.int .i32 57344, .int .i32 1114111] 29)).cell? ⟨gr, 1, none⟩ = some (.int .i32 re.f1) := (below_alloc (Below.refl _ wr) _).cell (p := ⟨gr, 1, none⟩) (blk_lt BK.out) |>.trans ((blk_cell BK.out 1).trans rfl)
              have hix := bandIx1
              by_cases hc : lo ≤ hi'
              · as_aux_lemma =>
                  have hcd : decide (lo ≤ hi') = true := decide_eq_true hc
                  rw [if_pos hc] at hcl
                  have HCL := Aside0.mk hcl
                  clear hc hcl
                  go_wp2
                  generalize wr.heap.size = gb at *
                  generalize hwb : wr.alloc (.cells #[.int .i32 57344, .int .i32 1114111] 29) = wb at *
                  clear HO HB BK hwb
                  have HO := HOb
                  have HB := HBb
                  have BK := BKb
                  clear HOb HBb BKb
                  go_quiet  (fail)
                  go_wp2_with (first | ((with_reducible refine gate_builtin (b := .append) (xs := #[.tmp 39, .tmp 43]) rfl ?_); at_builtin; refine Kd.R_append k29 (w0 := w) w.heap.size rfl (.tmp 39) (.tmp 43) 22 29 (.agg #[(.int .i32 0), (.int .i32 0)]) 8 rfl Tryd.underlying22 info29 rfl (by decide) (by omega) (.slice Ao ac.length co) ac (⟨lo, hi'⟩ : S29) [.int .i32 lo, .int .i32 hi'] (fun q => q ≠ gr) (fun _ => False) rfl rfl ?aP (fun _ hk => hk.elim) ?aF ?aO ?aB ?aS ?aL ?_; (case aP => exact k29_mkM _ _ _ (⟨lo, hi'⟩ : S29)); (case aB => exact (by repeat (first | (with_reducible first | exact HB.out | apply below_alloc | apply pw_below_drewN | apply below_drew1) | exact HB.out))); (case aF => exact (fun k_ hk => Kd.freshB (g := gr) (o := (.cells #[.int .i32 re.f0, .int .i32 re.f1] 29 (0, 0))) (by (with_reducible repeat (first | refine blk_drewN ?_ _ | refine blk_drew ?_ | refine blk_alloc ?_ _)); exact BK.out) k_ hk)); (case aO => exact (by (with_reducible repeat (first | apply Kd.R_alloc | apply Kd.R_drewN | apply Kd.R_drew)); exact HO.out)); (case aS => exact (below_size (by repeat (first | (with_reducible first | exact HB.out | apply below_alloc | apply pw_below_drewN | apply below_drew1) | exact HB.out)))); (case aL => have := HLC.out; have := HS.out; omega); intro v1 w1 ho hb hg hat; have BK2 := Aside0.mk (blk_grown (g := gr) (o := (.cells #[.int .i32 re.f0, .int .i32 re.f1] 29 (0, 0))) (by (with_reducible repeat (first | refine blk_drewN ?_ _ | refine blk_drew ?_ | refine blk_alloc ?_ _)); exact BK.out) hg (Kd.R_away HO.out (fun _ hk => hk))); have HB2 := Aside0.mk hb; have HO2 := Aside0.mk ho; clear ho hb hg hat))
                  go_roundw
                  case rel => exact ⟨2, ac ++ [⟨lo, hi'⟩], rfl, by omega, by omega, HO2, HB2, BK2, ⟨by rw [HAC.out, ← HCL.out]; simp [clipN]⟩, ⟨by have := HLC.out; simp; omega⟩⟩
                  case measure => simp [intOf]
              · as_aux_lemma =>
                  have hcd : decide (lo ≤ hi') = false := decide_eq_false hc
                  rw [if_neg hc] at hcl
                  have HCL := Aside0.mk hcl
                  clear hc hcl
                  go_wp2
                  generalize wr.heap.size = gb at *
                  generalize hwb : wr.alloc (.cells #[.int .i32 57344, .int .i32 1114111] 29) = wb at *
                  clear HO HB BK hwb
                  have HO := HOb
                  have HB := HBb
                  have BK := BKb
                  clear HOb HBb BKb
                  go_quiet  (fail)
                  go_wp2
                  go_roundw
                  case rel =>
                    refine ⟨2, ac, rfl, by omega, by omega, ⟨?_⟩, ⟨?_⟩, ⟨?_⟩, ⟨?_⟩, ⟨by have := HLC.out; omega⟩⟩
                    · (with_reducible repeat (first | apply Kd.R_alloc | apply Kd.R_drewN | apply Kd.R_drew)); exact HO.out
                    · repeat (first | (with_reducible first | exact HB.out | apply below_alloc | apply pw_below_drewN | apply below_drew1) | exact HB.out)
                    · (with_reducible repeat (first | refine blk_drewN ?_ _ | refine blk_drew ?_ | refine blk_alloc ?_ _)); exact BK.out
                    · rw [HAC.out]; simp [clipN, HCL.out]
                  case measure => simp [intOf]
          · as_aux_lemma =>
              obtain ⟨Ao, co, rfl⟩ := Kd.R_slice HO.out
              obtain ⟨lo, hlo⟩ : ∃ x, mx re.f0 1114240 = x := ⟨_, rfl⟩
              obtain ⟨hi', hhi⟩ : ∃ x, mn re.f1 1114367 = x := ⟨_, rfl⟩
              have hcl : clipB 1114240 1114367 re = if lo ≤ hi' then [⟨lo, hi'⟩] else [] := by unfold clipB; rw [hlo, hhi]
              have hlo_ : (if re.f0 < (1114240 : Int) then (1114240 : Int) else re.f0) = lo := hlo
              have hhi_ : (if (1114367 : Int) < re.f1 then (1114367 : Int) else re.f1) = hi' := hhi
              clear hlo hhi
              have HOb := Aside0.mk (Kd.R_alloc HO.out (.cells #[.int .i32 1114240, .int .i32 1114367] 29))
              have HBb := Aside0.mk (below_alloc HB.out (.cells #[.int .i32 1114240, .int .i32 1114367] 29))
              have BKb := Aside0.mk (blk_alloc BK.out (.cells #[.int .i32 1114240, .int .i32 1114367] 29))
              have y0 : (wr.alloc (.cells #[.int .i32 1114240, .int .i32 1114367] 29)).cell? ⟨wr.heap.size, 0, none⟩ = some (.int .i32 1114240) := (blk_cell (heap_alloc_new wr _) 0).trans rfl
              have y1 : (wr.alloc (.cells #[.int .i32 1114240, .int .i32 1114367] 29)).cell? ⟨wr.heap.size, 1, none⟩ = some (.int .i32 1114367) := (blk_cell (heap_alloc_new wr _) 1).trans rfl
              have x0 : (wr.alloc (.cells #[.int .i32 1114240, .int .i32 1114367] 29)).cell? ⟨gr, 0, none⟩ = some (.int .i32 re.f0) := (below_alloc (Below.refl _ wr) _).cell (p := ⟨gr, 0, none⟩) (blk_lt BK.out) |>.trans ((blk_cell BK.out 0).trans rfl)
              have x1 : (wr.alloc (.cells #[.int .i32 1114240, .int .i32 1114367] 29)).cell? ⟨gr, 1, none⟩ = some (.int .i32 re.f1) := (below_alloc (Below.refl _ wr) _).cell (p := ⟨gr, 1, none⟩) (blk_lt BK.out) |>.trans ((blk_cell BK.out 1).trans rfl)
              have hix := bandIx2
              by_cases hc : lo ≤ hi'
              · as_aux_lemma =>
                  have hcd : decide (lo ≤ hi') = true := decide_eq_true hc
                  rw [if_pos hc] at hcl
                  have HCL := Aside0.mk hcl
                  clear hc hcl
                  go_wp2
                  generalize wr.heap.size = gb at *
                  generalize hwb : wr.alloc (.cells #[.int .i32 1114240, .int .i32 1114367] 29) = wb at *
                  clear HO HB BK hwb
                  have HO := HOb
                  have HB := HBb
                  have BK := BKb
                  clear HOb HBb BKb
                  go_quiet  (fail)
                  go_wp2_with (first | ((with_reducible refine gate_builtin (b := .append) (xs := #[.tmp 39, .tmp 43]) rfl ?_); at_builtin; refine Kd.R_append k29 (w0 := w) w.heap.size rfl (.tmp 39) (.tmp 43) 22 29 (.agg #[(.int .i32 0), (.int .i32 0)]) 8 rfl Tryd.underlying22 info29 rfl (by decide) (by omega) (.slice Ao ac.length co) ac (⟨lo, hi'⟩ : S29) [.int .i32 lo, .int .i32 hi'] (fun q => q ≠ gr) (fun _ => False) rfl rfl ?aP (fun _ hk => hk.elim) ?aF ?aO ?aB ?aS ?aL ?_; (case aP => exact k29_mkM _ _ _ (⟨lo, hi'⟩ : S29)); (case aB => exact (by repeat (first | (with_reducible first | exact HB.out | apply below_alloc | apply pw_below_drewN | apply below_drew1) | exact HB.out))); (case aF => exact (fun k_ hk => Kd.freshB (g := gr) (o := (.cells #[.int .i32 re.f0, .int .i32 re.f1] 29 (0, 0))) (by (with_reducible repeat (first | refine blk_drewN ?_ _ | refine blk_drew ?_ | refine blk_alloc ?_ _)); exact BK.out) k_ hk)); (case aO => exact (by (with_reducible repeat (first | apply Kd.R_alloc | apply Kd.R_drewN | apply Kd.R_drew)); exact HO.out)); (case aS => exact (below_size (by repeat (first | (with_reducible first | exact HB.out | apply below_alloc | apply pw_below_drewN | apply below_drew1) | exact HB.out)))); (case aL => have := HLC.out; have := HS.out; omega); intro v1 w1 ho hb hg hat; have BK2 := Aside0.mk (blk_grown (g := gr) (o := (.cells #[.int .i32 re.f0, .int .i32 re.f1] 29 (0, 0))) (by (with_reducible repeat (first | refine blk_drewN ?_ _ | refine blk_drew ?_ | refine blk_alloc ?_ _)); exact BK.out) hg (Kd.R_away HO.out (fun _ hk => hk))); have HB2 := Aside0.mk hb; have HO2 := Aside0.mk ho; clear ho hb hg hat))
                  go_roundw
                  case rel => exact ⟨3, ac ++ [⟨lo, hi'⟩], rfl, by omega, by omega, HO2, HB2, BK2, ⟨by rw [HAC.out, ← HCL.out]; simp [clipN]⟩, ⟨by have := HLC.out; simp; omega⟩⟩
                  case measure => simp [intOf]
              · as_aux_lemma =>
                  have hcd : decide (lo ≤ hi') = false := decide_eq_false hc
                  rw [if_neg hc] at hcl
                  have HCL := Aside0.mk hcl
                  clear hc hcl
                  go_wp2
                  generalize wr.heap.size = gb at *
                  generalize hwb : wr.alloc (.cells #[.int .i32 1114240, .int .i32 1114367] 29) = wb at *
                  clear HO HB BK hwb
                  have HO := HOb
                  have HB := HBb
                  have BK := BKb
                  clear HOb HBb BKb
                  go_quiet  (fail)
                  go_wp2
                  go_roundw
                  case rel =>
                    refine ⟨3, ac, rfl, by omega, by omega, ⟨?_⟩, ⟨?_⟩, ⟨?_⟩, ⟨?_⟩, ⟨by have := HLC.out; omega⟩⟩
                    · (with_reducible repeat (first | apply Kd.R_alloc | apply Kd.R_drewN | apply Kd.R_drew)); exact HO.out
                    · repeat (first | (with_reducible first | exact HB.out | apply below_alloc | apply pw_below_drewN | apply below_drew1) | exact HB.out)
                    · (with_reducible repeat (first | refine blk_drewN ?_ _ | refine blk_drew ?_ | refine blk_alloc ?_ _)); exact BK.out
                    · rw [HAC.out]; simp [clipN, HCL.out]
                  case measure => simp [intOf]
          · as_aux_lemma =>
              have hlt : i < l0.length := of_decide_eq_true hd1
              have hget : l0[i]? = some re := by
                have h := HRE.out
                unfold rd_T29 at h
                rw [h, Int.toNat_natCast, List.getD_eq_getElem?_getD, List.getElem?_eq_getElem hlt]
                rfl
              have HGET := Aside0.mk hget
              clear hget hlt
              go_wp2
              go_roundw
              case rel => as_aux_lemma =>
                have hlt : i < l0.length := (List.getElem?_eq_some_iff.1 HGET.out).1
                have hs := HS.out
                refine ⟨i + 1, ac, by rw [clipWrap i (by omega)], by omega, ⟨Kd.R_mono HO.out (fun _ _ => trivial)⟩, HB, ⟨?_⟩, ⟨?_⟩, ⟨by have := HLC.out; omega⟩⟩
                · as_aux_lemma => rw [List.take_add_one, HGET.out, HAC.out, HA.out]; simp [clipN, clips]
                · as_aux_lemma => rw [List.take_add_one, HGET.out]; simp [HGo.out]; simpa using HALL.out
              case measure => as_aux_lemma =>
                have hlt : i < l0.length := (List.getElem?_eq_some_iff.1 HGET.out).1
                have hs := HS.out
                have e := clipWrap i (by omega)
                clear hs HS
                generalize wrap64 ((i : Int) + 1) = j at e ⊢
                subst e
                simp only [intOf, Int.toNat_natCast]; omega
      · as_aux_lemma =>
          have hd2 : decide (re.f0 > re.f1) = true := decide_eq_true (by omega)
          have hlt : i < l0.length := of_decide_eq_true hd1
          have hre : re = l0[i] := by
            have h := HRE.out
            unfold rd_T29 at h
            rw [h, Int.toNat_natCast, List.getD_eq_getElem?_getD, List.getElem?_eq_getElem hlt]
            rfl
          have hall : ¬ (l0.all (fun r => decide (r.f0 ≤ r.f1)) = true) := fun h => hbad (by
            have := List.all_eq_true.1 h re (by rw [hre]; exact List.getElem_mem hlt)
            simpa using this)
          have h := HH.out
          rw [if_neg hall] at h
          injection h with h
          injection h with h1 h2
          subst h1; subst h2
          have HB1 := Aside0.mk (below_alloc HB.out (.cells #[.int .i32 re.f0, .int .i32 re.f1] 29))
          clear hbad hall hre hlt
          go_wp2
          go_ret2
          exact ⟨_, rfl, Kd.R_nil _ _ _ _ _, HB1.out⟩
    · as_aux_lemma =>
        have hd1 : decide (i < l0.length) = false := decide_eq_false hlt
        have hil : i = l0.length := by omega
        have hall : l0.all (fun r => decide (r.f0 ≤ r.f1)) = true := by have := HALL.out; rwa [hil, List.take_length] at this
        have hacc : acc = l0.flatMap clips := by have := HA.out; rwa [hil, List.take_length] at this
        have h := HH.out
        rw [if_pos hall, ← hacc] at h
        obtain ⟨g, hg, h⟩ := Option.bind_eq_some_iff.1 h
        injection h with h
        injection h with h1 h2
        subst h1; subst h2
        have HGA := Aside0.mk hg
        have HOP := Aside0.mk (Kd.R_mono (Kd.R_bound HO.out) (fun q hq => hq.2.1) : Kd.R k29 29 wr w.heap.size (fun q => w.heap.size ≤ q) _ acc)
        clear hall hacc hg HA HALL
        go_wp2_with (go_at_call 34; refine (sets_gather.calls k (fun q => w.heap.size ≤ q) _ acc g w _ HB.out HOP.out HGA.out).mono ?_; rintro e w1 ⟨v0, rfl, hR, hb, _⟩; have HR1 := Aside0.mk hR; have HB1 := Aside0.mk hb; clear hR hb)
        go_ret2
        exact ⟨_, rfl, Kd.R_mono HR1.out (fun _ _ => trivial), HB1.out⟩
  
/-! ### thistlelaw02_wakes: function 8 -/
def thistlelaw02_wakes.f (k : Nat)  : Option (Bool) := (sets_Make.f k (([(⟨100, 100⟩ : S29), (⟨97, 99⟩ : S29)] : List (S29)))).bind fun bt115 => (if bt115.2 = 0 then (if (bt115.1.length : Int) = 1 then (if 0 < (bt115.1.length : Int) then (if ((rd_T29 bt115.1 0).f0) = 97 then (some (((rd_T29 bt115.1 0).f1) == 100)) else (some false)) else (none)) else (some false)) else (some false))
theorem thistlelaw02_wakes.mono : ∀ k, LeO (thistlelaw02_wakes.f k ) (thistlelaw02_wakes.f (k + 1) ) := by
  intro  k
  unfold thistlelaw02_wakes.f
  repeat' first
      | (with_reducible exact sets_Make.mono _ _)
      | (with_reducible exact LeO.refl _)
      | (with_reducible exact LeO.none _)
      | (with_reducible refine LeO.ite ?_ ?_)
      | (with_reducible refine LeO.bind ?_ (fun _ => ?_))
      | exact sets_Make.mono _ _
      | exact LeO.none _
      | refine LeO.ite ?_ ?_
      | refine LeO.bind ?_ (fun _ => ?_)
set_option maxHeartbeats 8000000 in
set_option maxRecDepth 100000 in
theorem thistlelaw02_wakes.calls (k : Nat)  (r : Bool) (w : World) (hG : Glob w) (h : thistlelaw02_wakes.f k  = some r) :
    Calls Tryd.prog 8 #[] w fun e w' => e = .returned (.bool r) ∧ Below w.heap.size w w' := by
  have hu29 := Tryd.underlying29
  have HB := Aside0.mk (Below.refl w.heap.size w)
  have H : ((sets_Make.f k (([(⟨100, 100⟩ : S29), (⟨97, 99⟩ : S29)] : List (S29)))).bind fun bt115 => (if bt115.2 = 0 then (if (bt115.1.length : Int) = 1 then (if 0 < (bt115.1.length : Int) then (if ((rd_T29 bt115.1 0).f0) = 97 then (some (((rd_T29 bt115.1 0).f1) == 100)) else (some false)) else (none)) else (some false)) else (some false))) = some r := h
  clear h
  obtain ⟨y112, hy112⟩ : ∃ y_ : List (S29), y_ = (([(⟨100, 100⟩ : S29), (⟨97, 99⟩ : S29)] : List (S29))) := ⟨_, rfl⟩
  replace H : ((sets_Make.f k y112).bind fun bt115 => (if bt115.2 = 0 then (if (bt115.1.length : Int) = 1 then (if 0 < (bt115.1.length : Int) then (if ((rd_T29 bt115.1 0).f0) = 97 then (some (((rd_T29 bt115.1 0).f1) == 100)) else (some false)) else (none)) else (some false)) else (some false))) = some r := by first | (rw [hy112]; with_reducible exact H) | (have H2_ := (Option.bind_some _ _).symm.trans H; rw [hy112]; with_reducible exact H2_) | (have H2_ := (Option.bind_some _ _).symm.trans H; with_reducible exact H2_) | with_reducible exact H | (rw [hy112]; exact H) | exact H
  have Ny112 := Aside0.mk hy112
  clear hy112
  replace H := Option.bind_eq_some_iff.mp H
  obtain ⟨⟨t115, t116⟩, A10, H⟩ := H
  replace H : (if t116 = 0 then (if (t115.length : Int) = 1 then (if 0 < (t115.length : Int) then (if ((rd_T29 t115 0).f0) = 97 then (some (((rd_T29 t115 0).f1) == 100)) else (some false)) else (none)) else (some false)) else (some false)) = some r := H
  have A1 := Aside0.mk A10
  clear A10
  by_cases c2 : t116 = 0
  · rw [if_pos c2] at H
    have c2b0 : (t116 == 0) = true := beq_iff_eq.mpr c2
    have c2b1 : (t116 != 0) = false := bne_eq_false_iff_eq.mpr c2
    clear c2
    by_cases c3 : (t115.length : Int) = 1
    · rw [if_pos c3] at H
      have c3b0 : ((t115.length : Int) == 1) = true := beq_iff_eq.mpr c3
      have c3b1 : ((t115.length : Int) != 1) = false := bne_eq_false_iff_eq.mpr c3
      clear c3
      by_cases c4 : 0 < (t115.length : Int)
      · rw [if_pos c4] at H
        have c4b0 : decide (0 < (t115.length : Int)) = true := decide_eq_true c4
        have c4b1 : decide (0 < t115.length) = true := decide_eq_true (by omega)
        clear c4
        by_cases c5 : ((rd_T29 t115 0).f0) = 97
        · rw [if_pos c5] at H
          have c5b0 : (((rd_T29 t115 0).f0) == 97) = true := beq_iff_eq.mpr c5
          have c5b1 : (((rd_T29 t115 0).f0) != 97) = false := bne_eq_false_iff_eq.mpr c5
          clear c5
          obtain rfl := Option.some.inj H
          go_enter Tryd.func8, Tryd.ntmps8
          go_wp2_with (first | ((with_reducible refine gate_dst (N := 6) rfl ?_); (try (refine gate_guard (by rfl) ?_; dsimp only)); refine Kd.R_lit k29 _ 29 ?hg (N := 6) ?hd (xs := ([(⟨100, 100⟩ : S29), (⟨97, 99⟩ : S29)] : List (S29))) (inner := [.int .i32 100, .int .i32 100, .int .i32 97, .int .i32 99]) (ok := fun _ => True) (okp := fun _ => True) ?hr ?hp (fun _ hk => hk) trivial (Below.refl _ _) (Nat.le_refl _) (by simp) ?_; (case hd => rfl); (case hg => rfl); (case hr => first | (go_simp; done) | (go_simp; rfl)); (case hp => exact (Reps.c2 (show Kd.M k29 _ _ _ (⟨100, 100⟩ : S29) [.int .i32 100, .int .i32 100] from (k29_mkM _ _ _ (⟨100, 100⟩ : S29) )) (Reps.c2 (show Kd.M k29 _ _ _ (⟨97, 99⟩ : S29) [.int .i32 97, .int .i32 99] from (k29_mkM _ _ _ (⟨97, 99⟩ : S29) )) (Reps.none _ _)))); intro v113 w6 ho7 hb hg_ hnew_; clear hg_ hnew_; (first | rw [← Ny112.out] at ho7 | (simp only [Int.reduceToNat] at ho7; rw [← Ny112.out] at ho7)); have n0_ := Aside0.mk (Kd.R_lower ho7 (below_size (by repeat (first | (with_reducible first | exact HB.out | apply below_alloc | apply pw_below_drewN | apply below_drew1) | exact HB.out)))); have n1_ := Aside0.mk (below_step (by repeat (first | (with_reducible first | exact HB.out | apply below_alloc | apply pw_below_drewN | apply below_drew1) | exact HB.out)) hb); clear HB; have HO114 := n0_; have HB := n1_; clear n0_ n1_; clear hb ho7; obtain ⟨Ao8, co8, eo8⟩ := Kd.R_slice HO114.out; subst eo8) | ((with_reducible refine gate_callee (f := 9) rfl ?_); refine goesL_ (some 7) rfl rfl Tryd.func9 (by kernel_rfl) rfl #[.slice Ao8 y112.length co8] rfl (by (try simp only [List.map_toArray, List.map_cons, List.map_nil]); first | done | rfl | (simp only [List.length_drop, List.length_take]; rfl)) ?_; (with_reducible refine (sets_Make.calls k _ _ y112 t115 t116 _ ?side1 ?side2 ?side3 A1.out).mono ?_); (case side1 => repeat (first | exact (Kd.R_reads' HO114.out).2.2 | (with_reducible refine Kd.C_alloc ?_ _) | (with_reducible refine Kd.C_drewN ?_ _) | (with_reducible refine Kd.C_drew ?_))); (case side2 => exact (Kd.R_reads' HO114.out).2.1); (case side3 => first | exact hG | exact Glob.of_below hG (by repeat (first | (with_reducible first | exact HB.out | apply below_alloc | apply pw_below_drewN | apply below_drew1) | exact HB.out)) | exact Glob.of_below hG HB.out | exact Glob.drewN hG _ | exact Glob.drew hG | (with_reducible repeat (first | exact hG | apply Glob.drewN | apply Glob.drew | apply Glob.alloc))); rintro e w9 ⟨v117, rfl, ho0, hb⟩; refine ⟨_, rfl, ?_⟩; have n0_ := Aside0.mk (Kd.R_elder' (by (with_reducible repeat (first | apply Kd.R_alloc | apply Kd.R_drewN | apply Kd.R_drew)); exact HO114.out) (Kd.R_base ho0) hb); have n1_ := Aside0.mk (Kd.R_lower (Kd.R_new' ho0 (Kd.R_lt (by (with_reducible repeat (first | apply Kd.R_alloc | apply Kd.R_drewN | apply Kd.R_drew)); exact HO114.out))) (below_size (by repeat (first | (with_reducible first | exact HB.out | apply below_alloc | apply pw_below_drewN | apply below_drew1) | exact HB.out)))); have n2_ := Aside0.mk (below_step (by repeat (first | (with_reducible first | exact HB.out | apply below_alloc | apply pw_below_drewN | apply below_drew1) | exact HB.out)) hb); clear HO114; clear HB; have HO114 := n0_; have HO118 := n1_; have HB := n2_; clear n0_ n1_ n2_; (try clear hb); (try clear hb2); (try clear hk); (try clear hi); (try clear ho0); obtain ⟨Ao10, co10, eo10⟩ := Kd.R_slice HO118.out; subst eo10; have p119 : 0 ≤ (0 : Int) := (by omega); have q119 : 0 < (t115.length : Int) := of_decide_eq_true (by first | (with_reducible assumption) | assumption); obtain ⟨ad119, e119, hx119_0, hx119_1⟩ := at_T29 (Kd.R_reads' HO118.out).2.2 0 p119 q119; cases e119; have qi119 : (0 < t115.length) = True := eq_true (by omega); (try rw [show ((0 : Int)).toNat = 0 from rfl] at hx119_0); (try rw [show 0 * 2 = 0 from rfl] at hx119_0); (try rw [Addr.add_zero'] at hx119_0); (try rw [show ((0 : Int)).toNat = 0 from rfl] at hx119_1); (try rw [show 0 * 2 = 0 from rfl] at hx119_1); (try rw [Addr.add_zero'] at hx119_1); replace p119 := eq_true p119; replace q119 := eq_true q119; have p120 : 0 ≤ (0 : Int) := (by omega); have q120 : 0 < (t115.length : Int) := of_decide_eq_true (by first | (with_reducible assumption) | assumption); obtain ⟨ad120, e120, hx120_0, hx120_1⟩ := at_T29 (Kd.R_reads' HO118.out).2.2 0 p120 q120; obtain rfl : ad119 = ad120 := (by injection e120); have qi120 : (0 < t115.length) = True := eq_true (by omega); (try rw [show ((0 : Int)).toNat = 0 from rfl] at hx120_0); (try rw [show 0 * 2 = 0 from rfl] at hx120_0); (try rw [Addr.add_zero'] at hx120_0); (try rw [show ((0 : Int)).toNat = 0 from rfl] at hx120_1); (try rw [show 0 * 2 = 0 from rfl] at hx120_1); (try rw [Addr.add_zero'] at hx120_1); replace p120 := eq_true p120; replace q120 := eq_true q120))
          go_ret
          exact ⟨by first | rfl | (simp [errW_none, errW_some] <;> rfl) | (simp [*, errW_none, errW_some] <;> rfl), by repeat (first | (with_reducible first | exact HB.out | apply below_alloc | apply pw_below_drewN | apply below_drew1) | exact HB.out)⟩
        · rw [if_neg c5] at H
          have c5b0 : (((rd_T29 t115 0).f0) == 97) = false := beq_eq_false_iff_ne.mpr c5
          have c5b1 : (((rd_T29 t115 0).f0) != 97) = true := bne_iff_ne.mpr c5
          obtain rfl := Option.some.inj H
          go_enter Tryd.func8, Tryd.ntmps8
          go_wp2_with (first | ((with_reducible refine gate_dst (N := 6) rfl ?_); (try (refine gate_guard (by rfl) ?_; dsimp only)); refine Kd.R_lit k29 _ 29 ?hg (N := 6) ?hd (xs := ([(⟨100, 100⟩ : S29), (⟨97, 99⟩ : S29)] : List (S29))) (inner := [.int .i32 100, .int .i32 100, .int .i32 97, .int .i32 99]) (ok := fun _ => True) (okp := fun _ => True) ?hr ?hp (fun _ hk => hk) trivial (Below.refl _ _) (Nat.le_refl _) (by simp) ?_; (case hd => rfl); (case hg => rfl); (case hr => first | (go_simp; done) | (go_simp; rfl)); (case hp => exact (Reps.c2 (show Kd.M k29 _ _ _ (⟨100, 100⟩ : S29) [.int .i32 100, .int .i32 100] from (k29_mkM _ _ _ (⟨100, 100⟩ : S29) )) (Reps.c2 (show Kd.M k29 _ _ _ (⟨97, 99⟩ : S29) [.int .i32 97, .int .i32 99] from (k29_mkM _ _ _ (⟨97, 99⟩ : S29) )) (Reps.none _ _)))); intro v113 w11 ho12 hb hg_ hnew_; clear hg_ hnew_; (first | rw [← Ny112.out] at ho12 | (simp only [Int.reduceToNat] at ho12; rw [← Ny112.out] at ho12)); have n0_ := Aside0.mk (Kd.R_lower ho12 (below_size (by repeat (first | (with_reducible first | exact HB.out | apply below_alloc | apply pw_below_drewN | apply below_drew1) | exact HB.out)))); have n1_ := Aside0.mk (below_step (by repeat (first | (with_reducible first | exact HB.out | apply below_alloc | apply pw_below_drewN | apply below_drew1) | exact HB.out)) hb); clear HB; have HO114 := n0_; have HB := n1_; clear n0_ n1_; clear hb ho12; obtain ⟨Ao13, co13, eo13⟩ := Kd.R_slice HO114.out; subst eo13) | ((with_reducible refine gate_callee (f := 9) rfl ?_); refine goesL_ (some 7) rfl rfl Tryd.func9 (by kernel_rfl) rfl #[.slice Ao13 y112.length co13] rfl (by (try simp only [List.map_toArray, List.map_cons, List.map_nil]); first | done | rfl | (simp only [List.length_drop, List.length_take]; rfl)) ?_; (with_reducible refine (sets_Make.calls k _ _ y112 t115 t116 _ ?side1 ?side2 ?side3 A1.out).mono ?_); (case side1 => repeat (first | exact (Kd.R_reads' HO114.out).2.2 | (with_reducible refine Kd.C_alloc ?_ _) | (with_reducible refine Kd.C_drewN ?_ _) | (with_reducible refine Kd.C_drew ?_))); (case side2 => exact (Kd.R_reads' HO114.out).2.1); (case side3 => first | exact hG | exact Glob.of_below hG (by repeat (first | (with_reducible first | exact HB.out | apply below_alloc | apply pw_below_drewN | apply below_drew1) | exact HB.out)) | exact Glob.of_below hG HB.out | exact Glob.drewN hG _ | exact Glob.drew hG | (with_reducible repeat (first | exact hG | apply Glob.drewN | apply Glob.drew | apply Glob.alloc))); rintro e w14 ⟨v117, rfl, ho0, hb⟩; refine ⟨_, rfl, ?_⟩; have n0_ := Aside0.mk (Kd.R_elder' (by (with_reducible repeat (first | apply Kd.R_alloc | apply Kd.R_drewN | apply Kd.R_drew)); exact HO114.out) (Kd.R_base ho0) hb); have n1_ := Aside0.mk (Kd.R_lower (Kd.R_new' ho0 (Kd.R_lt (by (with_reducible repeat (first | apply Kd.R_alloc | apply Kd.R_drewN | apply Kd.R_drew)); exact HO114.out))) (below_size (by repeat (first | (with_reducible first | exact HB.out | apply below_alloc | apply pw_below_drewN | apply below_drew1) | exact HB.out)))); have n2_ := Aside0.mk (below_step (by repeat (first | (with_reducible first | exact HB.out | apply below_alloc | apply pw_below_drewN | apply below_drew1) | exact HB.out)) hb); clear HO114; clear HB; have HO114 := n0_; have HO118 := n1_; have HB := n2_; clear n0_ n1_ n2_; (try clear hb); (try clear hb2); (try clear hk); (try clear hi); (try clear ho0); obtain ⟨Ao15, co15, eo15⟩ := Kd.R_slice HO118.out; subst eo15; have p119 : 0 ≤ (0 : Int) := (by omega); have q119 : 0 < (t115.length : Int) := of_decide_eq_true (by first | (with_reducible assumption) | assumption); obtain ⟨ad119, e119, hx119_0, hx119_1⟩ := at_T29 (Kd.R_reads' HO118.out).2.2 0 p119 q119; cases e119; have qi119 : (0 < t115.length) = True := eq_true (by omega); (try rw [show ((0 : Int)).toNat = 0 from rfl] at hx119_0); (try rw [show 0 * 2 = 0 from rfl] at hx119_0); (try rw [Addr.add_zero'] at hx119_0); (try rw [show ((0 : Int)).toNat = 0 from rfl] at hx119_1); (try rw [show 0 * 2 = 0 from rfl] at hx119_1); (try rw [Addr.add_zero'] at hx119_1); replace p119 := eq_true p119; replace q119 := eq_true q119))
          go_ret
          exact ⟨by first | rfl | (simp [errW_none, errW_some] <;> rfl) | (simp [*, errW_none, errW_some] <;> rfl), by repeat (first | (with_reducible first | exact HB.out | apply below_alloc | apply pw_below_drewN | apply below_drew1) | exact HB.out)⟩
      · rw [if_neg c4] at H
        exact absurd H (by simp)
    · rw [if_neg c3] at H
      have c3b0 : ((t115.length : Int) == 1) = false := beq_eq_false_iff_ne.mpr c3
      have c3b1 : ((t115.length : Int) != 1) = true := bne_iff_ne.mpr c3
      obtain rfl := Option.some.inj H
      go_enter Tryd.func8, Tryd.ntmps8
      go_wp2_with (first | ((with_reducible refine gate_dst (N := 6) rfl ?_); (try (refine gate_guard (by rfl) ?_; dsimp only)); refine Kd.R_lit k29 _ 29 ?hg (N := 6) ?hd (xs := ([(⟨100, 100⟩ : S29), (⟨97, 99⟩ : S29)] : List (S29))) (inner := [.int .i32 100, .int .i32 100, .int .i32 97, .int .i32 99]) (ok := fun _ => True) (okp := fun _ => True) ?hr ?hp (fun _ hk => hk) trivial (Below.refl _ _) (Nat.le_refl _) (by simp) ?_; (case hd => rfl); (case hg => rfl); (case hr => first | (go_simp; done) | (go_simp; rfl)); (case hp => exact (Reps.c2 (show Kd.M k29 _ _ _ (⟨100, 100⟩ : S29) [.int .i32 100, .int .i32 100] from (k29_mkM _ _ _ (⟨100, 100⟩ : S29) )) (Reps.c2 (show Kd.M k29 _ _ _ (⟨97, 99⟩ : S29) [.int .i32 97, .int .i32 99] from (k29_mkM _ _ _ (⟨97, 99⟩ : S29) )) (Reps.none _ _)))); intro v113 w16 ho17 hb hg_ hnew_; clear hg_ hnew_; (first | rw [← Ny112.out] at ho17 | (simp only [Int.reduceToNat] at ho17; rw [← Ny112.out] at ho17)); have n0_ := Aside0.mk (Kd.R_lower ho17 (below_size (by repeat (first | (with_reducible first | exact HB.out | apply below_alloc | apply pw_below_drewN | apply below_drew1) | exact HB.out)))); have n1_ := Aside0.mk (below_step (by repeat (first | (with_reducible first | exact HB.out | apply below_alloc | apply pw_below_drewN | apply below_drew1) | exact HB.out)) hb); clear HB; have HO114 := n0_; have HB := n1_; clear n0_ n1_; clear hb ho17; obtain ⟨Ao18, co18, eo18⟩ := Kd.R_slice HO114.out; subst eo18) | ((with_reducible refine gate_callee (f := 9) rfl ?_); refine goesL_ (some 7) rfl rfl Tryd.func9 (by kernel_rfl) rfl #[.slice Ao18 y112.length co18] rfl (by (try simp only [List.map_toArray, List.map_cons, List.map_nil]); first | done | rfl | (simp only [List.length_drop, List.length_take]; rfl)) ?_; (with_reducible refine (sets_Make.calls k _ _ y112 t115 t116 _ ?side1 ?side2 ?side3 A1.out).mono ?_); (case side1 => repeat (first | exact (Kd.R_reads' HO114.out).2.2 | (with_reducible refine Kd.C_alloc ?_ _) | (with_reducible refine Kd.C_drewN ?_ _) | (with_reducible refine Kd.C_drew ?_))); (case side2 => exact (Kd.R_reads' HO114.out).2.1); (case side3 => first | exact hG | exact Glob.of_below hG (by repeat (first | (with_reducible first | exact HB.out | apply below_alloc | apply pw_below_drewN | apply below_drew1) | exact HB.out)) | exact Glob.of_below hG HB.out | exact Glob.drewN hG _ | exact Glob.drew hG | (with_reducible repeat (first | exact hG | apply Glob.drewN | apply Glob.drew | apply Glob.alloc))); rintro e w19 ⟨v117, rfl, ho0, hb⟩; refine ⟨_, rfl, ?_⟩; have n0_ := Aside0.mk (Kd.R_elder' (by (with_reducible repeat (first | apply Kd.R_alloc | apply Kd.R_drewN | apply Kd.R_drew)); exact HO114.out) (Kd.R_base ho0) hb); have n1_ := Aside0.mk (Kd.R_lower (Kd.R_new' ho0 (Kd.R_lt (by (with_reducible repeat (first | apply Kd.R_alloc | apply Kd.R_drewN | apply Kd.R_drew)); exact HO114.out))) (below_size (by repeat (first | (with_reducible first | exact HB.out | apply below_alloc | apply pw_below_drewN | apply below_drew1) | exact HB.out)))); have n2_ := Aside0.mk (below_step (by repeat (first | (with_reducible first | exact HB.out | apply below_alloc | apply pw_below_drewN | apply below_drew1) | exact HB.out)) hb); clear HO114; clear HB; have HO114 := n0_; have HO118 := n1_; have HB := n2_; clear n0_ n1_ n2_; (try clear hb); (try clear hb2); (try clear hk); (try clear hi); (try clear ho0); obtain ⟨Ao20, co20, eo20⟩ := Kd.R_slice HO118.out; subst eo20))
      go_ret
      exact ⟨by first | rfl | (simp [errW_none, errW_some] <;> rfl) | (simp [*, errW_none, errW_some] <;> rfl), by repeat (first | (with_reducible first | exact HB.out | apply below_alloc | apply pw_below_drewN | apply below_drew1) | exact HB.out)⟩
  · rw [if_neg c2] at H
    have c2b0 : (t116 == 0) = false := beq_eq_false_iff_ne.mpr c2
    have c2b1 : (t116 != 0) = true := bne_iff_ne.mpr c2
    obtain rfl := Option.some.inj H
    go_enter Tryd.func8, Tryd.ntmps8
    go_wp2_with (first | ((with_reducible refine gate_dst (N := 6) rfl ?_); (try (refine gate_guard (by rfl) ?_; dsimp only)); refine Kd.R_lit k29 _ 29 ?hg (N := 6) ?hd (xs := ([(⟨100, 100⟩ : S29), (⟨97, 99⟩ : S29)] : List (S29))) (inner := [.int .i32 100, .int .i32 100, .int .i32 97, .int .i32 99]) (ok := fun _ => True) (okp := fun _ => True) ?hr ?hp (fun _ hk => hk) trivial (Below.refl _ _) (Nat.le_refl _) (by simp) ?_; (case hd => rfl); (case hg => rfl); (case hr => first | (go_simp; done) | (go_simp; rfl)); (case hp => exact (Reps.c2 (show Kd.M k29 _ _ _ (⟨100, 100⟩ : S29) [.int .i32 100, .int .i32 100] from (k29_mkM _ _ _ (⟨100, 100⟩ : S29) )) (Reps.c2 (show Kd.M k29 _ _ _ (⟨97, 99⟩ : S29) [.int .i32 97, .int .i32 99] from (k29_mkM _ _ _ (⟨97, 99⟩ : S29) )) (Reps.none _ _)))); intro v113 w21 ho22 hb hg_ hnew_; clear hg_ hnew_; (first | rw [← Ny112.out] at ho22 | (simp only [Int.reduceToNat] at ho22; rw [← Ny112.out] at ho22)); have n0_ := Aside0.mk (Kd.R_lower ho22 (below_size (by repeat (first | (with_reducible first | exact HB.out | apply below_alloc | apply pw_below_drewN | apply below_drew1) | exact HB.out)))); have n1_ := Aside0.mk (below_step (by repeat (first | (with_reducible first | exact HB.out | apply below_alloc | apply pw_below_drewN | apply below_drew1) | exact HB.out)) hb); clear HB; have HO114 := n0_; have HB := n1_; clear n0_ n1_; clear hb ho22; obtain ⟨Ao23, co23, eo23⟩ := Kd.R_slice HO114.out; subst eo23) | ((with_reducible refine gate_callee (f := 9) rfl ?_); refine goesL_ (some 7) rfl rfl Tryd.func9 (by kernel_rfl) rfl #[.slice Ao23 y112.length co23] rfl (by (try simp only [List.map_toArray, List.map_cons, List.map_nil]); first | done | rfl | (simp only [List.length_drop, List.length_take]; rfl)) ?_; (with_reducible refine (sets_Make.calls k _ _ y112 t115 t116 _ ?side1 ?side2 ?side3 A1.out).mono ?_); (case side1 => repeat (first | exact (Kd.R_reads' HO114.out).2.2 | (with_reducible refine Kd.C_alloc ?_ _) | (with_reducible refine Kd.C_drewN ?_ _) | (with_reducible refine Kd.C_drew ?_))); (case side2 => exact (Kd.R_reads' HO114.out).2.1); (case side3 => first | exact hG | exact Glob.of_below hG (by repeat (first | (with_reducible first | exact HB.out | apply below_alloc | apply pw_below_drewN | apply below_drew1) | exact HB.out)) | exact Glob.of_below hG HB.out | exact Glob.drewN hG _ | exact Glob.drew hG | (with_reducible repeat (first | exact hG | apply Glob.drewN | apply Glob.drew | apply Glob.alloc))); rintro e w24 ⟨v117, rfl, ho0, hb⟩; refine ⟨_, rfl, ?_⟩; have n0_ := Aside0.mk (Kd.R_elder' (by (with_reducible repeat (first | apply Kd.R_alloc | apply Kd.R_drewN | apply Kd.R_drew)); exact HO114.out) (Kd.R_base ho0) hb); have n1_ := Aside0.mk (Kd.R_lower (Kd.R_new' ho0 (Kd.R_lt (by (with_reducible repeat (first | apply Kd.R_alloc | apply Kd.R_drewN | apply Kd.R_drew)); exact HO114.out))) (below_size (by repeat (first | (with_reducible first | exact HB.out | apply below_alloc | apply pw_below_drewN | apply below_drew1) | exact HB.out)))); have n2_ := Aside0.mk (below_step (by repeat (first | (with_reducible first | exact HB.out | apply below_alloc | apply pw_below_drewN | apply below_drew1) | exact HB.out)) hb); clear HO114; clear HB; have HO114 := n0_; have HO118 := n1_; have HB := n2_; clear n0_ n1_ n2_; (try clear hb); (try clear hb2); (try clear hk); (try clear hi); (try clear ho0)))
    go_ret
    exact ⟨by first | rfl | (simp [errW_none, errW_some] <;> rfl) | (simp [*, errW_none, errW_some] <;> rfl), by repeat (first | (with_reducible first | exact HB.out | apply below_alloc | apply pw_below_drewN | apply below_drew1) | exact HB.out)⟩

/-! ### thistlelaw02_unit: function 15 -/
def thistlelaw02_unit.f (a0 : Int) : Option (Bool) := if a0 ≥ 0 then (if a0 < 55296 then (some true) else (if a0 > 57343 then (if a0 ≤ 1114111 then (some true) else (if a0 ≥ 1114240 then (some (decide (a0 ≤ 1114367))) else (some false))) else (if a0 ≥ 1114240 then (some (decide (a0 ≤ 1114367))) else (some false)))) else (if a0 > 57343 then (if a0 ≤ 1114111 then (some true) else (if a0 ≥ 1114240 then (some (decide (a0 ≤ 1114367))) else (some false))) else (if a0 ≥ 1114240 then (some (decide (a0 ≤ 1114367))) else (some false)))
set_option maxHeartbeats 8000000 in
set_option maxRecDepth 100000 in
theorem thistlelaw02_unit.calls (a0 : Int) (r : Bool) (w : World) (h : thistlelaw02_unit.f a0 = some r) :
    Calls Tryd.prog 15 #[.int .i64 a0] w fun e w' => e = .returned (.bool r) ∧ Drawn0 w w' := by
  have H : (if a0 ≥ 0 then (if a0 < 55296 then (some true) else (if a0 > 57343 then (if a0 ≤ 1114111 then (some true) else (if a0 ≥ 1114240 then (some (decide (a0 ≤ 1114367))) else (some false))) else (if a0 ≥ 1114240 then (some (decide (a0 ≤ 1114367))) else (some false)))) else (if a0 > 57343 then (if a0 ≤ 1114111 then (some true) else (if a0 ≥ 1114240 then (some (decide (a0 ≤ 1114367))) else (some false))) else (if a0 ≥ 1114240 then (some (decide (a0 ≤ 1114367))) else (some false)))) = some r := h
  clear h
  by_cases c2 : a0 ≥ 0
  · rw [if_pos c2] at H
    have c2b0 : decide (0 ≤ a0) = true := decide_eq_true c2
    clear c2
    by_cases c3 : a0 < 55296
    · rw [if_pos c3] at H
      have c3b0 : decide (a0 < 55296) = true := decide_eq_true c3
      clear c3
      obtain rfl := Option.some.inj H
      go_enter Tryd.func15, Tryd.ntmps15
      go_wp2
      go_ret
      exact ⟨by first | rfl | (simp; done) | (simp [*]; done), by repeat (first | exact Drawn0.refl _ | apply Drawn0.step)⟩
    · rw [if_neg c3] at H
      have c3b0 : decide (a0 < 55296) = false := decide_eq_false c3
      clear c3
      by_cases c4 : a0 > 57343
      · rw [if_pos c4] at H
        have c4b0 : decide (57343 < a0) = true := decide_eq_true c4
        clear c4
        by_cases c5 : a0 ≤ 1114111
        · rw [if_pos c5] at H
          have c5b0 : decide (a0 ≤ 1114111) = true := decide_eq_true c5
          clear c5
          obtain rfl := Option.some.inj H
          go_enter Tryd.func15, Tryd.ntmps15
          go_wp2
          go_ret
          exact ⟨by first | rfl | (simp; done) | (simp [*]; done), by repeat (first | exact Drawn0.refl _ | apply Drawn0.step)⟩
        · rw [if_neg c5] at H
          have c5b0 : decide (a0 ≤ 1114111) = false := decide_eq_false c5
          clear c5
          by_cases c6 : a0 ≥ 1114240
          · rw [if_pos c6] at H
            have c6b0 : decide (1114240 ≤ a0) = true := decide_eq_true c6
            clear c6
            obtain rfl := Option.some.inj H
            go_enter Tryd.func15, Tryd.ntmps15
            go_wp2
            go_ret
            exact ⟨by first | rfl | (simp; done) | (simp [*]; done), by repeat (first | exact Drawn0.refl _ | apply Drawn0.step)⟩
          · rw [if_neg c6] at H
            have c6b0 : decide (1114240 ≤ a0) = false := decide_eq_false c6
            clear c6
            obtain rfl := Option.some.inj H
            go_enter Tryd.func15, Tryd.ntmps15
            go_wp2
            go_ret
            exact ⟨by first | rfl | (simp; done) | (simp [*]; done), by repeat (first | exact Drawn0.refl _ | apply Drawn0.step)⟩
      · rw [if_neg c4] at H
        have c4b0 : decide (57343 < a0) = false := decide_eq_false c4
        clear c4
        by_cases c7 : a0 ≥ 1114240
        · rw [if_pos c7] at H
          have c7b0 : decide (1114240 ≤ a0) = true := decide_eq_true c7
          clear c7
          obtain rfl := Option.some.inj H
          go_enter Tryd.func15, Tryd.ntmps15
          go_wp2
          go_ret
          exact ⟨by first | rfl | (simp; done) | (simp [*]; done), by repeat (first | exact Drawn0.refl _ | apply Drawn0.step)⟩
        · rw [if_neg c7] at H
          have c7b0 : decide (1114240 ≤ a0) = false := decide_eq_false c7
          clear c7
          obtain rfl := Option.some.inj H
          go_enter Tryd.func15, Tryd.ntmps15
          go_wp2
          go_ret
          exact ⟨by first | rfl | (simp; done) | (simp [*]; done), by repeat (first | exact Drawn0.refl _ | apply Drawn0.step)⟩
  · rw [if_neg c2] at H
    have c2b0 : decide (0 ≤ a0) = false := decide_eq_false c2
    clear c2
    by_cases c8 : a0 > 57343
    · rw [if_pos c8] at H
      have c8b0 : decide (57343 < a0) = true := decide_eq_true c8
      clear c8
      by_cases c9 : a0 ≤ 1114111
      · rw [if_pos c9] at H
        have c9b0 : decide (a0 ≤ 1114111) = true := decide_eq_true c9
        clear c9
        obtain rfl := Option.some.inj H
        go_enter Tryd.func15, Tryd.ntmps15
        go_wp2
        go_ret
        exact ⟨by first | rfl | (simp; done) | (simp [*]; done), by repeat (first | exact Drawn0.refl _ | apply Drawn0.step)⟩
      · rw [if_neg c9] at H
        have c9b0 : decide (a0 ≤ 1114111) = false := decide_eq_false c9
        clear c9
        by_cases c10 : a0 ≥ 1114240
        · rw [if_pos c10] at H
          have c10b0 : decide (1114240 ≤ a0) = true := decide_eq_true c10
          clear c10
          obtain rfl := Option.some.inj H
          go_enter Tryd.func15, Tryd.ntmps15
          go_wp2
          go_ret
          exact ⟨by first | rfl | (simp; done) | (simp [*]; done), by repeat (first | exact Drawn0.refl _ | apply Drawn0.step)⟩
        · rw [if_neg c10] at H
          have c10b0 : decide (1114240 ≤ a0) = false := decide_eq_false c10
          clear c10
          obtain rfl := Option.some.inj H
          go_enter Tryd.func15, Tryd.ntmps15
          go_wp2
          go_ret
          exact ⟨by first | rfl | (simp; done) | (simp [*]; done), by repeat (first | exact Drawn0.refl _ | apply Drawn0.step)⟩
    · rw [if_neg c8] at H
      have c8b0 : decide (57343 < a0) = false := decide_eq_false c8
      clear c8
      by_cases c11 : a0 ≥ 1114240
      · rw [if_pos c11] at H
        have c11b0 : decide (1114240 ≤ a0) = true := decide_eq_true c11
        clear c11
        obtain rfl := Option.some.inj H
        go_enter Tryd.func15, Tryd.ntmps15
        go_wp2
        go_ret
        exact ⟨by first | rfl | (simp; done) | (simp [*]; done), by repeat (first | exact Drawn0.refl _ | apply Drawn0.step)⟩
      · rw [if_neg c11] at H
        have c11b0 : decide (1114240 ≤ a0) = false := decide_eq_false c11
        clear c11
        obtain rfl := Option.some.inj H
        go_enter Tryd.func15, Tryd.ntmps15
        go_wp2
        go_ret
        exact ⟨by first | rfl | (simp; done) | (simp [*]; done), by repeat (first | exact Drawn0.refl _ | apply Drawn0.step)⟩

/-! ### thistlelaw02_kind: function 36 -/
def thistlelaw02_kind.f (a0 : Int) : Option (Int) := if a0 < 55296 then (some 1) else (if a0 ≤ 1114111 then (some 2) else (some 3))
set_option maxHeartbeats 8000000 in
set_option maxRecDepth 100000 in
theorem thistlelaw02_kind.calls (a0 : Int) (r : Int) (w : World) (h : thistlelaw02_kind.f a0 = some r) :
    Calls Tryd.prog 36 #[.int .i64 a0] w fun e w' => e = .returned (.int .i64 r) ∧ Drawn0 w w' := by
  have H : (if a0 < 55296 then (some 1) else (if a0 ≤ 1114111 then (some 2) else (some 3))) = some r := h
  clear h
  by_cases c2 : a0 < 55296
  · rw [if_pos c2] at H
    have c2b0 : decide (a0 < 55296) = true := decide_eq_true c2
    clear c2
    obtain rfl := Option.some.inj H
    go_enter Tryd.func36, Tryd.ntmps36
    go_wp2
    go_ret
    exact ⟨by first | rfl | (simp; done) | (simp [*]; done), by repeat (first | exact Drawn0.refl _ | apply Drawn0.step)⟩
  · rw [if_neg c2] at H
    have c2b0 : decide (a0 < 55296) = false := decide_eq_false c2
    clear c2
    by_cases c3 : a0 ≤ 1114111
    · rw [if_pos c3] at H
      have c3b0 : decide (a0 ≤ 1114111) = true := decide_eq_true c3
      clear c3
      obtain rfl := Option.some.inj H
      go_enter Tryd.func36, Tryd.ntmps36
      go_wp2
      go_ret
      exact ⟨by first | rfl | (simp; done) | (simp [*]; done), by repeat (first | exact Drawn0.refl _ | apply Drawn0.step)⟩
    · rw [if_neg c3] at H
      have c3b0 : decide (a0 ≤ 1114111) = false := decide_eq_false c3
      clear c3
      obtain rfl := Option.some.inj H
      go_enter Tryd.func36, Tryd.ntmps36
      go_wp2
      go_ret
      exact ⟨by first | rfl | (simp; done) | (simp [*]; done), by repeat (first | exact Drawn0.refl _ | apply Drawn0.step)⟩

/-! ### thistlelaw02_sound: function 11 -/
mutual
def thistlelaw02_sound.l0 : Nat → List (S29) → Int → Option (Bool)
  | 0, _, _ => none
  | k + 1, x0, x3 => if x3 < (x0.length : Int) then (if 0 ≤ x3 then ((thistlelaw02_unit.f (wrap64 ((rd_T29 x0 x3).f0))).bind fun t123 => (if t123 = true then ((thistlelaw02_unit.f (wrap64 ((rd_T29 x0 x3).f1))).bind fun t124 => (if t124 = true then (if (wrap64 ((rd_T29 x0 x3).f0)) > (wrap64 ((rd_T29 x0 x3).f1)) then (thistlelaw02_sound.j1 k x0 x3 (wrap64 ((rd_T29 x0 x3).f0)) true) else ((thistlelaw02_kind.f (wrap64 ((rd_T29 x0 x3).f0))).bind fun t125 => ((thistlelaw02_kind.f (wrap64 ((rd_T29 x0 x3).f1))).bind fun t126 => (thistlelaw02_sound.j1 k x0 x3 (wrap64 ((rd_T29 x0 x3).f0)) (t125 != t126))))) else (thistlelaw02_sound.j1 k x0 x3 (wrap64 ((rd_T29 x0 x3).f0)) true))) else (thistlelaw02_sound.j1 k x0 x3 (wrap64 ((rd_T29 x0 x3).f0)) true))) else (none)) else (some true)
def thistlelaw02_sound.j1 : Nat → List (S29) → Int → Int → Bool → Option (Bool)
  | 0, _, _, _, _ => none
  | k + 1, x0, x3, x4, x43 => if x43 = true then (some false) else (if x3 > 0 then (if 0 ≤ (wrap64 (x3 - 1)) then (if (wrap64 (x3 - 1)) < (x0.length : Int) then (if x4 ≤ (wrap64 ((wrap64 ((rd_T29 x0 (wrap64 (x3 - 1))).f1)) + 1)) then (some false) else (thistlelaw02_sound.l0 k x0 (wrap64 (x3 + 1)))) else (none)) else (none)) else (thistlelaw02_sound.l0 k x0 (wrap64 (x3 + 1))))
end
def thistlelaw02_sound.f (k : Nat) (l0 : List (S29)) : Option (Bool) := thistlelaw02_sound.l0 k l0 0
theorem thistlelaw02_sound.mono_l : ∀ k, (∀ y0 y1, LeO (thistlelaw02_sound.l0 k y0 y1) (thistlelaw02_sound.l0 (k + 1) y0 y1)) ∧ (∀ y0 y1 y2 y3, LeO (thistlelaw02_sound.j1 k y0 y1 y2 y3) (thistlelaw02_sound.j1 (k + 1) y0 y1 y2 y3))
  | 0 => ⟨fun _ _ r h => by simp [thistlelaw02_sound.l0] at h, fun _ _ _ _ r h => by simp [thistlelaw02_sound.j1] at h⟩
  | k + 1 => by
    obtain ⟨ih0, ih1⟩ := thistlelaw02_sound.mono_l k
    refine ⟨?_, ?_⟩
    · intro y0 y1
      unfold thistlelaw02_sound.l0
      repeat' first
      | (with_reducible exact ih0 _ _)
      | (with_reducible exact ih1 _ _ _ _)
      | (with_reducible exact LeO.refl _)
      | (with_reducible exact LeO.none _)
      | (with_reducible refine LeO.ite ?_ ?_)
      | (with_reducible refine LeO.bind ?_ (fun _ => ?_))
      | exact ih0 _ _
      | exact ih1 _ _ _ _
      | exact LeO.none _
      | refine LeO.ite ?_ ?_
      | refine LeO.bind ?_ (fun _ => ?_)
    · intro y0 y1 y2 y3
      unfold thistlelaw02_sound.j1
      repeat' first
      | (with_reducible exact ih0 _ _)
      | (with_reducible exact ih1 _ _ _ _)
      | (with_reducible exact LeO.refl _)
      | (with_reducible exact LeO.none _)
      | (with_reducible refine LeO.ite ?_ ?_)
      | (with_reducible refine LeO.bind ?_ (fun _ => ?_))
      | exact ih0 _ _
      | exact ih1 _ _ _ _
      | exact LeO.none _
      | refine LeO.ite ?_ ?_
      | refine LeO.bind ?_ (fun _ => ?_)
theorem thistlelaw02_sound.mono : ∀ a0 k, LeO (thistlelaw02_sound.f k a0) (thistlelaw02_sound.f (k + 1) a0) := by
  intro a0 k
  obtain ⟨ih0, ih1⟩ := thistlelaw02_sound.mono_l k
  unfold thistlelaw02_sound.f
  repeat' first
      | (with_reducible exact ih0 _ _)
      | (with_reducible exact ih1 _ _ _ _)
      | (with_reducible exact LeO.refl _)
      | (with_reducible exact LeO.none _)
      | (with_reducible refine LeO.ite ?_ ?_)
      | (with_reducible refine LeO.bind ?_ (fun _ => ?_))
      | exact ih0 _ _
      | exact ih1 _ _ _ _
      | exact LeO.none _
      | refine LeO.ite ?_ ?_
      | refine LeO.bind ?_ (fun _ => ?_)
set_option maxHeartbeats 8000000 in
set_option maxRecDepth 100000 in
theorem thistlelaw02_sound.calls (k : Nat) (A0 : Option Addr) (c0 : Nat) (l0 : List (S29)) (r : Bool) (w : World) (hr0 : Kd.C k29 w A0 l0.length l0) (hc0 : l0.length ≤ c0) (h : thistlelaw02_sound.f k l0 = some r) :
    Calls Tryd.prog 11 #[.slice A0 l0.length c0] w fun e w' => e = .returned (.bool r) ∧ Drawn0 w w' := by
  have HR0 := Aside0.mk hr0
  have HC0 := Aside0.mk hc0
  clear hr0 hc0
  have H : (thistlelaw02_sound.l0 k l0 0) = some r := h
  clear h
  have H' := Aside0.mk H
  clear H
  go_enter Tryd.func11, Tryd.ntmps11
  go_wp2
  go_loopg [3] k (fun kq v3 w' => ∃ (x3_1 : Int), v3 = .int .i64 x3_1 ∧ Aside0 (thistlelaw02_sound.l0 kq l0 x3_1 = some r) ∧ Aside0 (kq ≤ k) ∧ Drawn0 w w')
  case atStart => exact ⟨(0), (by first | rfl | (simp; done) | (simp [*]; done)), H', ⟨Nat.le_refl _⟩, by repeat (first | exact Drawn0.refl _ | apply Drawn0.step)⟩
  case round =>
    clear H'
    try clear c1
    obtain ⟨x3_1, rfl, HA, HK1, ⟨m1, rfl⟩⟩ := hrel
    cases gk with
    | zero => exact absurd HA.out (by simp [thistlelaw02_sound.l0])
    | succ k1 =>
      have H := HA.out
      clear HA
      simp only [thistlelaw02_sound.l0] at H
      by_cases c2 : x3_1 < (l0.length : Int)
      · rw [if_pos c2] at H
        have c2b0 : decide (x3_1 < (l0.length : Int)) = true := decide_eq_true c2
        clear c2
        by_cases c3 : 0 ≤ x3_1
        · rw [if_pos c3] at H
          have c3b0 : decide (0 ≤ x3_1) = true := decide_eq_true c3
          clear c3
          have HC4 := Aside0.mk H
          clear H
          have p121 : 0 ≤ (x3_1 : Int) := of_decide_eq_true (by first | (with_reducible assumption) | assumption)
          have q121 : x3_1 < (l0.length : Int) := of_decide_eq_true (by first | (with_reducible assumption) | assumption)
          obtain ⟨ad121, e121, hx121_0, hx121_1⟩ := at_T29 HR0.out x3_1 p121 q121
          cases e121
          replace p121 := eq_true p121
          replace q121 := eq_true q121
          have p122 : 0 ≤ (x3_1 : Int) := of_decide_eq_true (by first | (with_reducible assumption) | assumption)
          have q122 : x3_1 < (l0.length : Int) := of_decide_eq_true (by first | (with_reducible assumption) | assumption)
          obtain ⟨ad122, e122, hx122_0, hx122_1⟩ := at_T29 HR0.out x3_1 p122 q122
          obtain rfl : ad121 = ad122 := (by injection e122)
          replace p122 := eq_true p122
          replace q122 := eq_true q122
          go_upto_region 6 with (fail)
          go_cut [43] (fun v43 wc => ∃ (kq : Nat) (x43_3 : Bool), v43 = .bool x43_3 ∧ Aside0 (thistlelaw02_sound.j1 kq l0 x3_1 (wrap64 ((rd_T29 l0 x3_1).f0)) x43_3 = some r) ∧ Aside0 (kq ≤ k1) ∧ Drawn0 w wc)
          case first =>
            have H := HC4.out
            clear HC4
            replace H := Option.bind_eq_some_iff.mp H
            obtain ⟨t123, A50, H⟩ := H
            replace H : (if t123 = true then ((thistlelaw02_unit.f (wrap64 ((rd_T29 l0 x3_1).f1))).bind fun t124 => (if t124 = true then (if (wrap64 ((rd_T29 l0 x3_1).f0)) > (wrap64 ((rd_T29 l0 x3_1).f1)) then (thistlelaw02_sound.j1 k1 l0 x3_1 (wrap64 ((rd_T29 l0 x3_1).f0)) true) else ((thistlelaw02_kind.f (wrap64 ((rd_T29 l0 x3_1).f0))).bind fun t125 => ((thistlelaw02_kind.f (wrap64 ((rd_T29 l0 x3_1).f1))).bind fun t126 => (thistlelaw02_sound.j1 k1 l0 x3_1 (wrap64 ((rd_T29 l0 x3_1).f0)) (t125 != t126))))) else (thistlelaw02_sound.j1 k1 l0 x3_1 (wrap64 ((rd_T29 l0 x3_1).f0)) true))) else (thistlelaw02_sound.j1 k1 l0 x3_1 (wrap64 ((rd_T29 l0 x3_1).f0)) true)) = some r := H
            have A5 := Aside0.mk A50
            clear A50
            by_cases c6 : t123 = true
            · subst c6
              have H1 : ((thistlelaw02_unit.f (wrap64 ((rd_T29 l0 x3_1).f1))).bind fun t124 => (if t124 = true then (if (wrap64 ((rd_T29 l0 x3_1).f0)) > (wrap64 ((rd_T29 l0 x3_1).f1)) then (thistlelaw02_sound.j1 k1 l0 x3_1 (wrap64 ((rd_T29 l0 x3_1).f0)) true) else ((thistlelaw02_kind.f (wrap64 ((rd_T29 l0 x3_1).f0))).bind fun t125 => ((thistlelaw02_kind.f (wrap64 ((rd_T29 l0 x3_1).f1))).bind fun t126 => (thistlelaw02_sound.j1 k1 l0 x3_1 (wrap64 ((rd_T29 l0 x3_1).f0)) (t125 != t126))))) else (thistlelaw02_sound.j1 k1 l0 x3_1 (wrap64 ((rd_T29 l0 x3_1).f0)) true))) = some r := by rw [if_pos rfl] at H; exact H
              clear H
              have H := H1
              clear H1
              replace H := Option.bind_eq_some_iff.mp H
              obtain ⟨t124, A70, H⟩ := H
              replace H : (if t124 = true then (if (wrap64 ((rd_T29 l0 x3_1).f0)) > (wrap64 ((rd_T29 l0 x3_1).f1)) then (thistlelaw02_sound.j1 k1 l0 x3_1 (wrap64 ((rd_T29 l0 x3_1).f0)) true) else ((thistlelaw02_kind.f (wrap64 ((rd_T29 l0 x3_1).f0))).bind fun t125 => ((thistlelaw02_kind.f (wrap64 ((rd_T29 l0 x3_1).f1))).bind fun t126 => (thistlelaw02_sound.j1 k1 l0 x3_1 (wrap64 ((rd_T29 l0 x3_1).f0)) (t125 != t126))))) else (thistlelaw02_sound.j1 k1 l0 x3_1 (wrap64 ((rd_T29 l0 x3_1).f0)) true)) = some r := H
              have A7 := Aside0.mk A70
              clear A70
              by_cases c8 : t124 = true
              · subst c8
                have H1 : (if (wrap64 ((rd_T29 l0 x3_1).f0)) > (wrap64 ((rd_T29 l0 x3_1).f1)) then (thistlelaw02_sound.j1 k1 l0 x3_1 (wrap64 ((rd_T29 l0 x3_1).f0)) true) else ((thistlelaw02_kind.f (wrap64 ((rd_T29 l0 x3_1).f0))).bind fun t125 => ((thistlelaw02_kind.f (wrap64 ((rd_T29 l0 x3_1).f1))).bind fun t126 => (thistlelaw02_sound.j1 k1 l0 x3_1 (wrap64 ((rd_T29 l0 x3_1).f0)) (t125 != t126))))) = some r := by rw [if_pos rfl] at H; exact H
                clear H
                have H := H1
                clear H1
                by_cases c9 : (wrap64 ((rd_T29 l0 x3_1).f0)) > (wrap64 ((rd_T29 l0 x3_1).f1))
                · rw [if_pos c9] at H
                  have c9b0 : decide ((wrap64 ((rd_T29 l0 x3_1).f1)) < (wrap64 ((rd_T29 l0 x3_1).f0))) = true := decide_eq_true c9
                  clear c9
                  (first | rw [c9b0] | (simp only [i64_w, i32_w]; rw [c9b0]) | skip)
                  have H' := Aside0.mk H
                  clear H
                  have tok1_ : True := trivial
                  have tok2_ : True := trivial
                  go_wp2_with (first | ((with_reducible refine gate_callee (f := 15) rfl ?_); clear tok1_; refine goesL_ (some 25) rfl rfl Tryd.func15 (by kernel_rfl) rfl #[.int .i64 (wrap64 ((rd_T29 l0 x3_1).f0))] rfl (by (try simp only [List.map_toArray, List.map_cons, List.map_nil]); first | done | rfl | (simp only [List.length_drop, List.length_take]; rfl)) ?_; (with_reducible refine (thistlelaw02_unit.calls (wrap64 ((rd_T29 l0 x3_1).f0)) true _ A5.out).mono ?_); rintro e w' ⟨rfl, ⟨nd, rfl⟩⟩; refine ⟨_, rfl, ?_⟩) | (go_at_call 15; clear tok2_; (with_reducible refine (thistlelaw02_unit.calls (wrap64 ((rd_T29 l0 x3_1).f1)) true _ A7.out).mono ?_); rintro e w' ⟨rfl, ⟨nd, rfl⟩⟩))
                  go_meet
                  case rel => exact ⟨_, (true), (by first | rfl | (simp; done) | (simp [*]; done)), H', ⟨by have := HK1.out; first | omega | exact Nat.le_refl _⟩, by repeat (first | exact Drawn0.refl _ | apply Drawn0.step)⟩
                · rw [if_neg c9] at H
                  have c9b0 : decide ((wrap64 ((rd_T29 l0 x3_1).f1)) < (wrap64 ((rd_T29 l0 x3_1).f0))) = false := decide_eq_false c9
                  clear c9
                  (first | rw [c9b0] | (simp only [i64_w, i32_w]; rw [c9b0]) | skip)
                  replace H := Option.bind_eq_some_iff.mp H
                  obtain ⟨t125, A100, H⟩ := H
                  replace H : ((thistlelaw02_kind.f (wrap64 ((rd_T29 l0 x3_1).f1))).bind fun t126 => (thistlelaw02_sound.j1 k1 l0 x3_1 (wrap64 ((rd_T29 l0 x3_1).f0)) (t125 != t126))) = some r := H
                  have A10 := Aside0.mk A100
                  clear A100
                  replace H := Option.bind_eq_some_iff.mp H
                  obtain ⟨t126, A110, H⟩ := H
                  replace H : (thistlelaw02_sound.j1 k1 l0 x3_1 (wrap64 ((rd_T29 l0 x3_1).f0)) (t125 != t126)) = some r := H
                  have A11 := Aside0.mk A110
                  clear A110
                  have H' := Aside0.mk H
                  clear H
                  have tok3_ : True := trivial
                  have tok4_ : True := trivial
                  have tok5_ : True := trivial
                  have tok6_ : True := trivial
                  go_wp2_with (first | ((with_reducible refine gate_callee (f := 15) rfl ?_); clear tok3_; refine goesL_ (some 25) rfl rfl Tryd.func15 (by kernel_rfl) rfl #[.int .i64 (wrap64 ((rd_T29 l0 x3_1).f0))] rfl (by (try simp only [List.map_toArray, List.map_cons, List.map_nil]); first | done | rfl | (simp only [List.length_drop, List.length_take]; rfl)) ?_; (with_reducible refine (thistlelaw02_unit.calls (wrap64 ((rd_T29 l0 x3_1).f0)) true _ A5.out).mono ?_); rintro e w' ⟨rfl, ⟨nd, rfl⟩⟩; refine ⟨_, rfl, ?_⟩) | (go_at_call 15; clear tok4_; (with_reducible refine (thistlelaw02_unit.calls (wrap64 ((rd_T29 l0 x3_1).f1)) true _ A7.out).mono ?_); rintro e w' ⟨rfl, ⟨nd, rfl⟩⟩) | (go_at_call 36; clear tok5_; (with_reducible refine (thistlelaw02_kind.calls (wrap64 ((rd_T29 l0 x3_1).f0)) t125 _ A10.out).mono ?_); rintro e w' ⟨rfl, ⟨nd, rfl⟩⟩) | (go_at_call 36; clear tok6_; (with_reducible refine (thistlelaw02_kind.calls (wrap64 ((rd_T29 l0 x3_1).f1)) t126 _ A11.out).mono ?_); rintro e w' ⟨rfl, ⟨nd, rfl⟩⟩))
                  go_meet
                  case rel => exact ⟨_, ((t125 != t126)), (by first | rfl | (simp; done) | (simp [*]; done)), H', ⟨by have := HK1.out; first | omega | exact Nat.le_refl _⟩, by repeat (first | exact Drawn0.refl _ | apply Drawn0.step)⟩
              · replace c8 := Bool.eq_false_iff.mpr c8
                subst c8
                have H1 : (thistlelaw02_sound.j1 k1 l0 x3_1 (wrap64 ((rd_T29 l0 x3_1).f0)) true) = some r := by rw [if_neg (show ¬ (false = true) by decide)] at H; exact H
                clear H
                have H := H1
                clear H1
                have H' := Aside0.mk H
                clear H
                have tok7_ : True := trivial
                have tok8_ : True := trivial
                go_wp2_with (first | ((with_reducible refine gate_callee (f := 15) rfl ?_); clear tok7_; refine goesL_ (some 25) rfl rfl Tryd.func15 (by kernel_rfl) rfl #[.int .i64 (wrap64 ((rd_T29 l0 x3_1).f0))] rfl (by (try simp only [List.map_toArray, List.map_cons, List.map_nil]); first | done | rfl | (simp only [List.length_drop, List.length_take]; rfl)) ?_; (with_reducible refine (thistlelaw02_unit.calls (wrap64 ((rd_T29 l0 x3_1).f0)) true _ A5.out).mono ?_); rintro e w' ⟨rfl, ⟨nd, rfl⟩⟩; refine ⟨_, rfl, ?_⟩) | (go_at_call 15; clear tok8_; (with_reducible refine (thistlelaw02_unit.calls (wrap64 ((rd_T29 l0 x3_1).f1)) false _ A7.out).mono ?_); rintro e w' ⟨rfl, ⟨nd, rfl⟩⟩))
                go_meet
                case rel => exact ⟨_, (true), (by first | rfl | (simp; done) | (simp [*]; done)), H', ⟨by have := HK1.out; first | omega | exact Nat.le_refl _⟩, by repeat (first | exact Drawn0.refl _ | apply Drawn0.step)⟩
            · replace c6 := Bool.eq_false_iff.mpr c6
              subst c6
              have H1 : (thistlelaw02_sound.j1 k1 l0 x3_1 (wrap64 ((rd_T29 l0 x3_1).f0)) true) = some r := by rw [if_neg (show ¬ (false = true) by decide)] at H; exact H
              clear H
              have H := H1
              clear H1
              have H' := Aside0.mk H
              clear H
              go_wp2_with (first | ((with_reducible refine gate_callee (f := 15) rfl ?_); refine goesL_ (some 25) rfl rfl Tryd.func15 (by kernel_rfl) rfl #[.int .i64 (wrap64 ((rd_T29 l0 x3_1).f0))] rfl (by (try simp only [List.map_toArray, List.map_cons, List.map_nil]); first | done | rfl | (simp only [List.length_drop, List.length_take]; rfl)) ?_; (with_reducible refine (thistlelaw02_unit.calls (wrap64 ((rd_T29 l0 x3_1).f0)) false _ A5.out).mono ?_); rintro e w' ⟨rfl, ⟨nd, rfl⟩⟩; refine ⟨_, rfl, ?_⟩))
              go_meet
              case rel => exact ⟨_, (true), (by first | rfl | (simp; done) | (simp [*]; done)), H', ⟨by have := HK1.out; first | omega | exact Nat.le_refl _⟩, by repeat (first | exact Drawn0.refl _ | apply Drawn0.step)⟩
          case rest =>
            clear HC4
            try clear c1
            try clear p1
            try clear q1
            try clear hx1
            try clear c2
            try clear c2b0
            try clear p2
            try clear c3
            try clear c3b0
            try clear c6
            try clear p6
            try clear c8
            try clear c9
            try clear c9b0
            try clear c11
            try clear hx121_0
            try clear hx121_1
            try clear hx122_0
            try clear hx122_1
            try clear p121
            try clear p122
            try clear q121
            try clear q122
            obtain ⟨kq, x43_3, rfl, HA, HJ3, ⟨mc3, rfl⟩⟩ := hcut
            cases kq with
            | zero => exact absurd HA.out (by simp [thistlelaw02_sound.j1])
            | succ kj3 =>
              have H := HA.out
              clear HA
              simp only [thistlelaw02_sound.j1] at H
              by_cases c12 : x43_3 = true
              · subst c12
                have H1 : (some false) = some r := by rw [if_pos rfl] at H; exact H
                clear H
                have H := H1
                clear H1
                obtain rfl := Option.some.inj H
                go_wp2
                go_ret
                exact ⟨by first | rfl | (simp; done) | (simp [*]; done), by repeat (first | exact Drawn0.refl _ | apply Drawn0.step)⟩
              · replace c12 := Bool.eq_false_iff.mpr c12
                subst c12
                have H1 : (if x3_1 > 0 then (if 0 ≤ (wrap64 (x3_1 - 1)) then (if (wrap64 (x3_1 - 1)) < (l0.length : Int) then (if (wrap64 ((rd_T29 l0 x3_1).f0)) ≤ (wrap64 ((wrap64 ((rd_T29 l0 (wrap64 (x3_1 - 1))).f1)) + 1)) then (some false) else (thistlelaw02_sound.l0 kj3 l0 (wrap64 (x3_1 + 1)))) else (none)) else (none)) else (thistlelaw02_sound.l0 kj3 l0 (wrap64 (x3_1 + 1)))) = some r := by rw [if_neg (show ¬ (false = true) by decide)] at H; exact H
                clear H
                have H := H1
                clear H1
                by_cases c13 : x3_1 > 0
                · rw [if_pos c13] at H
                  have c13b0 : decide (0 < x3_1) = true := decide_eq_true c13
                  clear c13
                  obtain ⟨ji14, hji14⟩ : ∃ j_ : Int, (wrap64 (x3_1 - 1)) = j_ := ⟨_, rfl⟩
                  replace H : (if 0 ≤ (ji14) then (if (ji14) < (l0.length : Int) then (if (wrap64 ((rd_T29 l0 x3_1).f0)) ≤ (wrap64 ((wrap64 ((rd_T29 l0 (ji14)).f1)) + 1)) then (some false) else (thistlelaw02_sound.l0 kj3 l0 (wrap64 (x3_1 + 1)))) else (none)) else (none)) = some r := by first | (rw [hji14] at H; exact H) | (simp only [hji14] at H ⊢; exact H)
                  have hji14w : (IntKind.i64.wrap (x3_1 - 1)) = ji14 := (i64_w _).trans hji14
                  by_cases c15 : 0 ≤ (ji14)
                  · rw [if_pos c15] at H
                    have c15b0 : decide (0 ≤ (ji14)) = true := decide_eq_true c15
                    clear c15
                    by_cases c16 : (ji14) < (l0.length : Int)
                    · rw [if_pos c16] at H
                      have c16b0 : decide ((ji14) < (l0.length : Int)) = true := decide_eq_true c16
                      clear c16
                      by_cases c17 : (wrap64 ((rd_T29 l0 x3_1).f0)) ≤ (wrap64 ((wrap64 ((rd_T29 l0 (ji14)).f1)) + 1))
                      · rw [if_pos c17] at H
                        have c17b0 : decide ((wrap64 ((rd_T29 l0 x3_1).f0)) ≤ (wrap64 ((wrap64 ((rd_T29 l0 (ji14)).f1)) + 1))) = true := decide_eq_true c17
                        clear c17
                        obtain rfl := Option.some.inj H
                        have p127 : 0 ≤ ((ji14) : Int) := of_decide_eq_true (by first | (with_reducible assumption) | assumption)
                        have q127 : (ji14) < (l0.length : Int) := of_decide_eq_true (by first | (with_reducible assumption) | assumption)
                        obtain ⟨ad127, e127, hx127_0, hx127_1⟩ := at_T29 HR0.out (ji14) p127 q127
                        obtain rfl : ad121 = ad127 := (by injection e127)
                        replace p127 := eq_true p127
                        replace q127 := eq_true q127
                        go_wp2
                        go_ret
                        exact ⟨by first | rfl | (simp; done) | (simp only [← hji14] <;> (first | rfl | simp)) | (simp [*]; done), by repeat (first | exact Drawn0.refl _ | apply Drawn0.step)⟩
                      · rw [if_neg c17] at H
                        have c17b0 : decide ((wrap64 ((rd_T29 l0 x3_1).f0)) ≤ (wrap64 ((wrap64 ((rd_T29 l0 (ji14)).f1)) + 1))) = false := decide_eq_false c17
                        clear c17
                        have H' := Aside0.mk H
                        clear H
                        have p127 : 0 ≤ ((ji14) : Int) := of_decide_eq_true (by first | (with_reducible assumption) | assumption)
                        have q127 : (ji14) < (l0.length : Int) := of_decide_eq_true (by first | (with_reducible assumption) | assumption)
                        obtain ⟨ad127, e127, hx127_0, hx127_1⟩ := at_T29 HR0.out (ji14) p127 q127
                        obtain rfl : ad121 = ad127 := (by injection e127)
                        replace p127 := eq_true p127
                        replace q127 := eq_true q127
                        go_wp2
                        go_roundg kj3
                        case measure => have := HK1.out; have := HJ3.out; omega
                        case rel => exact ⟨(wrap64 (x3_1 + 1)), (by first | rfl | (simp; done) | (simp [*]; done)), H', ⟨by have := HK1.out; have := HJ3.out; omega⟩, by repeat (first | exact Drawn0.refl _ | apply Drawn0.step)⟩
                    · rw [if_neg c16] at H
                      exact absurd H (by simp)
                  · rw [if_neg c15] at H
                    exact absurd H (by simp)
                · rw [if_neg c13] at H
                  have c13b0 : decide (0 < x3_1) = false := decide_eq_false c13
                  clear c13
                  have H' := Aside0.mk H
                  clear H
                  go_wp2
                  go_roundg kj3
                  case measure => have := HK1.out; have := HJ3.out; omega
                  case rel => exact ⟨(wrap64 (x3_1 + 1)), (by first | rfl | (simp; done) | (simp [*]; done)), H', ⟨by have := HK1.out; have := HJ3.out; omega⟩, by repeat (first | exact Drawn0.refl _ | apply Drawn0.step)⟩
        · rw [if_neg c3] at H
          exact absurd H (by simp)
      · rw [if_neg c2] at H
        have c2b0 : decide (x3_1 < (l0.length : Int)) = false := decide_eq_false c2
        clear c2
        obtain rfl := Option.some.inj H
        go_wp2
        go_ret
        exact ⟨by first | rfl | (simp; done) | (simp [*]; done), by repeat (first | exact Drawn0.refl _ | apply Drawn0.step)⟩

end Go.Proofs.YtoggmegpodmfnaaDoor.PT
