/- Contracts of functions that the law reaches: what each call answers, as a plain function of what it reads; on condition that the function answers there. Printed by this session's own tool. -/
import Derived.Test.YtoggmegpodmfnaaDoorPYx0
import Derived.Test.YtoggmegpodmfnaaDoorPYx2
namespace Go.Proofs.YtoggmegpodmfnaaDoor.PY
open Go.RowKit Go.Proofs.YtoggmegpodmfnaaDoor.B Go.Proofs.YtoggmegpodmfnaaDoorW.PrintWords Go.Proofs.YtoggmegpodmfnaaDoorW.PrintLast Go.Proofs.YtoggmegpodmfnaaDoorW.PrintMore
attribute [local go_sem] max2_int min2_int max_two min_two max_three min_three max_four min_four   -- for this text's walks alone
set_option linter.unusedVariables false
set_option linter.unusedSimpArgs false

/-! ### sets_Make: function 9 -/
/-- What lies in one band of a range. -/
def clipB (lo hi : Int) (r : S29) : List S29 := if mx r.f0 lo ≤ mn r.f1 hi then [⟨mx r.f0 lo, mn r.f1 hi⟩] else []
def clips (r : S29) : List S29 := clipB 0 55295 r ++ clipB 57344 1114111 r ++ clipB 1114240 1114367 r
def clipN (k : Nat) (r : S29) : List S29 := (if 1 ≤ k then clipB 0 55295 r else []) ++ (if 2 ≤ k then clipB 57344 1114111 r else []) ++ (if 3 ≤ k then clipB 1114240 1114367 r else [])
theorem clipWrap (i : Nat) (h : i ≤ 1073741824) : wrap64 ((i : Int) + 1) = ((i + 1 : Nat) : Int) := by unfold wrap64; omega
theorem clipB_length (lo hi : Int) (r : S29) : (clipB lo hi r).length ≤ 1 := by unfold clipB; split <;> simp
def sets_Make.f (k : Nat) (l0 : List S29) : Option (List S29 × Int) :=
 if l0.length ≤ 1073741824 then (if l0.all (fun r => decide (r.f0 ≤ r.f1)) = true then (sets_gather.f k (l0.flatMap clips)).bind fun g => some (g, 0) else some ([], 2)) else none
theorem sets_Make.mono : ∀ a0 k, LeO (sets_Make.f k a0) (sets_Make.f (k + 1) a0) := by
 intro a0 k
 unfold sets_Make.f
 refine LeO.ite (LeO.ite (LeO.bind (sets_gather.mono _ _) (fun _ => LeO.refl _)) (LeO.refl _)) (LeO.none _)
set_option maxHeartbeats 4000000 in
set_option maxRecDepth 100000 in
theorem sets_Make.calls (k : Nat) (A0 : Option Addr) (c0 : Nat) (l0 : List S29) (r1 : List S29) (r2 : Int) (w : World) (hr0 : Kd.C k29 w A0 l0.length l0) (hc0 : l0.length ≤ c0) (hG : Glob w) (h : sets_Make.f k l0 = some (r1, r2)) :
  Calls Tryd.prog 9 #[.slice A0 l0.length c0] w fun e w' => ∃ v0_ : Value, e = .returned (.tuple #[v0_, .int .i64 r2]) ∧ Kd.R k29 29 w' w.heap.size (fun _ => True) v0_ r1 ∧ Below w.heap.size w w' := by
 unfold sets_Make.f at h
 by_cases hs : l0.length ≤ 1073741824
 case neg => rw [if_neg hs] at h; exact absurd h (by simp)
 rw [if_pos hs] at h
 have HR0 := Aside0.mk hr0
 have HG := Aside0.mk hG
 have HH := Aside0.mk h
 have HS := Aside0.mk hs
 clear hr0 hG h hs
 go_enter Tryd.func9, Tryd.ntmps9
 go_wp2
 go_loopw [13, 4] (fun vi vin wr => ∃ (i : Nat) (acc : List S29), vi = .int .i64 (i : Int) ∧ i ≤ l0.length ∧ Aside0 (Kd.R k29 29 wr w.heap.size (fun _ => True) vin acc) ∧ Aside0 (Below w.heap.size w wr) ∧ Aside0 (acc = (l0.take i).flatMap clips) ∧ Aside0 ((l0.take i).all (fun r => decide (r.f0 ≤ r.f1)) = true) ∧ Aside0 (acc.length ≤ 3 * i)) (fun vi _ _ => l0.length - (intOf vi).toNat)
 case atStart => exact ⟨0, [], rfl, by omega, ⟨Kd.R_nil _ _ _ _ _⟩, ⟨Below.refl _ w⟩, ⟨by simp⟩, ⟨by simp⟩, ⟨by simp⟩⟩
 case round =>
  obtain ⟨i, acc, rfl, hi, HO, HB, HA, HALL, HL⟩ := hrel
  by_cases hlt : i < l0.length
  ·
   have hd1 : decide (i < l0.length) = true := decide_eq_true hlt
   obtain ⟨ad, e, hx0, hx1⟩ := at_T29 HR0.out (i : Int) (by omega) (by omega)
   cases e
   replace hx0 := (HB.out.cell (World.block_lt_of_cell? w _ hx0)).trans hx0
   replace hx1 := (HB.out.cell (World.block_lt_of_cell? w _ hx1)).trans hx1
   obtain ⟨re, hre⟩ : ∃ x, x = rd_T29 l0 (i : Int) := ⟨_, rfl⟩
   rw [← hre] at hx0 hx1
   have HRE := Aside0.mk hre
   clear hre hlt
   simp only [Int.toNat_natCast] at hx0 hx1
   have hp := eq_true (show (0 : Int) ≤ (i : Int) by omega)
   have hq := eq_true (show (i : Int) < (l0.length : Int) from Int.ofNat_lt.2 (of_decide_eq_true hd1))
   have HGr := Aside0.mk (HG.out.of_below HB.out)
   by_cases hbad : re.f0 ≤ re.f1
   ·
    have hd2 : decide (re.f0 > re.f1) = false := decide_eq_false (by omega)
    have HGo := Aside0.mk hbad
    clear hbad
    have HGa := Aside0.mk (HGr.out.alloc (.cells #[.int .i32 re.f0, .int .i32 re.f1] 29))
    have c0 := HGa.out 0 (by omega)
    have c1 := HGa.out 1 (by omega)
    have c2 := HGa.out 2 (by omega)
    have c3 := HGa.out 3 (by omega)
    have c4 := HGa.out 4 (by omega)
    have c5 := HGa.out 5 (by omega)
    simp only [bandCells, List.getD_cons_zero, List.getD_cons_succ] at c0 c1 c2 c3 c4 c5
    go_wp2
    have BKr := Aside0.mk (show (wr.alloc (.cells #[.int .i32 re.f0, .int .i32 re.f1] 29)).heap[wr.heap.size]? = some (.cells #[.int .i32 re.f0, .int .i32 re.f1] 29 (0, 0)) by simpa using heap_alloc_new wr _)
    have HBa := Aside0.mk (below_alloc HB.out (.cells #[.int .i32 re.f0, .int .i32 re.f1] 29))
    have HOa := Aside0.mk (Kd.R_mono (Kd.R_bound (Kd.R_alloc HO.out (.cells #[.int .i32 re.f0, .int .i32 re.f1] 29))) (fun q hq => trivial) : Kd.R _ _ _ _ (fun _ => True) _ _)
    have HOb := Aside0.mk (Kd.R_alloc (Kd.R_elderB HO.out wr.heap.size (Nat.le_refl _)) (.cells #[.int .i32 re.f0, .int .i32 re.f1] 29))
    have HGE := Aside0.mk (below_size HB.out)
    generalize wr.heap.size = gr at *
    generalize hwa : (wr.alloc (.cells #[.int .i32 re.f0, .int .i32 re.f1] 29)) = wa at *
    clear c0 c1 c2 c3 c4 c5 hx0 hx1 HB HO HOa HGr hwa
    go_loopw [23, 4] (fun vk vin wi => ∃ (k : Int) (ac : List S29), vk = .int .i64 k ∧ 0 ≤ k ∧ k ≤ 3 ∧ Aside0 (Kd.R k29 29 wi w.heap.size (fun q => q ≠ gr) vin ac) ∧ Aside0 (Below w.heap.size w wi) ∧ Aside0 (wi.heap[gr]? = some (.cells #[.int .i32 re.f0, .int .i32 re.f1] 29 (0, 0))) ∧ Aside0 (ac = acc ++ clipN k.toNat re) ∧ Aside0 ((ac.length : Int) ≤ 3 * i + k)) (fun vk _ _ => 3 - (intOf vk).toNat)
    case atStart => exact ⟨0, acc, rfl, by omega, by omega, ⟨Kd.R_mono HOb.out (fun q hq => hq.2)⟩, HBa, BKr, ⟨by simp [clipN]⟩, ⟨by have := HL.out; omega⟩⟩
    case round =>
     obtain ⟨k, ac, rfl, hk0, hk, HO, HB, BK, HAC, HLC⟩ := hrel
     rcases (show k = 0 ∨ k = 1 ∨ k = 2 ∨ k = 3 by omega) with rfl | rfl | rfl | rfl
     ·
      as_aux_lemma =>
       obtain ⟨Ao, co, rfl⟩ := Kd.R_slice HO.out
       obtain ⟨lo, hlo⟩ : ∃ x, mx re.f0 0 = x := ⟨_, rfl⟩
       obtain ⟨hi', hhi⟩ : ∃ x, mn re.f1 55295 = x := ⟨_, rfl⟩
       have hcl : clipB 0 55295 re = if lo ≤ hi' then [⟨lo, hi'⟩] else [] := by unfold clipB; rw [hlo, hhi]
       have hlo_ : (if re.f0 < (0 : Int) then (0 : Int) else re.f0) = lo := hlo
       have hhi_ : (if (55295 : Int) < re.f1 then (55295 : Int) else re.f1) = hi' := hhi
       clear hlo hhi
       have HOb := Aside0.mk (Kd.R_alloc HO.out (.cells #[.int .i32 0, .int .i32 55295] 29))
       have HBb := Aside0.mk (below_alloc HB.out (.cells #[.int .i32 0, .int .i32 55295] 29))
       have BKb := Aside0.mk (blk_alloc BK.out (.cells #[.int .i32 0, .int .i32 55295] 29))
       have y0 : (wr.alloc (.cells #[.int .i32 0, .int .i32 55295] 29)).cell? ⟨wr.heap.size, 0, none⟩ = some (.int .i32 0) := (blk_cell (heap_alloc_new wr _) 0).trans rfl
       have y1 : (wr.alloc (.cells #[.int .i32 0, .int .i32 55295] 29)).cell? ⟨wr.heap.size, 1, none⟩ = some (.int .i32 55295) := (blk_cell (heap_alloc_new wr _) 1).trans rfl
       have x0 : (wr.alloc (.cells #[.int .i32 0, .int .i32 55295] 29)).cell? ⟨gr, 0, none⟩ = some (.int .i32 re.f0) := (below_alloc (Below.refl _ wr) _).cell (p := ⟨gr, 0, none⟩) (blk_lt BK.out) |>.trans ((blk_cell BK.out 0).trans rfl)
       have x1 : (wr.alloc (.cells #[.int .i32 0, .int .i32 55295] 29)).cell? ⟨gr, 1, none⟩ = some (.int .i32 re.f1) := (below_alloc (Below.refl _ wr) _).cell (p := ⟨gr, 1, none⟩) (blk_lt BK.out) |>.trans ((blk_cell BK.out 1).trans rfl)
       have hix := bandIx0
       by_cases hc : lo ≤ hi'
       ·
        as_aux_lemma =>
         have hcd : decide (lo ≤ hi') = true := decide_eq_true hc
         rw [if_pos hc] at hcl
         have HCL := Aside0.mk hcl
         clear hc hcl
         go_wp2
         generalize wr.heap.size = gb at *
         generalize hwb : wr.alloc (.cells #[.int .i32 0, .int .i32 55295] 29) = wb at *
         clear HO HB BK hwb
         have HO := HOb
         have HB := HBb
         have BK := BKb
         clear HOb HBb BKb
         go_quiet  (fail)
         go_wp2_with (first | ((with_reducible refine gate_builtin (b := .append) (xs := #[.tmp 39, .tmp 43]) rfl ?_); at_builtin; refine Kd.R_append k29 (w0 := w) w.heap.size rfl (.tmp 39) (.tmp 43) 22 29 (.agg #[(.int .i32 0), (.int .i32 0)]) 8 rfl Tryd.underlying22 info29 rfl (by decide) (by omega) (.slice Ao ac.length co) ac (⟨lo, hi'⟩ : S29) [.int .i32 lo, .int .i32 hi'] (fun q => q ≠ gr) (fun _ => False) rfl rfl ?aP (fun _ hk => hk.elim) ?aF ?aO ?aB ?aS ?aL ?_; (case aP => exact k29_mkM _ _ _ (⟨lo, hi'⟩ : S29)); (case aB => exact (by repeat (first | (with_reducible first | exact HB.out | apply below_alloc | apply pw_below_drewN | apply below_drew1) | exact HB.out))); (case aF => exact (fun k_ hk => Kd.freshB (g := gr) (o := (.cells #[.int .i32 re.f0, .int .i32 re.f1] 29 (0, 0))) (by (with_reducible repeat (first | refine blk_drewN ?_ _ | refine blk_drew ?_ | refine blk_alloc ?_ _)); exact BK.out) k_ hk)); (case aO => exact (by (with_reducible repeat (first | apply Kd.R_alloc | apply Kd.R_drewN | apply Kd.R_drew)); exact HO.out)); (case aS => exact (below_size (by repeat (first | (with_reducible first | exact HB.out | apply below_alloc | apply pw_below_drewN | apply below_drew1) | exact HB.out)))); (case aL => have := HLC.out; have := HS.out; omega); intro v1 w1 ho hb hg hat; have BK2 := Aside0.mk (blk_grown (g := gr) (o := (.cells #[.int .i32 re.f0, .int .i32 re.f1] 29 (0, 0))) (by (with_reducible repeat (first | refine blk_drewN ?_ _ | refine blk_drew ?_ | refine blk_alloc ?_ _)); exact BK.out) hg (Kd.R_away HO.out (fun _ hk => hk))); have HB2 := Aside0.mk hb; have HO2 := Aside0.mk ho; clear ho hb hg hat))
         go_roundw
         case rel => exact ⟨1, ac ++ [⟨lo, hi'⟩], rfl, by omega, by omega, HO2, HB2, BK2, ⟨by rw [HAC.out, ← HCL.out]; simp [clipN]⟩, ⟨by have := HLC.out; simp; omega⟩⟩
         case measure => simp [intOf]
       ·
        as_aux_lemma =>
         have hcd : decide (lo ≤ hi') = false := decide_eq_false hc
         rw [if_neg hc] at hcl
         have HCL := Aside0.mk hcl
         clear hc hcl
         go_wp2
         generalize wr.heap.size = gb at *
         generalize hwb : wr.alloc (.cells #[.int .i32 0, .int .i32 55295] 29) = wb at *
         clear HO HB BK hwb
         have HO := HOb
         have HB := HBb
         have BK := BKb
         clear HOb HBb BKb
         go_quiet  (fail)
         go_wp2
         go_roundw
         case rel =>
          refine ⟨1, ac, rfl, by omega, by omega, ⟨?_⟩, ⟨?_⟩, ⟨?_⟩, ⟨?_⟩, ⟨by have := HLC.out; omega⟩⟩
          ·
           (with_reducible repeat (first | apply Kd.R_alloc | apply Kd.R_drewN | apply Kd.R_drew)); exact HO.out
          ·
           repeat (first | (with_reducible first | exact HB.out | apply below_alloc | apply pw_below_drewN | apply below_drew1) | exact HB.out)
          ·
           (with_reducible repeat (first | refine blk_drewN ?_ _ | refine blk_drew ?_ | refine blk_alloc ?_ _)); exact BK.out
          ·
           rw [HAC.out]; simp [clipN, HCL.out]
         case measure => simp [intOf]
     ·
      as_aux_lemma =>
       obtain ⟨Ao, co, rfl⟩ := Kd.R_slice HO.out
       obtain ⟨lo, hlo⟩ : ∃ x, mx re.f0 57344 = x := ⟨_, rfl⟩
       obtain ⟨hi', hhi⟩ : ∃ x, mn re.f1 1114111 = x := ⟨_, rfl⟩
       have hcl : clipB 57344 1114111 re = if lo ≤ hi' then [⟨lo, hi'⟩] else [] := by unfold clipB; rw [hlo, hhi]
       have hlo_ : (if re.f0 < (57344 : Int) then (57344 : Int) else re.f0) = lo := hlo
       have hhi_ : (if (1114111 : Int) < re.f1 then (1114111 : Int) else re.f1) = hi' := hhi
       clear hlo hhi
       have HOb := Aside0.mk (Kd.R_alloc HO.out (.cells #[.int .i32 57344, .int .i32 1114111] 29))
       have HBb := Aside0.mk (below_alloc HB.out (.cells #[.int .i32 57344, .int .i32 1114111] 29))
       have BKb := Aside0.mk (blk_alloc BK.out (.cells #[.int .i32 57344, .int .i32 1114111] 29))
       have y0 : (wr.alloc (.cells #[.int .i32 57344, .int .i32 1114111] 29)).cell? ⟨wr.heap.size, 0, none⟩ = some (.int .i32 57344) := (blk_cell (heap_alloc_new wr _) 0).trans rfl
       have y1 : (wr.alloc (.cells #[.int .i32 57344, .int .i32 1114111] 29)).cell? ⟨wr.heap.size, 1, none⟩ = some (.int .i32 1114111) := (blk_cell (heap_alloc_new wr _) 1).trans rfl
       have x0 : (wr.alloc (.cells #[.int .i32 57344, .int .i32 1114111] 29)).cell? ⟨gr, 0, none⟩ = some (.int .i32 re.f0) := (below_alloc (Below.refl _ wr) _).cell (p := ⟨gr, 0, none⟩) (blk_lt BK.out) |>.trans ((blk_cell BK.out 0).trans rfl)
       have x1 : (wr.alloc (.cells #[.int .i32 57344, .int .i32 1114111] 29)).cell? ⟨gr, 1, none⟩ = some (.int .i32 re.f1) := (below_alloc (Below.refl _ wr) _).cell (p := ⟨gr, 1, none⟩) (blk_lt BK.out) |>.trans ((blk_cell BK.out 1).trans rfl)
       have hix := bandIx1
       by_cases hc : lo ≤ hi'
       ·
        as_aux_lemma =>
         have hcd : decide (lo ≤ hi') = true := decide_eq_true hc
         rw [if_pos hc] at hcl
         have HCL := Aside0.mk hcl
         clear hc hcl
         go_wp2
         generalize wr.heap.size = gb at *
         generalize hwb : wr.alloc (.cells #[.int .i32 57344, .int .i32 1114111] 29) = wb at *
         clear HO HB BK hwb
         have HO := HOb
         have HB := HBb
         have BK := BKb
         clear HOb HBb BKb
         go_quiet  (fail)
         go_wp2_with (first | ((with_reducible refine gate_builtin (b := .append) (xs := #[.tmp 39, .tmp 43]) rfl ?_); at_builtin; refine Kd.R_append k29 (w0 := w) w.heap.size rfl (.tmp 39) (.tmp 43) 22 29 (.agg #[(.int .i32 0), (.int .i32 0)]) 8 rfl Tryd.underlying22 info29 rfl (by decide) (by omega) (.slice Ao ac.length co) ac (⟨lo, hi'⟩ : S29) [.int .i32 lo, .int .i32 hi'] (fun q => q ≠ gr) (fun _ => False) rfl rfl ?aP (fun _ hk => hk.elim) ?aF ?aO ?aB ?aS ?aL ?_; (case aP => exact k29_mkM _ _ _ (⟨lo, hi'⟩ : S29)); (case aB => exact (by repeat (first | (with_reducible first | exact HB.out | apply below_alloc | apply pw_below_drewN | apply below_drew1) | exact HB.out))); (case aF => exact (fun k_ hk => Kd.freshB (g := gr) (o := (.cells #[.int .i32 re.f0, .int .i32 re.f1] 29 (0, 0))) (by (with_reducible repeat (first | refine blk_drewN ?_ _ | refine blk_drew ?_ | refine blk_alloc ?_ _)); exact BK.out) k_ hk)); (case aO => exact (by (with_reducible repeat (first | apply Kd.R_alloc | apply Kd.R_drewN | apply Kd.R_drew)); exact HO.out)); (case aS => exact (below_size (by repeat (first | (with_reducible first | exact HB.out | apply below_alloc | apply pw_below_drewN | apply below_drew1) | exact HB.out)))); (case aL => have := HLC.out; have := HS.out; omega); intro v1 w1 ho hb hg hat; have BK2 := Aside0.mk (blk_grown (g := gr) (o := (.cells #[.int .i32 re.f0, .int .i32 re.f1] 29 (0, 0))) (by (with_reducible repeat (first | refine blk_drewN ?_ _ | refine blk_drew ?_ | refine blk_alloc ?_ _)); exact BK.out) hg (Kd.R_away HO.out (fun _ hk => hk))); have HB2 := Aside0.mk hb; have HO2 := Aside0.mk ho; clear ho hb hg hat))
         go_roundw
         case rel => exact ⟨2, ac ++ [⟨lo, hi'⟩], rfl, by omega, by omega, HO2, HB2, BK2, ⟨by rw [HAC.out, ← HCL.out]; simp [clipN]⟩, ⟨by have := HLC.out; simp; omega⟩⟩
         case measure => simp [intOf]
       ·
        as_aux_lemma =>
         have hcd : decide (lo ≤ hi') = false := decide_eq_false hc
         rw [if_neg hc] at hcl
         have HCL := Aside0.mk hcl
         clear hc hcl
         go_wp2
         generalize wr.heap.size = gb at *
         generalize hwb : wr.alloc (.cells #[.int .i32 57344, .int .i32 1114111] 29) = wb at *
         clear HO HB BK hwb
         have HO := HOb
         have HB := HBb
         have BK := BKb
         clear HOb HBb BKb
         go_quiet  (fail)
         go_wp2
         go_roundw
         case rel =>
          refine ⟨2, ac, rfl, by omega, by omega, ⟨?_⟩, ⟨?_⟩, ⟨?_⟩, ⟨?_⟩, ⟨by have := HLC.out; omega⟩⟩
          ·
           (with_reducible repeat (first | apply Kd.R_alloc | apply Kd.R_drewN | apply Kd.R_drew)); exact HO.out
          ·
           repeat (first | (with_reducible first | exact HB.out | apply below_alloc | apply pw_below_drewN | apply below_drew1) | exact HB.out)
          ·
           (with_reducible repeat (first | refine blk_drewN ?_ _ | refine blk_drew ?_ | refine blk_alloc ?_ _)); exact BK.out
          ·
           rw [HAC.out]; simp [clipN, HCL.out]
         case measure => simp [intOf]
     ·
      as_aux_lemma =>
       obtain ⟨Ao, co, rfl⟩ := Kd.R_slice HO.out
       obtain ⟨lo, hlo⟩ : ∃ x, mx re.f0 1114240 = x := ⟨_, rfl⟩
       obtain ⟨hi', hhi⟩ : ∃ x, mn re.f1 1114367 = x := ⟨_, rfl⟩
       have hcl : clipB 1114240 1114367 re = if lo ≤ hi' then [⟨lo, hi'⟩] else [] := by unfold clipB; rw [hlo, hhi]
       have hlo_ : (if re.f0 < (1114240 : Int) then (1114240 : Int) else re.f0) = lo := hlo
       have hhi_ : (if (1114367 : Int) < re.f1 then (1114367 : Int) else re.f1) = hi' := hhi
       clear hlo hhi
       have HOb := Aside0.mk (Kd.R_alloc HO.out (.cells #[.int .i32 1114240, .int .i32 1114367] 29))
       have HBb := Aside0.mk (below_alloc HB.out (.cells #[.int .i32 1114240, .int .i32 1114367] 29))
       have BKb := Aside0.mk (blk_alloc BK.out (.cells #[.int .i32 1114240, .int .i32 1114367] 29))
       have y0 : (wr.alloc (.cells #[.int .i32 1114240, .int .i32 1114367] 29)).cell? ⟨wr.heap.size, 0, none⟩ = some (.int .i32 1114240) := (blk_cell (heap_alloc_new wr _) 0).trans rfl
       have y1 : (wr.alloc (.cells #[.int .i32 1114240, .int .i32 1114367] 29)).cell? ⟨wr.heap.size, 1, none⟩ = some (.int .i32 1114367) := (blk_cell (heap_alloc_new wr _) 1).trans rfl
       have x0 : (wr.alloc (.cells #[.int .i32 1114240, .int .i32 1114367] 29)).cell? ⟨gr, 0, none⟩ = some (.int .i32 re.f0) := (below_alloc (Below.refl _ wr) _).cell (p := ⟨gr, 0, none⟩) (blk_lt BK.out) |>.trans ((blk_cell BK.out 0).trans rfl)
       have x1 : (wr.alloc (.cells #[.int .i32 1114240, .int .i32 1114367] 29)).cell? ⟨gr, 1, none⟩ = some (.int .i32 re.f1) := (below_alloc (Below.refl _ wr) _).cell (p := ⟨gr, 1, none⟩) (blk_lt BK.out) |>.trans ((blk_cell BK.out 1).trans rfl)
       have hix := bandIx2
       by_cases hc : lo ≤ hi'
       ·
        as_aux_lemma =>
         have hcd : decide (lo ≤ hi') = true := decide_eq_true hc
         rw [if_pos hc] at hcl
         have HCL := Aside0.mk hcl
         clear hc hcl
         go_wp2
         generalize wr.heap.size = gb at *
         generalize hwb : wr.alloc (.cells #[.int .i32 1114240, .int .i32 1114367] 29) = wb at *
         clear HO HB BK hwb
         have HO := HOb
         have HB := HBb
         have BK := BKb
         clear HOb HBb BKb
         go_quiet  (fail)
         go_wp2_with (first | ((with_reducible refine gate_builtin (b := .append) (xs := #[.tmp 39, .tmp 43]) rfl ?_); at_builtin; refine Kd.R_append k29 (w0 := w) w.heap.size rfl (.tmp 39) (.tmp 43) 22 29 (.agg #[(.int .i32 0), (.int .i32 0)]) 8 rfl Tryd.underlying22 info29 rfl (by decide) (by omega) (.slice Ao ac.length co) ac (⟨lo, hi'⟩ : S29) [.int .i32 lo, .int .i32 hi'] (fun q => q ≠ gr) (fun _ => False) rfl rfl ?aP (fun _ hk => hk.elim) ?aF ?aO ?aB ?aS ?aL ?_; (case aP => exact k29_mkM _ _ _ (⟨lo, hi'⟩ : S29)); (case aB => exact (by repeat (first | (with_reducible first | exact HB.out | apply below_alloc | apply pw_below_drewN | apply below_drew1) | exact HB.out))); (case aF => exact (fun k_ hk => Kd.freshB (g := gr) (o := (.cells #[.int .i32 re.f0, .int .i32 re.f1] 29 (0, 0))) (by (with_reducible repeat (first | refine blk_drewN ?_ _ | refine blk_drew ?_ | refine blk_alloc ?_ _)); exact BK.out) k_ hk)); (case aO => exact (by (with_reducible repeat (first | apply Kd.R_alloc | apply Kd.R_drewN | apply Kd.R_drew)); exact HO.out)); (case aS => exact (below_size (by repeat (first | (with_reducible first | exact HB.out | apply below_alloc | apply pw_below_drewN | apply below_drew1) | exact HB.out)))); (case aL => have := HLC.out; have := HS.out; omega); intro v1 w1 ho hb hg hat; have BK2 := Aside0.mk (blk_grown (g := gr) (o := (.cells #[.int .i32 re.f0, .int .i32 re.f1] 29 (0, 0))) (by (with_reducible repeat (first | refine blk_drewN ?_ _ | refine blk_drew ?_ | refine blk_alloc ?_ _)); exact BK.out) hg (Kd.R_away HO.out (fun _ hk => hk))); have HB2 := Aside0.mk hb; have HO2 := Aside0.mk ho; clear ho hb hg hat))
         go_roundw
         case rel => exact ⟨3, ac ++ [⟨lo, hi'⟩], rfl, by omega, by omega, HO2, HB2, BK2, ⟨by rw [HAC.out, ← HCL.out]; simp [clipN]⟩, ⟨by have := HLC.out; simp; omega⟩⟩
         case measure => simp [intOf]
       ·
        as_aux_lemma =>
         have hcd : decide (lo ≤ hi') = false := decide_eq_false hc
         rw [if_neg hc] at hcl
         have HCL := Aside0.mk hcl
         clear hc hcl
         go_wp2
         generalize wr.heap.size = gb at *
         generalize hwb : wr.alloc (.cells #[.int .i32 1114240, .int .i32 1114367] 29) = wb at *
         clear HO HB BK hwb
         have HO := HOb
         have HB := HBb
         have BK := BKb
         clear HOb HBb BKb
         go_quiet  (fail)
         go_wp2
         go_roundw
         case rel =>
          refine ⟨3, ac, rfl, by omega, by omega, ⟨?_⟩, ⟨?_⟩, ⟨?_⟩, ⟨?_⟩, ⟨by have := HLC.out; omega⟩⟩
          ·
           (with_reducible repeat (first | apply Kd.R_alloc | apply Kd.R_drewN | apply Kd.R_drew)); exact HO.out
          ·
           repeat (first | (with_reducible first | exact HB.out | apply below_alloc | apply pw_below_drewN | apply below_drew1) | exact HB.out)
          ·
           (with_reducible repeat (first | refine blk_drewN ?_ _ | refine blk_drew ?_ | refine blk_alloc ?_ _)); exact BK.out
          ·
           rw [HAC.out]; simp [clipN, HCL.out]
         case measure => simp [intOf]
     ·
      as_aux_lemma =>
       have hlt : i < l0.length := of_decide_eq_true hd1
       have hget : l0[i]? = some re := by
        have h := HRE.out
        unfold rd_T29 at h
        rw [h, Int.toNat_natCast, List.getD_eq_getElem?_getD, List.getElem?_eq_getElem hlt]
        rfl
       have HGET := Aside0.mk hget
       clear hget hlt
       go_wp2
       go_roundw
       case rel => as_aux_lemma =>
        have hlt : i < l0.length := (List.getElem?_eq_some_iff.1 HGET.out).1
        have hs := HS.out
        refine ⟨i + 1, ac, by rw [clipWrap i (by omega)], by omega, ⟨Kd.R_mono HO.out (fun _ _ => trivial)⟩, HB, ⟨?_⟩, ⟨?_⟩, ⟨by have := HLC.out; omega⟩⟩
        ·
         as_aux_lemma => rw [List.take_add_one, HGET.out, HAC.out, HA.out]; simp [clipN, clips]
        ·
         as_aux_lemma => rw [List.take_add_one, HGET.out]; simp [HGo.out]; simpa using HALL.out
       case measure => as_aux_lemma =>
        have hlt : i < l0.length := (List.getElem?_eq_some_iff.1 HGET.out).1
        have hs := HS.out
        have e := clipWrap i (by omega)
        clear hs HS
        generalize wrap64 ((i : Int) + 1) = j at e ⊢
        subst e
        simp only [intOf, Int.toNat_natCast]; omega
   ·
    as_aux_lemma =>
     have hd2 : decide (re.f0 > re.f1) = true := decide_eq_true (by omega)
     have hlt : i < l0.length := of_decide_eq_true hd1
     have hre : re = l0[i] := by
      have h := HRE.out
      unfold rd_T29 at h
      rw [h, Int.toNat_natCast, List.getD_eq_getElem?_getD, List.getElem?_eq_getElem hlt]
      rfl
     have hall : ¬ (l0.all (fun r => decide (r.f0 ≤ r.f1)) = true) := fun h => hbad (by
      have := List.all_eq_true.1 h re (by rw [hre]; exact List.getElem_mem hlt)
      simpa using this)
     have h := HH.out
     rw [if_neg hall] at h
     injection h with h
     injection h with h1 h2
     subst h1; subst h2
     have HB1 := Aside0.mk (below_alloc HB.out (.cells #[.int .i32 re.f0, .int .i32 re.f1] 29))
     clear hbad hall hre hlt
     go_wp2
     go_ret2
     exact ⟨_, rfl, Kd.R_nil _ _ _ _ _, HB1.out⟩
  ·
   as_aux_lemma =>
    have hd1 : decide (i < l0.length) = false := decide_eq_false hlt
    have hil : i = l0.length := by omega
    have hall : l0.all (fun r => decide (r.f0 ≤ r.f1)) = true := by have := HALL.out; rwa [hil, List.take_length] at this
    have hacc : acc = l0.flatMap clips := by have := HA.out; rwa [hil, List.take_length] at this
    have h := HH.out
    rw [if_pos hall, ← hacc] at h
    obtain ⟨g, hg, h⟩ := Option.bind_eq_some_iff.1 h
    injection h with h
    injection h with h1 h2
    subst h1; subst h2
    have HGA := Aside0.mk hg
    have HOP := Aside0.mk (Kd.R_mono (Kd.R_bound HO.out) (fun q hq => hq.2.1) : Kd.R k29 29 wr w.heap.size (fun q => w.heap.size ≤ q) _ acc)
    clear hall hacc hg HA HALL
    go_wp2_with (go_at_call 34; refine (sets_gather.calls k (fun q => w.heap.size ≤ q) _ acc g w _ HB.out HOP.out HGA.out).mono ?_; rintro e w1 ⟨v0, rfl, hR, hb, _⟩; have HR1 := Aside0.mk hR; have HB1 := Aside0.mk hb; clear hR hb)
    go_ret2
    exact ⟨_, rfl, Kd.R_mono HR1.out (fun _ _ => trivial), HB1.out⟩

/-! ### thistlelaw02_wakes: function 8 -/
def thistlelaw02_wakes.f (k : Nat)  : Option (Bool) := (sets_Make.f k (([(⟨100, 100⟩ : S29), (⟨97, 99⟩ : S29)] : List (S29)))).bind fun bt116 => (if bt116.2 = 0 then (if (bt116.1.length : Int) = 1 then (if 0 < (bt116.1.length : Int) then (if ((rd_T29 bt116.1 0).f0) = 97 then (some (((rd_T29 bt116.1 0).f1) == 100)) else (some false)) else (none)) else (some false)) else (some false))
theorem thistlelaw02_wakes.mono : ∀ k, LeO (thistlelaw02_wakes.f k ) (thistlelaw02_wakes.f (k + 1) ) := by
 intro  k
 unfold thistlelaw02_wakes.f
 repeat' first
   | (with_reducible exact sets_Make.mono _ _)
   | (with_reducible exact LeO.refl _)
   | (with_reducible exact LeO.none _)
   | (with_reducible refine LeO.ite ?_ ?_)
   | (with_reducible refine LeO.bind ?_ (fun _ => ?_))
   | exact sets_Make.mono _ _
   | exact LeO.none _
   | refine LeO.ite ?_ ?_
   | refine LeO.bind ?_ (fun _ => ?_)
set_option maxHeartbeats 8000000 in
set_option maxRecDepth 100000 in
theorem thistlelaw02_wakes.calls (k : Nat)  (r : Bool) (w : World) (hG : Glob w) (h : thistlelaw02_wakes.f k  = some r) :
  Calls Tryd.prog 8 #[] w fun e w' => e = .returned (.bool r) ∧ Below w.heap.size w w' := by
 have hu29 := Tryd.underlying29
 have HB := Aside0.mk (Below.refl w.heap.size w)
 have H : ((sets_Make.f k (([(⟨100, 100⟩ : S29), (⟨97, 99⟩ : S29)] : List (S29)))).bind fun bt116 => (if bt116.2 = 0 then (if (bt116.1.length : Int) = 1 then (if 0 < (bt116.1.length : Int) then (if ((rd_T29 bt116.1 0).f0) = 97 then (some (((rd_T29 bt116.1 0).f1) == 100)) else (some false)) else (none)) else (some false)) else (some false))) = some r := h
 clear h
 obtain ⟨y113, hy113⟩ : ∃ y_ : List (S29), y_ = (([(⟨100, 100⟩ : S29), (⟨97, 99⟩ : S29)] : List (S29))) := ⟨_, rfl⟩
 replace H : ((sets_Make.f k y113).bind fun bt116 => (if bt116.2 = 0 then (if (bt116.1.length : Int) = 1 then (if 0 < (bt116.1.length : Int) then (if ((rd_T29 bt116.1 0).f0) = 97 then (some (((rd_T29 bt116.1 0).f1) == 100)) else (some false)) else (none)) else (some false)) else (some false))) = some r := by first | (rw [hy113]; with_reducible exact H) | (have H2_ := (Option.bind_some _ _).symm.trans H; rw [hy113]; with_reducible exact H2_) | (have H2_ := (Option.bind_some _ _).symm.trans H; with_reducible exact H2_) | with_reducible exact H | (rw [hy113]; exact H) | exact H
 have Ny113 := Aside0.mk hy113
 clear hy113
 replace H := Option.bind_eq_some_iff.mp H
 obtain ⟨⟨t116, t117⟩, A10, H⟩ := H
 replace H : (if t117 = 0 then (if (t116.length : Int) = 1 then (if 0 < (t116.length : Int) then (if ((rd_T29 t116 0).f0) = 97 then (some (((rd_T29 t116 0).f1) == 100)) else (some false)) else (none)) else (some false)) else (some false)) = some r := H
 have A1 := Aside0.mk A10
 clear A10
 by_cases c2 : t117 = 0
 ·
  rw [if_pos c2] at H
  have c2b0 : (t117 == 0) = true := beq_iff_eq.mpr c2
  have c2b1 : (t117 != 0) = false := bne_eq_false_iff_eq.mpr c2
  clear c2
  by_cases c3 : (t116.length : Int) = 1
  ·
   rw [if_pos c3] at H
   have c3b0 : ((t116.length : Int) == 1) = true := beq_iff_eq.mpr c3
   have c3b1 : ((t116.length : Int) != 1) = false := bne_eq_false_iff_eq.mpr c3
   clear c3
   by_cases c4 : 0 < (t116.length : Int)
   ·
    rw [if_pos c4] at H
    have c4b0 : decide (0 < (t116.length : Int)) = true := decide_eq_true c4
    have c4b1 : decide (0 < t116.length) = true := decide_eq_true (by omega)
    clear c4
    by_cases c5 : ((rd_T29 t116 0).f0) = 97
    ·
     rw [if_pos c5] at H
     have c5b0 : (((rd_T29 t116 0).f0) == 97) = true := beq_iff_eq.mpr c5
     have c5b1 : (((rd_T29 t116 0).f0) != 97) = false := bne_eq_false_iff_eq.mpr c5
     clear c5
     obtain rfl := Option.some.inj H
     go_enter Tryd.func8, Tryd.ntmps8
     go_wp2_with (first | ((with_reducible refine gate_dst (N := 6) rfl ?_); (try (refine gate_guard (by rfl) ?_; dsimp only)); refine Kd.R_lit k29 _ 29 ?hg (N := 6) ?hd (xs := ([(⟨100, 100⟩ : S29), (⟨97, 99⟩ : S29)] : List (S29))) (inner := [.int .i32 100, .int .i32 100, .int .i32 97, .int .i32 99]) (ok := fun _ => True) (okp := fun _ => True) ?hr ?hp (fun _ hk => hk) trivial (Below.refl _ _) (Nat.le_refl _) (by simp) ?_; (case hd => rfl); (case hg => rfl); (case hr => first | (go_simp; done) | (go_simp; rfl)); (case hp => exact (Reps.c2 (show Kd.M k29 _ _ _ (⟨100, 100⟩ : S29) [.int .i32 100, .int .i32 100] from (k29_mkM _ _ _ (⟨100, 100⟩ : S29) )) (Reps.c2 (show Kd.M k29 _ _ _ (⟨97, 99⟩ : S29) [.int .i32 97, .int .i32 99] from (k29_mkM _ _ _ (⟨97, 99⟩ : S29) )) (Reps.none _ _)))); intro v114 w6 ho7 hb hg_ hnew_; clear hg_ hnew_; (first | rw [← Ny113.out] at ho7 | (simp only [Int.reduceToNat] at ho7; rw [← Ny113.out] at ho7)); have n0_ := Aside0.mk (Kd.R_lower ho7 (below_size (by repeat (first | (with_reducible first | exact HB.out | apply below_alloc | apply pw_below_drewN | apply below_drew1) | exact HB.out)))); have n1_ := Aside0.mk (below_step (by repeat (first | (with_reducible first | exact HB.out | apply below_alloc | apply pw_below_drewN | apply below_drew1) | exact HB.out)) hb); clear HB; have HO115 := n0_; have HB := n1_; clear n0_ n1_; clear hb ho7; obtain ⟨Ao8, co8, eo8⟩ := Kd.R_slice HO115.out; subst eo8) | ((with_reducible refine gate_callee (f := 9) rfl ?_); refine goesL_ (some 7) rfl rfl Tryd.func9 (by kernel_rfl) rfl #[.slice Ao8 y113.length co8] rfl (by (try simp only [List.map_toArray, List.map_cons, List.map_nil]); first | done | rfl | (simp only [List.length_drop, List.length_take]; rfl)) ?_; (with_reducible refine (sets_Make.calls k _ _ y113 t116 t117 _ ?side1 ?side2 ?side3 A1.out).mono ?_); (case side1 => repeat (first | exact (Kd.R_reads' HO115.out).2.2 | (with_reducible refine Kd.C_alloc ?_ _) | (with_reducible refine Kd.C_drewN ?_ _) | (with_reducible refine Kd.C_drew ?_))); (case side2 => exact (Kd.R_reads' HO115.out).2.1); (case side3 => first | exact hG | exact Glob.of_below hG (by repeat (first | (with_reducible first | exact HB.out | apply below_alloc | apply pw_below_drewN | apply below_drew1) | exact HB.out)) | exact Glob.of_below hG HB.out | exact Glob.drewN hG _ | exact Glob.drew hG | (with_reducible repeat (first | exact hG | apply Glob.drewN | apply Glob.drew | apply Glob.alloc))); rintro e w9 ⟨v118, rfl, ho0, hb⟩; refine ⟨_, rfl, ?_⟩; have n0_ := Aside0.mk (Kd.R_elder' (by (with_reducible repeat (first | apply Kd.R_alloc | apply Kd.R_drewN | apply Kd.R_drew)); exact HO115.out) (Kd.R_base ho0) hb); have n1_ := Aside0.mk (Kd.R_lower (Kd.R_new' ho0 (Kd.R_lt (by (with_reducible repeat (first | apply Kd.R_alloc | apply Kd.R_drewN | apply Kd.R_drew)); exact HO115.out))) (below_size (by repeat (first | (with_reducible first | exact HB.out | apply below_alloc | apply pw_below_drewN | apply below_drew1) | exact HB.out)))); have n2_ := Aside0.mk (below_step (by repeat (first | (with_reducible first | exact HB.out | apply below_alloc | apply pw_below_drewN | apply below_drew1) | exact HB.out)) hb); clear HO115; clear HB; have HO115 := n0_; have HO119 := n1_; have HB := n2_; clear n0_ n1_ n2_; (try clear hb); (try clear hb2); (try clear hk); (try clear hi); (try clear ho0); obtain ⟨Ao10, co10, eo10⟩ := Kd.R_slice HO119.out; subst eo10; have p120 : 0 ≤ (0 : Int) := (by omega); have q120 : 0 < (t116.length : Int) := of_decide_eq_true (by first | (with_reducible assumption) | assumption); obtain ⟨ad120, e120, hx120_0, hx120_1⟩ := at_T29 (Kd.R_reads' HO119.out).2.2 0 p120 q120; cases e120; have qi120 : (0 < t116.length) = True := eq_true (by omega); (try rw [show ((0 : Int)).toNat = 0 from rfl] at hx120_0); (try rw [show 0 * 2 = 0 from rfl] at hx120_0); (try rw [Addr.add_zero'] at hx120_0); (try rw [show ((0 : Int)).toNat = 0 from rfl] at hx120_1); (try rw [show 0 * 2 = 0 from rfl] at hx120_1); (try rw [Addr.add_zero'] at hx120_1); replace p120 := eq_true p120; replace q120 := eq_true q120; have p121 : 0 ≤ (0 : Int) := (by omega); have q121 : 0 < (t116.length : Int) := of_decide_eq_true (by first | (with_reducible assumption) | assumption); obtain ⟨ad121, e121, hx121_0, hx121_1⟩ := at_T29 (Kd.R_reads' HO119.out).2.2 0 p121 q121; obtain rfl : ad120 = ad121 := (by injection e121); have qi121 : (0 < t116.length) = True := eq_true (by omega); (try rw [show ((0 : Int)).toNat = 0 from rfl] at hx121_0); (try rw [show 0 * 2 = 0 from rfl] at hx121_0); (try rw [Addr.add_zero'] at hx121_0); (try rw [show ((0 : Int)).toNat = 0 from rfl] at hx121_1); (try rw [show 0 * 2 = 0 from rfl] at hx121_1); (try rw [Addr.add_zero'] at hx121_1); replace p121 := eq_true p121; replace q121 := eq_true q121))
     go_ret
     exact ⟨by first | rfl | (simp [errW_none, errW_some] <;> rfl) | (simp [*, errW_none, errW_some] <;> rfl), by repeat (first | (with_reducible first | exact HB.out | apply below_alloc | apply pw_below_drewN | apply below_drew1) | exact HB.out)⟩
    ·
     rw [if_neg c5] at H
     have c5b0 : (((rd_T29 t116 0).f0) == 97) = false := beq_eq_false_iff_ne.mpr c5
     have c5b1 : (((rd_T29 t116 0).f0) != 97) = true := bne_iff_ne.mpr c5
     obtain rfl := Option.some.inj H
     go_enter Tryd.func8, Tryd.ntmps8
     go_wp2_with (first | ((with_reducible refine gate_dst (N := 6) rfl ?_); (try (refine gate_guard (by rfl) ?_; dsimp only)); refine Kd.R_lit k29 _ 29 ?hg (N := 6) ?hd (xs := ([(⟨100, 100⟩ : S29), (⟨97, 99⟩ : S29)] : List (S29))) (inner := [.int .i32 100, .int .i32 100, .int .i32 97, .int .i32 99]) (ok := fun _ => True) (okp := fun _ => True) ?hr ?hp (fun _ hk => hk) trivial (Below.refl _ _) (Nat.le_refl _) (by simp) ?_; (case hd => rfl); (case hg => rfl); (case hr => first | (go_simp; done) | (go_simp; rfl)); (case hp => exact (Reps.c2 (show Kd.M k29 _ _ _ (⟨100, 100⟩ : S29) [.int .i32 100, .int .i32 100] from (k29_mkM _ _ _ (⟨100, 100⟩ : S29) )) (Reps.c2 (show Kd.M k29 _ _ _ (⟨97, 99⟩ : S29) [.int .i32 97, .int .i32 99] from (k29_mkM _ _ _ (⟨97, 99⟩ : S29) )) (Reps.none _ _)))); intro v114 w11 ho12 hb hg_ hnew_; clear hg_ hnew_; (first | rw [← Ny113.out] at ho12 | (simp only [Int.reduceToNat] at ho12; rw [← Ny113.out] at ho12)); have n0_ := Aside0.mk (Kd.R_lower ho12 (below_size (by repeat (first | (with_reducible first | exact HB.out | apply below_alloc | apply pw_below_drewN | apply below_drew1) | exact HB.out)))); have n1_ := Aside0.mk (below_step (by repeat (first | (with_reducible first | exact HB.out | apply below_alloc | apply pw_below_drewN | apply below_drew1) | exact HB.out)) hb); clear HB; have HO115 := n0_; have HB := n1_; clear n0_ n1_; clear hb ho12; obtain ⟨Ao13, co13, eo13⟩ := Kd.R_slice HO115.out; subst eo13) | ((with_reducible refine gate_callee (f := 9) rfl ?_); refine goesL_ (some 7) rfl rfl Tryd.func9 (by kernel_rfl) rfl #[.slice Ao13 y113.length co13] rfl (by (try simp only [List.map_toArray, List.map_cons, List.map_nil]); first | done | rfl | (simp only [List.length_drop, List.length_take]; rfl)) ?_; (with_reducible refine (sets_Make.calls k _ _ y113 t116 t117 _ ?side1 ?side2 ?side3 A1.out).mono ?_); (case side1 => repeat (first | exact (Kd.R_reads' HO115.out).2.2 | (with_reducible refine Kd.C_alloc ?_ _) | (with_reducible refine Kd.C_drewN ?_ _) | (with_reducible refine Kd.C_drew ?_))); (case side2 => exact (Kd.R_reads' HO115.out).2.1); (case side3 => first | exact hG | exact Glob.of_below hG (by repeat (first | (with_reducible first | exact HB.out | apply below_alloc | apply pw_below_drewN | apply below_drew1) | exact HB.out)) | exact Glob.of_below hG HB.out | exact Glob.drewN hG _ | exact Glob.drew hG | (with_reducible repeat (first | exact hG | apply Glob.drewN | apply Glob.drew | apply Glob.alloc))); rintro e w14 ⟨v118, rfl, ho0, hb⟩; refine ⟨_, rfl, ?_⟩; have n0_ := Aside0.mk (Kd.R_elder' (by (with_reducible repeat (first | apply Kd.R_alloc | apply Kd.R_drewN | apply Kd.R_drew)); exact HO115.out) (Kd.R_base ho0) hb); have n1_ := Aside0.mk (Kd.R_lower (Kd.R_new' ho0 (Kd.R_lt (by (with_reducible repeat (first | apply Kd.R_alloc | apply Kd.R_drewN | apply Kd.R_drew)); exact HO115.out))) (below_size (by repeat (first | (with_reducible first | exact HB.out | apply below_alloc | apply pw_below_drewN | apply below_drew1) | exact HB.out)))); have n2_ := Aside0.mk (below_step (by repeat (first | (with_reducible first | exact HB.out | apply below_alloc | apply pw_below_drewN | apply below_drew1) | exact HB.out)) hb); clear HO115; clear HB; have HO115 := n0_; have HO119 := n1_; have HB := n2_; clear n0_ n1_ n2_; (try clear hb); (try clear hb2); (try clear hk); (try clear hi); (try clear ho0); obtain ⟨Ao15, co15, eo15⟩ := Kd.R_slice HO119.out; subst eo15; have p120 : 0 ≤ (0 : Int) := (by omega); have q120 : 0 < (t116.length : Int) := of_decide_eq_true (by first | (with_reducible assumption) | assumption); obtain ⟨ad120, e120, hx120_0, hx120_1⟩ := at_T29 (Kd.R_reads' HO119.out).2.2 0 p120 q120; cases e120; have qi120 : (0 < t116.length) = True := eq_true (by omega); (try rw [show ((0 : Int)).toNat = 0 from rfl] at hx120_0); (try rw [show 0 * 2 = 0 from rfl] at hx120_0); (try rw [Addr.add_zero'] at hx120_0); (try rw [show ((0 : Int)).toNat = 0 from rfl] at hx120_1); (try rw [show 0 * 2 = 0 from rfl] at hx120_1); (try rw [Addr.add_zero'] at hx120_1); replace p120 := eq_true p120; replace q120 := eq_true q120))
     go_ret
     exact ⟨by first | rfl | (simp [errW_none, errW_some] <;> rfl) | (simp [*, errW_none, errW_some] <;> rfl), by repeat (first | (with_reducible first | exact HB.out | apply below_alloc | apply pw_below_drewN | apply below_drew1) | exact HB.out)⟩
   ·
    rw [if_neg c4] at H
    exact absurd H (by simp)
  ·
   rw [if_neg c3] at H
   have c3b0 : ((t116.length : Int) == 1) = false := beq_eq_false_iff_ne.mpr c3
   have c3b1 : ((t116.length : Int) != 1) = true := bne_iff_ne.mpr c3
   obtain rfl := Option.some.inj H
   go_enter Tryd.func8, Tryd.ntmps8
   go_wp2_with (first | ((with_reducible refine gate_dst (N := 6) rfl ?_); (try (refine gate_guard (by rfl) ?_; dsimp only)); refine Kd.R_lit k29 _ 29 ?hg (N := 6) ?hd (xs := ([(⟨100, 100⟩ : S29), (⟨97, 99⟩ : S29)] : List (S29))) (inner := [.int .i32 100, .int .i32 100, .int .i32 97, .int .i32 99]) (ok := fun _ => True) (okp := fun _ => True) ?hr ?hp (fun _ hk => hk) trivial (Below.refl _ _) (Nat.le_refl _) (by simp) ?_; (case hd => rfl); (case hg => rfl); (case hr => first | (go_simp; done) | (go_simp; rfl)); (case hp => exact (Reps.c2 (show Kd.M k29 _ _ _ (⟨100, 100⟩ : S29) [.int .i32 100, .int .i32 100] from (k29_mkM _ _ _ (⟨100, 100⟩ : S29) )) (Reps.c2 (show Kd.M k29 _ _ _ (⟨97, 99⟩ : S29) [.int .i32 97, .int .i32 99] from (k29_mkM _ _ _ (⟨97, 99⟩ : S29) )) (Reps.none _ _)))); intro v114 w16 ho17 hb hg_ hnew_; clear hg_ hnew_; (first | rw [← Ny113.out] at ho17 | (simp only [Int.reduceToNat] at ho17; rw [← Ny113.out] at ho17)); have n0_ := Aside0.mk (Kd.R_lower ho17 (below_size (by repeat (first | (with_reducible first | exact HB.out | apply below_alloc | apply pw_below_drewN | apply below_drew1) | exact HB.out)))); have n1_ := Aside0.mk (below_step (by repeat (first | (with_reducible first | exact HB.out | apply below_alloc | apply pw_below_drewN | apply below_drew1) | exact HB.out)) hb); clear HB; have HO115 := n0_; have HB := n1_; clear n0_ n1_; clear hb ho17; obtain ⟨Ao18, co18, eo18⟩ := Kd.R_slice HO115.out; subst eo18) | ((with_reducible refine gate_callee (f := 9) rfl ?_); refine goesL_ (some 7) rfl rfl Tryd.func9 (by kernel_rfl) rfl #[.slice Ao18 y113.length co18] rfl (by (try simp only [List.map_toArray, List.map_cons, List.map_nil]); first | done | rfl | (simp only [List.length_drop, List.length_take]; rfl)) ?_; (with_reducible refine (sets_Make.calls k _ _ y113 t116 t117 _ ?side1 ?side2 ?side3 A1.out).mono ?_); (case side1 => repeat (first | exact (Kd.R_reads' HO115.out).2.2 | (with_reducible refine Kd.C_alloc ?_ _) | (with_reducible refine Kd.C_drewN ?_ _) | (with_reducible refine Kd.C_drew ?_))); (case side2 => exact (Kd.R_reads' HO115.out).2.1); (case side3 => first | exact hG | exact Glob.of_below hG (by repeat (first | (with_reducible first | exact HB.out | apply below_alloc | apply pw_below_drewN | apply below_drew1) | exact HB.out)) | exact Glob.of_below hG HB.out | exact Glob.drewN hG _ | exact Glob.drew hG | (with_reducible repeat (first | exact hG | apply Glob.drewN | apply Glob.drew | apply Glob.alloc))); rintro e w19 ⟨v118, rfl, ho0, hb⟩; refine ⟨_, rfl, ?_⟩; have n0_ := Aside0.mk (Kd.R_elder' (by (with_reducible repeat (first | apply Kd.R_alloc | apply Kd.R_drewN | apply Kd.R_drew)); exact HO115.out) (Kd.R_base ho0) hb); have n1_ := Aside0.mk (Kd.R_lower (Kd.R_new' ho0 (Kd.R_lt (by (with_reducible repeat (first | apply Kd.R_alloc | apply Kd.R_drewN | apply Kd.R_drew)); exact HO115.out))) (below_size (by repeat (first | (with_reducible first | exact HB.out | apply below_alloc | apply pw_below_drewN | apply below_drew1) | exact HB.out)))); have n2_ := Aside0.mk (below_step (by repeat (first | (with_reducible first | exact HB.out | apply below_alloc | apply pw_below_drewN | apply below_drew1) | exact HB.out)) hb); clear HO115; clear HB; have HO115 := n0_; have HO119 := n1_; have HB := n2_; clear n0_ n1_ n2_; (try clear hb); (try clear hb2); (try clear hk); (try clear hi); (try clear ho0); obtain ⟨Ao20, co20, eo20⟩ := Kd.R_slice HO119.out; subst eo20))
   go_ret
   exact ⟨by first | rfl | (simp [errW_none, errW_some] <;> rfl) | (simp [*, errW_none, errW_some] <;> rfl), by repeat (first | (with_reducible first | exact HB.out | apply below_alloc | apply pw_below_drewN | apply below_drew1) | exact HB.out)⟩
 ·
  rw [if_neg c2] at H
  have c2b0 : (t117 == 0) = false := beq_eq_false_iff_ne.mpr c2
  have c2b1 : (t117 != 0) = true := bne_iff_ne.mpr c2
  obtain rfl := Option.some.inj H
  go_enter Tryd.func8, Tryd.ntmps8
  go_wp2_with (first | ((with_reducible refine gate_dst (N := 6) rfl ?_); (try (refine gate_guard (by rfl) ?_; dsimp only)); refine Kd.R_lit k29 _ 29 ?hg (N := 6) ?hd (xs := ([(⟨100, 100⟩ : S29), (⟨97, 99⟩ : S29)] : List (S29))) (inner := [.int .i32 100, .int .i32 100, .int .i32 97, .int .i32 99]) (ok := fun _ => True) (okp := fun _ => True) ?hr ?hp (fun _ hk => hk) trivial (Below.refl _ _) (Nat.le_refl _) (by simp) ?_; (case hd => rfl); (case hg => rfl); (case hr => first | (go_simp; done) | (go_simp; rfl)); (case hp => exact (Reps.c2 (show Kd.M k29 _ _ _ (⟨100, 100⟩ : S29) [.int .i32 100, .int .i32 100] from (k29_mkM _ _ _ (⟨100, 100⟩ : S29) )) (Reps.c2 (show Kd.M k29 _ _ _ (⟨97, 99⟩ : S29) [.int .i32 97, .int .i32 99] from (k29_mkM _ _ _ (⟨97, 99⟩ : S29) )) (Reps.none _ _)))); intro v114 w21 ho22 hb hg_ hnew_; clear hg_ hnew_; (first | rw [← Ny113.out] at ho22 | (simp only [Int.reduceToNat] at ho22; rw [← Ny113.out] at ho22)); have n0_ := Aside0.mk (Kd.R_lower ho22 (below_size (by repeat (first | (with_reducible first | exact HB.out | apply below_alloc | apply pw_below_drewN | apply below_drew1) | exact HB.out)))); have n1_ := Aside0.mk (below_step (by repeat (first | (with_reducible first | exact HB.out | apply below_alloc | apply pw_below_drewN | apply below_drew1) | exact HB.out)) hb); clear HB; have HO115 := n0_; have HB := n1_; clear n0_ n1_; clear hb ho22; obtain ⟨Ao23, co23, eo23⟩ := Kd.R_slice HO115.out; subst eo23) | ((with_reducible refine gate_callee (f := 9) rfl ?_); refine goesL_ (some 7) rfl rfl Tryd.func9 (by kernel_rfl) rfl #[.slice Ao23 y113.length co23] rfl (by (try simp only [List.map_toArray, List.map_cons, List.map_nil]); first | done | rfl | (simp only [List.length_drop, List.length_take]; rfl)) ?_; (with_reducible refine (sets_Make.calls k _ _ y113 t116 t117 _ ?side1 ?side2 ?side3 A1.out).mono ?_); (case side1 => repeat (first | exact (Kd.R_reads' HO115.out).2.2 | (with_reducible refine Kd.C_alloc ?_ _) | (with_reducible refine Kd.C_drewN ?_ _) | (with_reducible refine Kd.C_drew ?_))); (case side2 => exact (Kd.R_reads' HO115.out).2.1); (case side3 => first | exact hG | exact Glob.of_below hG (by repeat (first | (with_reducible first | exact HB.out | apply below_alloc | apply pw_below_drewN | apply below_drew1) | exact HB.out)) | exact Glob.of_below hG HB.out | exact Glob.drewN hG _ | exact Glob.drew hG | (with_reducible repeat (first | exact hG | apply Glob.drewN | apply Glob.drew | apply Glob.alloc))); rintro e w24 ⟨v118, rfl, ho0, hb⟩; refine ⟨_, rfl, ?_⟩; have n0_ := Aside0.mk (Kd.R_elder' (by (with_reducible repeat (first | apply Kd.R_alloc | apply Kd.R_drewN | apply Kd.R_drew)); exact HO115.out) (Kd.R_base ho0) hb); have n1_ := Aside0.mk (Kd.R_lower (Kd.R_new' ho0 (Kd.R_lt (by (with_reducible repeat (first | apply Kd.R_alloc | apply Kd.R_drewN | apply Kd.R_drew)); exact HO115.out))) (below_size (by repeat (first | (with_reducible first | exact HB.out | apply below_alloc | apply pw_below_drewN | apply below_drew1) | exact HB.out)))); have n2_ := Aside0.mk (below_step (by repeat (first | (with_reducible first | exact HB.out | apply below_alloc | apply pw_below_drewN | apply below_drew1) | exact HB.out)) hb); clear HO115; clear HB; have HO115 := n0_; have HO119 := n1_; have HB := n2_; clear n0_ n1_ n2_; (try clear hb); (try clear hb2); (try clear hk); (try clear hi); (try clear ho0)))
  go_ret
  exact ⟨by first | rfl | (simp [errW_none, errW_some] <;> rfl) | (simp [*, errW_none, errW_some] <;> rfl), by repeat (first | (with_reducible first | exact HB.out | apply below_alloc | apply pw_below_drewN | apply below_drew1) | exact HB.out)⟩

/-! ### sets_band: function 35 -/
def sets_band.f (a0 : Int) : Option Int := some (bandOf a0)
theorem sets_band.calls (a0 : Int) (r : Int) (w : World) (hG : Glob w) (h : sets_band.f a0 = some r) :
  Calls Tryd.prog 35 #[.int .i32 a0] w fun e w' => e = .returned (.int .i64 r) ∧ Below w.heap.size w w' := by
 obtain rfl := Option.some.inj h
 exact bandCalls a0 w hG

/-! ### sets_Check: function 10 -/
mutual
def sets_Check.l0 : Nat → List (S29) → List (S29) → Int → Int → Option (Int)
 | 0, _, _, _, _ => none
 | k + 1, x0, x6, x7, x8 => if x8 < x7 then (if 0 ≤ x8 then (if x8 < (x6.length : Int) then ((sets_band.f ((rd_T29 x6 x8).f0)).bind fun t124 => (if t124 < 0 then (sets_Check.j1 k x0 x8 x6 x7 x8 true ((rd_T29 x6 x8).f0) ((rd_T29 x6 x8).f1)) else ((sets_band.f ((rd_T29 x6 x8).f1)).bind fun t125 => (if t124 = t125 then (sets_Check.j1 k x0 x8 x6 x7 x8 (decide (((rd_T29 x6 x8).f0) > ((rd_T29 x6 x8).f1))) ((rd_T29 x6 x8).f0) ((rd_T29 x6 x8).f1)) else (sets_Check.j1 k x0 x8 x6 x7 x8 true ((rd_T29 x6 x8).f0) ((rd_T29 x6 x8).f1)))))) else (none)) else (none)) else (some 0)
def sets_Check.j1 : Nat → List (S29) → Int → List (S29) → Int → Int → Bool → Int → Int → Option (Int)
 | 0, _, _, _, _, _, _, _, _ => none
 | k + 1, x0, x3, x6, x7, x8, x31, x124000, x124001 => if x31 = true then (some 1) else (if x3 > 0 then (if 0 ≤ (wrap64 (x3 - 1)) then (if (wrap64 (x3 - 1)) < (x0.length : Int) then (if x124000 ≤ ((rd_T29 x0 (wrap64 (x3 - 1))).f1) then (some 1) else (if x124000 = (wrap32 (((rd_T29 x0 (wrap64 (x3 - 1))).f1) + 1)) then (some 1) else (sets_Check.l0 k x0 x6 x7 (wrap64 (x8 + 1))))) else (none)) else (none)) else (sets_Check.l0 k x0 x6 x7 (wrap64 (x8 + 1))))
end
def sets_Check.f (k : Nat) (l0 : List (S29)) : Option (Int) := sets_Check.l0 k l0 l0 (l0.length : Int) 0
theorem sets_Check.mono_l : ∀ k, (∀ y0 y1 y2 y3, LeO (sets_Check.l0 k y0 y1 y2 y3) (sets_Check.l0 (k + 1) y0 y1 y2 y3)) ∧ (∀ y0 y1 y2 y3 y4 y5 y6 y7, LeO (sets_Check.j1 k y0 y1 y2 y3 y4 y5 y6 y7) (sets_Check.j1 (k + 1) y0 y1 y2 y3 y4 y5 y6 y7))
 | 0 => ⟨fun _ _ _ _ r h => by simp [sets_Check.l0] at h, fun _ _ _ _ _ _ _ _ r h => by simp [sets_Check.j1] at h⟩
 | k + 1 => by
  obtain ⟨ih0, ih1⟩ := sets_Check.mono_l k
  refine ⟨?_, ?_⟩
  ·
   intro y0 y1 y2 y3
   unfold sets_Check.l0
   repeat' first
   | (with_reducible exact ih0 _ _ _ _)
   | (with_reducible exact ih1 _ _ _ _ _ _ _ _)
   | (with_reducible exact LeO.refl _)
   | (with_reducible exact LeO.none _)
   | (with_reducible refine LeO.ite ?_ ?_)
   | (with_reducible refine LeO.bind ?_ (fun _ => ?_))
   | exact ih0 _ _ _ _
   | exact ih1 _ _ _ _ _ _ _ _
   | exact LeO.none _
   | refine LeO.ite ?_ ?_
   | refine LeO.bind ?_ (fun _ => ?_)
  ·
   intro y0 y1 y2 y3 y4 y5 y6 y7
   unfold sets_Check.j1
   repeat' first
   | (with_reducible exact ih0 _ _ _ _)
   | (with_reducible exact ih1 _ _ _ _ _ _ _ _)
   | (with_reducible exact LeO.refl _)
   | (with_reducible exact LeO.none _)
   | (with_reducible refine LeO.ite ?_ ?_)
   | (with_reducible refine LeO.bind ?_ (fun _ => ?_))
   | exact ih0 _ _ _ _
   | exact ih1 _ _ _ _ _ _ _ _
   | exact LeO.none _
   | refine LeO.ite ?_ ?_
   | refine LeO.bind ?_ (fun _ => ?_)
theorem sets_Check.mono : ∀ a0 k, LeO (sets_Check.f k a0) (sets_Check.f (k + 1) a0) := by
 intro a0 k
 obtain ⟨ih0, ih1⟩ := sets_Check.mono_l k
 unfold sets_Check.f
 repeat' first
   | (with_reducible exact ih0 _ _ _ _)
   | (with_reducible exact ih1 _ _ _ _ _ _ _ _)
   | (with_reducible exact LeO.refl _)
   | (with_reducible exact LeO.none _)
   | (with_reducible refine LeO.ite ?_ ?_)
   | (with_reducible refine LeO.bind ?_ (fun _ => ?_))
   | exact ih0 _ _ _ _
   | exact ih1 _ _ _ _ _ _ _ _
   | exact LeO.none _
   | refine LeO.ite ?_ ?_
   | refine LeO.bind ?_ (fun _ => ?_)
set_option maxHeartbeats 8000000 in
set_option maxRecDepth 100000 in
theorem sets_Check.calls (k : Nat) (A0 : Option Addr) (c0 : Nat) (l0 : List (S29)) (r : Int) (w : World) (hr0 : Kd.C k29 w A0 l0.length l0) (hc0 : l0.length ≤ c0) (hG : Glob w) (h : sets_Check.f k l0 = some r) :
  Calls Tryd.prog 10 #[.slice A0 l0.length c0] w fun e w' => e = .returned (.int .i64 r) ∧ Below w.heap.size w w' := by
 have hu29 := Tryd.underlying29
 have HR0 := Aside0.mk hr0
 have HC0 := Aside0.mk hc0
 clear hr0 hc0
 have HB := Aside0.mk (Below.refl w.heap.size w)
 have H : (sets_Check.l0 k l0 l0 (l0.length : Int) 0) = some r := h
 clear h
 have H' := Aside0.mk H
 clear H
 go_enter Tryd.func10, Tryd.ntmps10
 go_wp2
 repeat (go_quiet (fail); try go_wp2)
 go_loopg [8] k (fun kq v8 w' => ∃ (x8_1 : Int), v8 = .int .i64 x8_1 ∧ Aside0 (sets_Check.l0 kq l0 l0 (l0.length : Int) x8_1 = some r) ∧ Aside0 (kq ≤ k) ∧ Aside0 (Below w.heap.size w w'))
 case atStart => exact ⟨(0), (by first | rfl | (simp; done) | (simp [*]; done)), H', ⟨Nat.le_refl _⟩, ⟨by repeat (first | (with_reducible first | exact HB.out | apply below_alloc | apply pw_below_drewN | apply below_drew1) | exact HB.out)⟩⟩
 case round =>
  clear H'
  try clear c1
  obtain ⟨x8_1, rfl, HA, HK1, HB⟩ := hrel
  cases gk with
  | zero => exact absurd HA.out (by simp [sets_Check.l0])
  | succ k1 =>
   have H := HA.out
   clear HA
   simp only [sets_Check.l0] at H
   by_cases c2 : x8_1 < (l0.length : Int)
   ·
    rw [if_pos c2] at H
    have c2b0 : decide (x8_1 < (l0.length : Int)) = true := decide_eq_true c2
    clear c2
    by_cases c3 : 0 ≤ x8_1
    ·
     rw [if_pos c3] at H
     have c3b0 : decide (0 ≤ x8_1) = true := decide_eq_true c3
     clear c3
     by_cases c4 : x8_1 < (l0.length : Int)
     ·
      rw [if_pos c4] at H
      have c4b0 : decide (x8_1 < (l0.length : Int)) = true := decide_eq_true c4
      clear c4
      replace H := Option.bind_eq_some_iff.mp H
      obtain ⟨t124, A50, H⟩ := H
      replace H : (if t124 < 0 then (sets_Check.j1 k1 l0 x8_1 l0 (l0.length : Int) x8_1 true ((rd_T29 l0 x8_1).f0) ((rd_T29 l0 x8_1).f1)) else ((sets_band.f ((rd_T29 l0 x8_1).f1)).bind fun t125 => (if t124 = t125 then (sets_Check.j1 k1 l0 x8_1 l0 (l0.length : Int) x8_1 (decide (((rd_T29 l0 x8_1).f0) > ((rd_T29 l0 x8_1).f1))) ((rd_T29 l0 x8_1).f0) ((rd_T29 l0 x8_1).f1)) else (sets_Check.j1 k1 l0 x8_1 l0 (l0.length : Int) x8_1 true ((rd_T29 l0 x8_1).f0) ((rd_T29 l0 x8_1).f1))))) = some r := H
      have A5 := Aside0.mk A50
      clear A50
      have HC6 := Aside0.mk H
      clear H
      have p122 : 0 ≤ (x8_1 : Int) := of_decide_eq_true (by first | (with_reducible assumption) | assumption)
      have q122 : x8_1 < (l0.length : Int) := of_decide_eq_true (by first | (with_reducible assumption) | assumption)
      obtain ⟨ad122, e122, hx122_0, hx122_1⟩ := at_T29 HR0.out x8_1 p122 q122
      cases e122
      replace hx122_0 := (HB.out.cell (World.block_lt_of_cell? w _ hx122_0)).trans hx122_0
      replace hx122_1 := (HB.out.cell (World.block_lt_of_cell? w _ hx122_1)).trans hx122_1
      replace p122 := eq_true p122
      replace q122 := eq_true q122
      go_upto_region 5 with (first | ((with_reducible refine gate_dst (N := 4) rfl ?_); refine box_event ?hg (N := 4) ?hd (cs := #[.int .i32 0, .int .i32 0]) (t := 29) ?hr ?_; (case hd => rfl); (case hg => rfl); (case hr => first | (go_simp; done) | (go_simp; rfl)); intro gb123 hg w7 hbox hb; have n0_ := Aside0.mk (below_step (by repeat (first | (with_reducible first | exact HB.out | apply below_alloc | apply pw_below_drewN | apply below_drew1) | exact HB.out)) hb); have n1_ := Aside0.mk (hbox); have n2_ := Aside0.mk ((by rw [hg]; exact (below_size (by repeat (first | (with_reducible first | exact HB.out | apply below_alloc | apply pw_below_drewN | apply below_drew1) | exact HB.out))) : w.heap.size ≤ gb123)); have n3_ := Aside0.mk ((by rw [hg]; exact (below_size (by repeat (first | (with_reducible first | exact HB.out | apply below_alloc | apply pw_below_drewN | apply below_drew1) | exact HB.out))) : w.heap.size ≤ gb123)); clear HB; have HB := n0_; have BK123 := n1_; have GW123 := n2_; have GE123 := n3_; clear n0_ n1_ n2_ n3_; clear hb hbox hg; have hcz8_0 : w7.cell? ⟨gb123, 0, none⟩ = some (.int .i32 0) := (blk_cell BK123.out 0).trans rfl; have hcz8_1 : w7.cell? ⟨gb123, 1, none⟩ = some (.int .i32 0) := (blk_cell BK123.out 1).trans rfl; have hfz8_0 := blk_frozen BK123.out 0; have hfz8_1 := blk_frozen BK123.out 1) | (go_at_call 35; (with_reducible refine (sets_band.calls ((rd_T29 l0 x8_1).f0) t124 _ ?side1 A5.out).mono ?_); (case side1 => first | exact hG | exact Glob.of_below hG (by repeat (first | (with_reducible first | exact HB.out | apply below_alloc | apply pw_below_drewN | apply below_drew1 | refine below_set ?_ GE123.out) | exact HB.out)) | exact Glob.of_below hG HB.out | exact Glob.drewN hG _ | exact Glob.drew hG | (with_reducible repeat (first | exact hG | apply Glob.drewN | apply Glob.drew | apply Glob.alloc))); rintro e w9 ⟨rfl, hb⟩; have n0_ := Aside0.mk (blk_below (g := gb123) (o := .cells #[.int .i32 ((rd_T29 l0 x8_1).f0), .int .i32 ((rd_T29 l0 x8_1).f1)] 29 (0, 0)) (by (with_reducible repeat (first | refine blk_drewN ?_ _ | refine blk_drew ?_ | refine blk_alloc ?_ _)); refine blk_put (cs := #[.int .i32 ((rd_T29 l0 x8_1).f0), .int .i32 0]) ?_ 1 _ rfl; (with_reducible repeat (first | refine blk_drewN ?_ _ | refine blk_drew ?_ | refine blk_alloc ?_ _)); refine blk_put (cs := #[.int .i32 0, .int .i32 0]) ?_ 0 _ rfl; (with_reducible repeat (first | refine blk_drewN ?_ _ | refine blk_drew ?_ | refine blk_alloc ?_ _)); exact BK123.out) hb); have n1_ := Aside0.mk (below_step (by repeat (first | (with_reducible first | exact HB.out | apply below_alloc | apply pw_below_drewN | apply below_drew1 | refine below_set ?_ GE123.out) | exact HB.out)) hb); clear BK123; clear HB; have BK123 := n0_; have HB := n1_; clear n0_ n1_; (try clear hb); (try clear hb2); (try clear hk); (try clear hi)))
      repeat (go_quiet (first | ((with_reducible refine gate_dst (N := 4) rfl ?_); refine box_event ?hg (N := 4) ?hd (cs := #[.int .i32 0, .int .i32 0]) (t := 29) ?hr ?_; (case hd => rfl); (case hg => rfl); (case hr => first | (go_simp; done) | (go_simp; rfl)); intro gb123 hg w7 hbox hb; have n0_ := Aside0.mk (below_step (by repeat (first | (with_reducible first | exact HB.out | apply below_alloc | apply pw_below_drewN | apply below_drew1) | exact HB.out)) hb); have n1_ := Aside0.mk (hbox); have n2_ := Aside0.mk ((by rw [hg]; exact (below_size (by repeat (first | (with_reducible first | exact HB.out | apply below_alloc | apply pw_below_drewN | apply below_drew1) | exact HB.out))) : w.heap.size ≤ gb123)); have n3_ := Aside0.mk ((by rw [hg]; exact (below_size (by repeat (first | (with_reducible first | exact HB.out | apply below_alloc | apply pw_below_drewN | apply below_drew1) | exact HB.out))) : w.heap.size ≤ gb123)); clear HB; have HB := n0_; have BK123 := n1_; have GW123 := n2_; have GE123 := n3_; clear n0_ n1_ n2_ n3_; clear hb hbox hg; have hcz8_0 : w7.cell? ⟨gb123, 0, none⟩ = some (.int .i32 0) := (blk_cell BK123.out 0).trans rfl; have hcz8_1 : w7.cell? ⟨gb123, 1, none⟩ = some (.int .i32 0) := (blk_cell BK123.out 1).trans rfl; have hfz8_0 := blk_frozen BK123.out 0; have hfz8_1 := blk_frozen BK123.out 1) | (go_at_call 35; (with_reducible refine (sets_band.calls ((rd_T29 l0 x8_1).f0) t124 _ ?side1 A5.out).mono ?_); (case side1 => first | exact hG | exact Glob.of_below hG (by repeat (first | (with_reducible first | exact HB.out | apply below_alloc | apply pw_below_drewN | apply below_drew1 | refine below_set ?_ GE123.out) | exact HB.out)) | exact Glob.of_below hG HB.out | exact Glob.drewN hG _ | exact Glob.drew hG | (with_reducible repeat (first | exact hG | apply Glob.drewN | apply Glob.drew | apply Glob.alloc))); rintro e w9 ⟨rfl, hb⟩; have n0_ := Aside0.mk (blk_below (g := gb123) (o := .cells #[.int .i32 ((rd_T29 l0 x8_1).f0), .int .i32 ((rd_T29 l0 x8_1).f1)] 29 (0, 0)) (by (with_reducible repeat (first | refine blk_drewN ?_ _ | refine blk_drew ?_ | refine blk_alloc ?_ _)); refine blk_put (cs := #[.int .i32 ((rd_T29 l0 x8_1).f0), .int .i32 0]) ?_ 1 _ rfl; (with_reducible repeat (first | refine blk_drewN ?_ _ | refine blk_drew ?_ | refine blk_alloc ?_ _)); refine blk_put (cs := #[.int .i32 0, .int .i32 0]) ?_ 0 _ rfl; (with_reducible repeat (first | refine blk_drewN ?_ _ | refine blk_drew ?_ | refine blk_alloc ?_ _)); exact BK123.out) hb); have n1_ := Aside0.mk (below_step (by repeat (first | (with_reducible first | exact HB.out | apply below_alloc | apply pw_below_drewN | apply below_drew1 | refine below_set ?_ GE123.out) | exact HB.out)) hb); clear BK123; clear HB; have BK123 := n0_; have HB := n1_; clear n0_ n1_; (try clear hb); (try clear hb2); (try clear hk); (try clear hi))); go_upto_region 5 with (first | ((with_reducible refine gate_dst (N := 4) rfl ?_); refine box_event ?hg (N := 4) ?hd (cs := #[.int .i32 0, .int .i32 0]) (t := 29) ?hr ?_; (case hd => rfl); (case hg => rfl); (case hr => first | (go_simp; done) | (go_simp; rfl)); intro gb123 hg w7 hbox hb; have n0_ := Aside0.mk (below_step (by repeat (first | (with_reducible first | exact HB.out | apply below_alloc | apply pw_below_drewN | apply below_drew1) | exact HB.out)) hb); have n1_ := Aside0.mk (hbox); have n2_ := Aside0.mk ((by rw [hg]; exact (below_size (by repeat (first | (with_reducible first | exact HB.out | apply below_alloc | apply pw_below_drewN | apply below_drew1) | exact HB.out))) : w.heap.size ≤ gb123)); have n3_ := Aside0.mk ((by rw [hg]; exact (below_size (by repeat (first | (with_reducible first | exact HB.out | apply below_alloc | apply pw_below_drewN | apply below_drew1) | exact HB.out))) : w.heap.size ≤ gb123)); clear HB; have HB := n0_; have BK123 := n1_; have GW123 := n2_; have GE123 := n3_; clear n0_ n1_ n2_ n3_; clear hb hbox hg; have hcz8_0 : w7.cell? ⟨gb123, 0, none⟩ = some (.int .i32 0) := (blk_cell BK123.out 0).trans rfl; have hcz8_1 : w7.cell? ⟨gb123, 1, none⟩ = some (.int .i32 0) := (blk_cell BK123.out 1).trans rfl; have hfz8_0 := blk_frozen BK123.out 0; have hfz8_1 := blk_frozen BK123.out 1) | (go_at_call 35; (with_reducible refine (sets_band.calls ((rd_T29 l0 x8_1).f0) t124 _ ?side1 A5.out).mono ?_); (case side1 => first | exact hG | exact Glob.of_below hG (by repeat (first | (with_reducible first | exact HB.out | apply below_alloc | apply pw_below_drewN | apply below_drew1 | refine below_set ?_ GE123.out) | exact HB.out)) | exact Glob.of_below hG HB.out | exact Glob.drewN hG _ | exact Glob.drew hG | (with_reducible repeat (first | exact hG | apply Glob.drewN | apply Glob.drew | apply Glob.alloc))); rintro e w9 ⟨rfl, hb⟩; have n0_ := Aside0.mk (blk_below (g := gb123) (o := .cells #[.int .i32 ((rd_T29 l0 x8_1).f0), .int .i32 ((rd_T29 l0 x8_1).f1)] 29 (0, 0)) (by (with_reducible repeat (first | refine blk_drewN ?_ _ | refine blk_drew ?_ | refine blk_alloc ?_ _)); refine blk_put (cs := #[.int .i32 ((rd_T29 l0 x8_1).f0), .int .i32 0]) ?_ 1 _ rfl; (with_reducible repeat (first | refine blk_drewN ?_ _ | refine blk_drew ?_ | refine blk_alloc ?_ _)); refine blk_put (cs := #[.int .i32 0, .int .i32 0]) ?_ 0 _ rfl; (with_reducible repeat (first | refine blk_drewN ?_ _ | refine blk_drew ?_ | refine blk_alloc ?_ _)); exact BK123.out) hb); have n1_ := Aside0.mk (below_step (by repeat (first | (with_reducible first | exact HB.out | apply below_alloc | apply pw_below_drewN | apply below_drew1 | refine below_set ?_ GE123.out) | exact HB.out)) hb); clear BK123; clear HB; have BK123 := n0_; have HB := n1_; clear n0_ n1_; (try clear hb); (try clear hb2); (try clear hk); (try clear hi))))
      (try simp only [Act.put, List.setIfInBounds_toArray, List.set_cons_zero, List.set_cons_succ])
      go_cut [31] (fun v31 wc => ∃ (kq : Nat) (x31_5 : Bool), v31 = .bool x31_5 ∧ Aside0 (sets_Check.j1 kq l0 x8_1 l0 (l0.length : Int) x8_1 x31_5 ((rd_T29 l0 x8_1).f0) ((rd_T29 l0 x8_1).f1) = some r) ∧ Aside0 (kq ≤ k1) ∧ Aside0 (wc.heap[gb123]? = some (.cells #[.int .i32 ((rd_T29 l0 x8_1).f0), .int .i32 ((rd_T29 l0 x8_1).f1)] 29 (0, 0))) ∧ Aside0 (Below w.heap.size w wc))
      case first =>
       have H := HC6.out
       clear HC6
       by_cases c10 : t124 < 0
       ·
        rw [if_pos c10] at H
        have c10b0 : decide (t124 < 0) = true := decide_eq_true c10
        clear c10
        (first | rw [c10b0] | (simp only [i64_w, i32_w]; rw [c10b0]) | skip)
        have H' := Aside0.mk H
        clear H
        go_wp2
        repeat (go_quiet (fail); try go_wp2)
        go_meet
        case rel => exact ⟨_, (true), (by first | rfl | (simp; done) | (simp [*]; done)), H', ⟨by have := HK1.out; first | omega | exact Nat.le_refl _⟩, ⟨by (with_reducible repeat (first | refine blk_drewN ?_ _ | refine blk_drew ?_ | refine blk_alloc ?_ _)); exact BK123.out⟩, ⟨by repeat (first | (with_reducible first | exact HB.out | apply below_alloc | apply pw_below_drewN | apply below_drew1 | refine below_set ?_ GE123.out) | exact HB.out)⟩⟩
       ·
        rw [if_neg c10] at H
        have c10b0 : decide (t124 < 0) = false := decide_eq_false c10
        clear c10
        (first | rw [c10b0] | (simp only [i64_w, i32_w]; rw [c10b0]) | skip)
        replace H := Option.bind_eq_some_iff.mp H
        obtain ⟨t125, A110, H⟩ := H
        replace H : (if t124 = t125 then (sets_Check.j1 k1 l0 x8_1 l0 (l0.length : Int) x8_1 (decide (((rd_T29 l0 x8_1).f0) > ((rd_T29 l0 x8_1).f1))) ((rd_T29 l0 x8_1).f0) ((rd_T29 l0 x8_1).f1)) else (sets_Check.j1 k1 l0 x8_1 l0 (l0.length : Int) x8_1 true ((rd_T29 l0 x8_1).f0) ((rd_T29 l0 x8_1).f1))) = some r := H
        have A11 := Aside0.mk A110
        clear A110
        by_cases c12 : t124 = t125
        ·
         rw [if_pos c12] at H
         have c12b0 : (t124 == t125) = true := beq_iff_eq.mpr c12
         have c12b1 : (t124 != t125) = false := bne_eq_false_iff_eq.mpr c12
         clear c12
         have H' := Aside0.mk H
         clear H
         have hcz13_0 : w9.cell? ⟨gb123, 0, none⟩ = some (.int .i32 ((rd_T29 l0 x8_1).f0)) := (blk_cell BK123.out 0).trans rfl
         have hcz13_1 : w9.cell? ⟨gb123, 1, none⟩ = some (.int .i32 ((rd_T29 l0 x8_1).f1)) := (blk_cell BK123.out 1).trans rfl
         have hfz13_0 := blk_frozen BK123.out 0
         have hfz13_1 := blk_frozen BK123.out 1
         go_wp2_with (first | (go_at_call 35; (with_reducible refine (sets_band.calls ((rd_T29 l0 x8_1).f1) t125 _ ?side1 A11.out).mono ?_); (case side1 => first | exact hG | exact Glob.of_below hG (by repeat (first | (with_reducible first | exact HB.out | apply below_alloc | apply pw_below_drewN | apply below_drew1 | refine below_set ?_ GE123.out) | exact HB.out)) | exact Glob.of_below hG HB.out | exact Glob.drewN hG _ | exact Glob.drew hG | (with_reducible repeat (first | exact hG | apply Glob.drewN | apply Glob.drew | apply Glob.alloc))); rintro e w14 ⟨rfl, hb⟩; have n0_ := Aside0.mk (blk_below (g := gb123) (o := .cells #[.int .i32 ((rd_T29 l0 x8_1).f0), .int .i32 ((rd_T29 l0 x8_1).f1)] 29 (0, 0)) (by (with_reducible repeat (first | refine blk_drewN ?_ _ | refine blk_drew ?_ | refine blk_alloc ?_ _)); exact BK123.out) hb); have n1_ := Aside0.mk (below_step (by repeat (first | (with_reducible first | exact HB.out | apply below_alloc | apply pw_below_drewN | apply below_drew1 | refine below_set ?_ GE123.out) | exact HB.out)) hb); clear BK123; clear HB; have BK123 := n0_; have HB := n1_; clear n0_ n1_; (try clear hb); (try clear hb2); (try clear hk); (try clear hi); have hcz15_0 : w14.cell? ⟨gb123, 0, none⟩ = some (.int .i32 ((rd_T29 l0 x8_1).f0)) := (blk_cell BK123.out 0).trans rfl; have hcz15_1 : w14.cell? ⟨gb123, 1, none⟩ = some (.int .i32 ((rd_T29 l0 x8_1).f1)) := (blk_cell BK123.out 1).trans rfl; have hfz15_0 := blk_frozen BK123.out 0; have hfz15_1 := blk_frozen BK123.out 1))
         repeat (go_quiet (first | (go_at_call 35; (with_reducible refine (sets_band.calls ((rd_T29 l0 x8_1).f1) t125 _ ?side1 A11.out).mono ?_); (case side1 => first | exact hG | exact Glob.of_below hG (by repeat (first | (with_reducible first | exact HB.out | apply below_alloc | apply pw_below_drewN | apply below_drew1 | refine below_set ?_ GE123.out) | exact HB.out)) | exact Glob.of_below hG HB.out | exact Glob.drewN hG _ | exact Glob.drew hG | (with_reducible repeat (first | exact hG | apply Glob.drewN | apply Glob.drew | apply Glob.alloc))); rintro e w14 ⟨rfl, hb⟩; have n0_ := Aside0.mk (blk_below (g := gb123) (o := .cells #[.int .i32 ((rd_T29 l0 x8_1).f0), .int .i32 ((rd_T29 l0 x8_1).f1)] 29 (0, 0)) (by (with_reducible repeat (first | refine blk_drewN ?_ _ | refine blk_drew ?_ | refine blk_alloc ?_ _)); exact BK123.out) hb); have n1_ := Aside0.mk (below_step (by repeat (first | (with_reducible first | exact HB.out | apply below_alloc | apply pw_below_drewN | apply below_drew1 | refine below_set ?_ GE123.out) | exact HB.out)) hb); clear BK123; clear HB; have BK123 := n0_; have HB := n1_; clear n0_ n1_; (try clear hb); (try clear hb2); (try clear hk); (try clear hi); have hcz15_0 : w14.cell? ⟨gb123, 0, none⟩ = some (.int .i32 ((rd_T29 l0 x8_1).f0)) := (blk_cell BK123.out 0).trans rfl; have hcz15_1 : w14.cell? ⟨gb123, 1, none⟩ = some (.int .i32 ((rd_T29 l0 x8_1).f1)) := (blk_cell BK123.out 1).trans rfl; have hfz15_0 := blk_frozen BK123.out 0; have hfz15_1 := blk_frozen BK123.out 1)); try go_wp2_with (first | (go_at_call 35; (with_reducible refine (sets_band.calls ((rd_T29 l0 x8_1).f1) t125 _ ?side1 A11.out).mono ?_); (case side1 => first | exact hG | exact Glob.of_below hG (by repeat (first | (with_reducible first | exact HB.out | apply below_alloc | apply pw_below_drewN | apply below_drew1 | refine below_set ?_ GE123.out) | exact HB.out)) | exact Glob.of_below hG HB.out | exact Glob.drewN hG _ | exact Glob.drew hG | (with_reducible repeat (first | exact hG | apply Glob.drewN | apply Glob.drew | apply Glob.alloc))); rintro e w14 ⟨rfl, hb⟩; have n0_ := Aside0.mk (blk_below (g := gb123) (o := .cells #[.int .i32 ((rd_T29 l0 x8_1).f0), .int .i32 ((rd_T29 l0 x8_1).f1)] 29 (0, 0)) (by (with_reducible repeat (first | refine blk_drewN ?_ _ | refine blk_drew ?_ | refine blk_alloc ?_ _)); exact BK123.out) hb); have n1_ := Aside0.mk (below_step (by repeat (first | (with_reducible first | exact HB.out | apply below_alloc | apply pw_below_drewN | apply below_drew1 | refine below_set ?_ GE123.out) | exact HB.out)) hb); clear BK123; clear HB; have BK123 := n0_; have HB := n1_; clear n0_ n1_; (try clear hb); (try clear hb2); (try clear hk); (try clear hi); have hcz15_0 : w14.cell? ⟨gb123, 0, none⟩ = some (.int .i32 ((rd_T29 l0 x8_1).f0)) := (blk_cell BK123.out 0).trans rfl; have hcz15_1 : w14.cell? ⟨gb123, 1, none⟩ = some (.int .i32 ((rd_T29 l0 x8_1).f1)) := (blk_cell BK123.out 1).trans rfl; have hfz15_0 := blk_frozen BK123.out 0; have hfz15_1 := blk_frozen BK123.out 1)))
         go_meet
         case rel => exact ⟨_, (decide (((rd_T29 l0 x8_1).f0) > ((rd_T29 l0 x8_1).f1))), (by first | rfl | (simp; done) | (simp [*]; done)), H', ⟨by have := HK1.out; first | omega | exact Nat.le_refl _⟩, ⟨by (with_reducible repeat (first | refine blk_drewN ?_ _ | refine blk_drew ?_ | refine blk_alloc ?_ _)); exact BK123.out⟩, ⟨by repeat (first | (with_reducible first | exact HB.out | apply below_alloc | apply pw_below_drewN | apply below_drew1 | refine below_set ?_ GE123.out) | exact HB.out)⟩⟩
        ·
         rw [if_neg c12] at H
         have c12b0 : (t124 == t125) = false := beq_eq_false_iff_ne.mpr c12
         have c12b1 : (t124 != t125) = true := bne_iff_ne.mpr c12
         have H' := Aside0.mk H
         clear H
         have hcz16_0 : w9.cell? ⟨gb123, 0, none⟩ = some (.int .i32 ((rd_T29 l0 x8_1).f0)) := (blk_cell BK123.out 0).trans rfl
         have hcz16_1 : w9.cell? ⟨gb123, 1, none⟩ = some (.int .i32 ((rd_T29 l0 x8_1).f1)) := (blk_cell BK123.out 1).trans rfl
         have hfz16_0 := blk_frozen BK123.out 0
         have hfz16_1 := blk_frozen BK123.out 1
         go_wp2_with (first | (go_at_call 35; (with_reducible refine (sets_band.calls ((rd_T29 l0 x8_1).f1) t125 _ ?side1 A11.out).mono ?_); (case side1 => first | exact hG | exact Glob.of_below hG (by repeat (first | (with_reducible first | exact HB.out | apply below_alloc | apply pw_below_drewN | apply below_drew1 | refine below_set ?_ GE123.out) | exact HB.out)) | exact Glob.of_below hG HB.out | exact Glob.drewN hG _ | exact Glob.drew hG | (with_reducible repeat (first | exact hG | apply Glob.drewN | apply Glob.drew | apply Glob.alloc))); rintro e w17 ⟨rfl, hb⟩; have n0_ := Aside0.mk (blk_below (g := gb123) (o := .cells #[.int .i32 ((rd_T29 l0 x8_1).f0), .int .i32 ((rd_T29 l0 x8_1).f1)] 29 (0, 0)) (by (with_reducible repeat (first | refine blk_drewN ?_ _ | refine blk_drew ?_ | refine blk_alloc ?_ _)); exact BK123.out) hb); have n1_ := Aside0.mk (below_step (by repeat (first | (with_reducible first | exact HB.out | apply below_alloc | apply pw_below_drewN | apply below_drew1 | refine below_set ?_ GE123.out) | exact HB.out)) hb); clear BK123; clear HB; have BK123 := n0_; have HB := n1_; clear n0_ n1_; (try clear hb); (try clear hb2); (try clear hk); (try clear hi)))
         repeat (go_quiet (first | (go_at_call 35; (with_reducible refine (sets_band.calls ((rd_T29 l0 x8_1).f1) t125 _ ?side1 A11.out).mono ?_); (case side1 => first | exact hG | exact Glob.of_below hG (by repeat (first | (with_reducible first | exact HB.out | apply below_alloc | apply pw_below_drewN | apply below_drew1 | refine below_set ?_ GE123.out) | exact HB.out)) | exact Glob.of_below hG HB.out | exact Glob.drewN hG _ | exact Glob.drew hG | (with_reducible repeat (first | exact hG | apply Glob.drewN | apply Glob.drew | apply Glob.alloc))); rintro e w17 ⟨rfl, hb⟩; have n0_ := Aside0.mk (blk_below (g := gb123) (o := .cells #[.int .i32 ((rd_T29 l0 x8_1).f0), .int .i32 ((rd_T29 l0 x8_1).f1)] 29 (0, 0)) (by (with_reducible repeat (first | refine blk_drewN ?_ _ | refine blk_drew ?_ | refine blk_alloc ?_ _)); exact BK123.out) hb); have n1_ := Aside0.mk (below_step (by repeat (first | (with_reducible first | exact HB.out | apply below_alloc | apply pw_below_drewN | apply below_drew1 | refine below_set ?_ GE123.out) | exact HB.out)) hb); clear BK123; clear HB; have BK123 := n0_; have HB := n1_; clear n0_ n1_; (try clear hb); (try clear hb2); (try clear hk); (try clear hi))); try go_wp2_with (first | (go_at_call 35; (with_reducible refine (sets_band.calls ((rd_T29 l0 x8_1).f1) t125 _ ?side1 A11.out).mono ?_); (case side1 => first | exact hG | exact Glob.of_below hG (by repeat (first | (with_reducible first | exact HB.out | apply below_alloc | apply pw_below_drewN | apply below_drew1 | refine below_set ?_ GE123.out) | exact HB.out)) | exact Glob.of_below hG HB.out | exact Glob.drewN hG _ | exact Glob.drew hG | (with_reducible repeat (first | exact hG | apply Glob.drewN | apply Glob.drew | apply Glob.alloc))); rintro e w17 ⟨rfl, hb⟩; have n0_ := Aside0.mk (blk_below (g := gb123) (o := .cells #[.int .i32 ((rd_T29 l0 x8_1).f0), .int .i32 ((rd_T29 l0 x8_1).f1)] 29 (0, 0)) (by (with_reducible repeat (first | refine blk_drewN ?_ _ | refine blk_drew ?_ | refine blk_alloc ?_ _)); exact BK123.out) hb); have n1_ := Aside0.mk (below_step (by repeat (first | (with_reducible first | exact HB.out | apply below_alloc | apply pw_below_drewN | apply below_drew1 | refine below_set ?_ GE123.out) | exact HB.out)) hb); clear BK123; clear HB; have BK123 := n0_; have HB := n1_; clear n0_ n1_; (try clear hb); (try clear hb2); (try clear hk); (try clear hi))))
         go_meet
         case rel => exact ⟨_, (true), (by first | rfl | (simp; done) | (simp [*]; done)), H', ⟨by have := HK1.out; first | omega | exact Nat.le_refl _⟩, ⟨by (with_reducible repeat (first | refine blk_drewN ?_ _ | refine blk_drew ?_ | refine blk_alloc ?_ _)); exact BK123.out⟩, ⟨by repeat (first | (with_reducible first | exact HB.out | apply below_alloc | apply pw_below_drewN | apply below_drew1 | refine below_set ?_ GE123.out) | exact HB.out)⟩⟩
      case rest =>
       clear HC6
       try clear c1
       try clear p1
       try clear q1
       try clear hx1
       try clear c2
       try clear c2b0
       try clear p2
       try clear c3
       try clear c3b0
       try clear c4
       try clear c4b0
       try clear c10
       try clear c10b0
       try clear c12
       try clear c12b0
       try clear c12b1
       try clear p12
       try clear q12
       try clear hx12
       try clear hcz13_0
       try clear hcz13_1
       try clear hcz15_0
       try clear hcz15_1
       try clear hcz16_0
       try clear hcz16_1
       try clear hcz8_0
       try clear hcz8_1
       try clear hfz13_0
       try clear hfz13_1
       try clear hfz15_0
       try clear hfz15_1
       try clear hfz16_0
       try clear hfz16_1
       try clear hfz8_0
       try clear hfz8_1
       try clear hx122_0
       try clear hx122_1
       try clear p122
       try clear q122
       obtain ⟨kq, x31_5, rfl, HA, HJ5, BK123, HB⟩ := hcut
       cases kq with
       | zero => exact absurd HA.out (by simp [sets_Check.j1])
       | succ kj5 =>
        have H := HA.out
        clear HA
        simp only [sets_Check.j1] at H
        by_cases c18 : x31_5 = true
        ·
         subst c18
         have H1 : (some 1) = some r := by rw [if_pos rfl] at H; exact H
         clear H
         have H := H1
         clear H1
         obtain rfl := Option.some.inj H
         go_wp2
         repeat (go_quiet (fail); try go_wp2)
         go_ret
         exact ⟨by first | rfl | (simp [errW_none, errW_some] <;> rfl) | (simp [*, errW_none, errW_some] <;> rfl), by repeat (first | (with_reducible first | exact HB.out | apply below_alloc | apply pw_below_drewN | apply below_drew1 | refine below_set ?_ GE123.out) | exact HB.out)⟩
        ·
         replace c18 := Bool.eq_false_iff.mpr c18
         subst c18
         have H1 : (if x8_1 > 0 then (if 0 ≤ (wrap64 (x8_1 - 1)) then (if (wrap64 (x8_1 - 1)) < (l0.length : Int) then (if ((rd_T29 l0 x8_1).f0) ≤ ((rd_T29 l0 (wrap64 (x8_1 - 1))).f1) then (some 1) else (if ((rd_T29 l0 x8_1).f0) = (wrap32 (((rd_T29 l0 (wrap64 (x8_1 - 1))).f1) + 1)) then (some 1) else (sets_Check.l0 kj5 l0 l0 (l0.length : Int) (wrap64 (x8_1 + 1))))) else (none)) else (none)) else (sets_Check.l0 kj5 l0 l0 (l0.length : Int) (wrap64 (x8_1 + 1)))) = some r := by rw [if_neg (show ¬ (false = true) by decide)] at H; exact H
         clear H
         have H := H1
         clear H1
         by_cases c19 : x8_1 > 0
         ·
          rw [if_pos c19] at H
          have c19b0 : decide (0 < x8_1) = true := decide_eq_true c19
          clear c19
          obtain ⟨ji20, hji20⟩ : ∃ j_ : Int, (wrap64 (x8_1 - 1)) = j_ := ⟨_, rfl⟩
          replace H : (if 0 ≤ (ji20) then (if (ji20) < (l0.length : Int) then (if ((rd_T29 l0 x8_1).f0) ≤ ((rd_T29 l0 (ji20)).f1) then (some 1) else (if ((rd_T29 l0 x8_1).f0) = (wrap32 (((rd_T29 l0 (ji20)).f1) + 1)) then (some 1) else (sets_Check.l0 kj5 l0 l0 (l0.length : Int) (wrap64 (x8_1 + 1))))) else (none)) else (none)) = some r := by first | (rw [hji20] at H; exact H) | (simp only [hji20] at H ⊢; exact H)
          have hji20w : (IntKind.i64.wrap (x8_1 - 1)) = ji20 := (i64_w _).trans hji20
          by_cases c21 : 0 ≤ (ji20)
          ·
           rw [if_pos c21] at H
           have c21b0 : decide (0 ≤ (ji20)) = true := decide_eq_true c21
           clear c21
           by_cases c22 : (ji20) < (l0.length : Int)
           ·
            rw [if_pos c22] at H
            have c22b0 : decide ((ji20) < (l0.length : Int)) = true := decide_eq_true c22
            clear c22
            by_cases c23 : ((rd_T29 l0 x8_1).f0) ≤ ((rd_T29 l0 (ji20)).f1)
            ·
             rw [if_pos c23] at H
             have c23b0 : decide (((rd_T29 l0 x8_1).f0) ≤ ((rd_T29 l0 (ji20)).f1)) = true := decide_eq_true c23
             clear c23
             obtain rfl := Option.some.inj H
             have hcz24_0 : wc.cell? ⟨gb123, 0, none⟩ = some (.int .i32 ((rd_T29 l0 x8_1).f0)) := (blk_cell BK123.out 0).trans rfl
             have hcz24_1 : wc.cell? ⟨gb123, 1, none⟩ = some (.int .i32 ((rd_T29 l0 x8_1).f1)) := (blk_cell BK123.out 1).trans rfl
             have hfz24_0 := blk_frozen BK123.out 0
             have hfz24_1 := blk_frozen BK123.out 1
             have p126 : 0 ≤ ((ji20) : Int) := of_decide_eq_true (by first | (with_reducible assumption) | assumption)
             have q126 : (ji20) < (l0.length : Int) := of_decide_eq_true (by first | (with_reducible assumption) | assumption)
             obtain ⟨ad126, e126, hx126_0, hx126_1⟩ := at_T29 HR0.out (ji20) p126 q126
             obtain rfl : ad122 = ad126 := (by injection e126)
             replace hx126_0 := (HB.out.cell (World.block_lt_of_cell? w _ hx126_0)).trans hx126_0
             replace hx126_1 := (HB.out.cell (World.block_lt_of_cell? w _ hx126_1)).trans hx126_1
             replace p126 := eq_true p126
             replace q126 := eq_true q126
             go_wp2
             repeat (go_quiet (fail); try go_wp2)
             go_ret
             exact ⟨by first | rfl | (simp [errW_none, errW_some] <;> rfl) | (simp only [← hji20]; first | rfl | (simp [errW_none, errW_some] <;> rfl)) | (simp [*, errW_none, errW_some] <;> rfl), by repeat (first | (with_reducible first | exact HB.out | apply below_alloc | apply pw_below_drewN | apply below_drew1 | refine below_set ?_ GE123.out) | exact HB.out)⟩
            ·
             rw [if_neg c23] at H
             have c23b0 : decide (((rd_T29 l0 x8_1).f0) ≤ ((rd_T29 l0 (ji20)).f1)) = false := decide_eq_false c23
             clear c23
             by_cases c25 : ((rd_T29 l0 x8_1).f0) = (wrap32 (((rd_T29 l0 (ji20)).f1) + 1))
             ·
              rw [if_pos c25] at H
              have c25b0 : (((rd_T29 l0 x8_1).f0) == (wrap32 (((rd_T29 l0 (ji20)).f1) + 1))) = true := beq_iff_eq.mpr c25
              have c25b1 : (((rd_T29 l0 x8_1).f0) != (wrap32 (((rd_T29 l0 (ji20)).f1) + 1))) = false := bne_eq_false_iff_eq.mpr c25
              clear c25
              obtain rfl := Option.some.inj H
              have hcz26_0 : wc.cell? ⟨gb123, 0, none⟩ = some (.int .i32 ((rd_T29 l0 x8_1).f0)) := (blk_cell BK123.out 0).trans rfl
              have hcz26_1 : wc.cell? ⟨gb123, 1, none⟩ = some (.int .i32 ((rd_T29 l0 x8_1).f1)) := (blk_cell BK123.out 1).trans rfl
              have hfz26_0 := blk_frozen BK123.out 0
              have hfz26_1 := blk_frozen BK123.out 1
              have p126 : 0 ≤ ((ji20) : Int) := of_decide_eq_true (by first | (with_reducible assumption) | assumption)
              have q126 : (ji20) < (l0.length : Int) := of_decide_eq_true (by first | (with_reducible assumption) | assumption)
              obtain ⟨ad126, e126, hx126_0, hx126_1⟩ := at_T29 HR0.out (ji20) p126 q126
              obtain rfl : ad122 = ad126 := (by injection e126)
              replace hx126_0 := (HB.out.cell (World.block_lt_of_cell? w _ hx126_0)).trans hx126_0
              replace hx126_1 := (HB.out.cell (World.block_lt_of_cell? w _ hx126_1)).trans hx126_1
              replace p126 := eq_true p126
              replace q126 := eq_true q126
              have p127 : 0 ≤ ((ji20) : Int) := of_decide_eq_true (by first | (with_reducible assumption) | assumption)
              have q127 : (ji20) < (l0.length : Int) := of_decide_eq_true (by first | (with_reducible assumption) | assumption)
              obtain ⟨ad127, e127, hx127_0, hx127_1⟩ := at_T29 HR0.out (ji20) p127 q127
              obtain rfl : ad122 = ad127 := (by injection e127)
              replace hx127_0 := (HB.out.cell (World.block_lt_of_cell? w _ hx127_0)).trans hx127_0
              replace hx127_1 := (HB.out.cell (World.block_lt_of_cell? w _ hx127_1)).trans hx127_1
              replace p127 := eq_true p127
              replace q127 := eq_true q127
              go_wp2
              repeat (go_quiet (fail); try go_wp2)
              go_ret
              exact ⟨by first | rfl | (simp [errW_none, errW_some] <;> rfl) | (simp only [← hji20]; first | rfl | (simp [errW_none, errW_some] <;> rfl)) | (simp [*, errW_none, errW_some] <;> rfl), by repeat (first | (with_reducible first | exact HB.out | apply below_alloc | apply pw_below_drewN | apply below_drew1 | refine below_set ?_ GE123.out) | exact HB.out)⟩
             ·
              rw [if_neg c25] at H
              have c25b0 : (((rd_T29 l0 x8_1).f0) == (wrap32 (((rd_T29 l0 (ji20)).f1) + 1))) = false := beq_eq_false_iff_ne.mpr c25
              have c25b1 : (((rd_T29 l0 x8_1).f0) != (wrap32 (((rd_T29 l0 (ji20)).f1) + 1))) = true := bne_iff_ne.mpr c25
              have H' := Aside0.mk H
              clear H
              have hcz27_0 : wc.cell? ⟨gb123, 0, none⟩ = some (.int .i32 ((rd_T29 l0 x8_1).f0)) := (blk_cell BK123.out 0).trans rfl
              have hcz27_1 : wc.cell? ⟨gb123, 1, none⟩ = some (.int .i32 ((rd_T29 l0 x8_1).f1)) := (blk_cell BK123.out 1).trans rfl
              have hfz27_0 := blk_frozen BK123.out 0
              have hfz27_1 := blk_frozen BK123.out 1
              have p126 : 0 ≤ ((ji20) : Int) := of_decide_eq_true (by first | (with_reducible assumption) | assumption)
              have q126 : (ji20) < (l0.length : Int) := of_decide_eq_true (by first | (with_reducible assumption) | assumption)
              obtain ⟨ad126, e126, hx126_0, hx126_1⟩ := at_T29 HR0.out (ji20) p126 q126
              obtain rfl : ad122 = ad126 := (by injection e126)
              replace hx126_0 := (HB.out.cell (World.block_lt_of_cell? w _ hx126_0)).trans hx126_0
              replace hx126_1 := (HB.out.cell (World.block_lt_of_cell? w _ hx126_1)).trans hx126_1
              replace p126 := eq_true p126
              replace q126 := eq_true q126
              have p127 : 0 ≤ ((ji20) : Int) := of_decide_eq_true (by first | (with_reducible assumption) | assumption)
              have q127 : (ji20) < (l0.length : Int) := of_decide_eq_true (by first | (with_reducible assumption) | assumption)
              obtain ⟨ad127, e127, hx127_0, hx127_1⟩ := at_T29 HR0.out (ji20) p127 q127
              obtain rfl : ad122 = ad127 := (by injection e127)
              replace hx127_0 := (HB.out.cell (World.block_lt_of_cell? w _ hx127_0)).trans hx127_0
              replace hx127_1 := (HB.out.cell (World.block_lt_of_cell? w _ hx127_1)).trans hx127_1
              replace p127 := eq_true p127
              replace q127 := eq_true q127
              go_wp2
              repeat (go_quiet (fail); try go_wp2)
              go_roundg kj5
              case measure => have := HK1.out; have := HJ5.out; omega
              case rel => exact ⟨(wrap64 (x8_1 + 1)), (by first | rfl | (simp; done) | (simp [*]; done)), H', ⟨by have := HK1.out; have := HJ5.out; omega⟩, ⟨by repeat (first | (with_reducible first | exact HB.out | apply below_alloc | apply pw_below_drewN | apply below_drew1 | refine below_set ?_ GE123.out) | exact HB.out)⟩⟩
           ·
            rw [if_neg c22] at H
            exact absurd H (by simp)
          ·
           rw [if_neg c21] at H
           exact absurd H (by simp)
         ·
          rw [if_neg c19] at H
          have c19b0 : decide (0 < x8_1) = false := decide_eq_false c19
          clear c19
          have H' := Aside0.mk H
          clear H
          go_wp2
          repeat (go_quiet (fail); try go_wp2)
          go_roundg kj5
          case measure => have := HK1.out; have := HJ5.out; omega
          case rel => exact ⟨(wrap64 (x8_1 + 1)), (by first | rfl | (simp; done) | (simp [*]; done)), H', ⟨by have := HK1.out; have := HJ5.out; omega⟩, ⟨by repeat (first | (with_reducible first | exact HB.out | apply below_alloc | apply pw_below_drewN | apply below_drew1 | refine below_set ?_ GE123.out) | exact HB.out)⟩⟩
     ·
      rw [if_neg c4] at H
      exact absurd H (by simp)
    ·
     rw [if_neg c3] at H
     exact absurd H (by simp)
   ·
    rw [if_neg c2] at H
    have c2b0 : decide (x8_1 < (l0.length : Int)) = false := decide_eq_false c2
    clear c2
    obtain rfl := Option.some.inj H
    go_wp2
    repeat (go_quiet (fail); try go_wp2)
    go_ret
    exact ⟨by first | rfl | (simp [errW_none, errW_some] <;> rfl) | (simp [*, errW_none, errW_some] <;> rfl), by repeat (first | (with_reducible first | exact HB.out | apply below_alloc | apply pw_below_drewN | apply below_drew1) | exact HB.out)⟩

/-! ### thistlelaw02_unit: function 15 -/
def thistlelaw02_unit.f (a0 : Int) : Option (Bool) := if a0 ≥ 0 then (if a0 < 55296 then (some true) else (if a0 > 57343 then (if a0 ≤ 1114111 then (some true) else (if a0 ≥ 1114240 then (some (decide (a0 ≤ 1114367))) else (some false))) else (if a0 ≥ 1114240 then (some (decide (a0 ≤ 1114367))) else (some false)))) else (if a0 > 57343 then (if a0 ≤ 1114111 then (some true) else (if a0 ≥ 1114240 then (some (decide (a0 ≤ 1114367))) else (some false))) else (if a0 ≥ 1114240 then (some (decide (a0 ≤ 1114367))) else (some false)))
set_option maxHeartbeats 8000000 in
set_option maxRecDepth 100000 in
theorem thistlelaw02_unit.calls (a0 : Int) (r : Bool) (w : World) (h : thistlelaw02_unit.f a0 = some r) :
  Calls Tryd.prog 15 #[.int .i64 a0] w fun e w' => e = .returned (.bool r) ∧ Drawn0 w w' := by
 have H : (if a0 ≥ 0 then (if a0 < 55296 then (some true) else (if a0 > 57343 then (if a0 ≤ 1114111 then (some true) else (if a0 ≥ 1114240 then (some (decide (a0 ≤ 1114367))) else (some false))) else (if a0 ≥ 1114240 then (some (decide (a0 ≤ 1114367))) else (some false)))) else (if a0 > 57343 then (if a0 ≤ 1114111 then (some true) else (if a0 ≥ 1114240 then (some (decide (a0 ≤ 1114367))) else (some false))) else (if a0 ≥ 1114240 then (some (decide (a0 ≤ 1114367))) else (some false)))) = some r := h
 clear h
 by_cases c2 : a0 ≥ 0
 ·
  rw [if_pos c2] at H
  have c2b0 : decide (0 ≤ a0) = true := decide_eq_true c2
  clear c2
  by_cases c3 : a0 < 55296
  ·
   rw [if_pos c3] at H
   have c3b0 : decide (a0 < 55296) = true := decide_eq_true c3
   clear c3
   obtain rfl := Option.some.inj H
   go_enter Tryd.func15, Tryd.ntmps15
   go_wp2
   go_ret
   exact ⟨by first | rfl | (simp; done) | (simp [*]; done), by repeat (first | exact Drawn0.refl _ | apply Drawn0.step)⟩
  ·
   rw [if_neg c3] at H
   have c3b0 : decide (a0 < 55296) = false := decide_eq_false c3
   clear c3
   by_cases c4 : a0 > 57343
   ·
    rw [if_pos c4] at H
    have c4b0 : decide (57343 < a0) = true := decide_eq_true c4
    clear c4
    by_cases c5 : a0 ≤ 1114111
    ·
     rw [if_pos c5] at H
     have c5b0 : decide (a0 ≤ 1114111) = true := decide_eq_true c5
     clear c5
     obtain rfl := Option.some.inj H
     go_enter Tryd.func15, Tryd.ntmps15
     go_wp2
     go_ret
     exact ⟨by first | rfl | (simp; done) | (simp [*]; done), by repeat (first | exact Drawn0.refl _ | apply Drawn0.step)⟩
    ·
     rw [if_neg c5] at H
     have c5b0 : decide (a0 ≤ 1114111) = false := decide_eq_false c5
     clear c5
     by_cases c6 : a0 ≥ 1114240
     ·
      rw [if_pos c6] at H
      have c6b0 : decide (1114240 ≤ a0) = true := decide_eq_true c6
      clear c6
      obtain rfl := Option.some.inj H
      go_enter Tryd.func15, Tryd.ntmps15
      go_wp2
      go_ret
      exact ⟨by first | rfl | (simp; done) | (simp [*]; done), by repeat (first | exact Drawn0.refl _ | apply Drawn0.step)⟩
     ·
      rw [if_neg c6] at H
      have c6b0 : decide (1114240 ≤ a0) = false := decide_eq_false c6
      clear c6
      obtain rfl := Option.some.inj H
      go_enter Tryd.func15, Tryd.ntmps15
      go_wp2
      go_ret
      exact ⟨by first | rfl | (simp; done) | (simp [*]; done), by repeat (first | exact Drawn0.refl _ | apply Drawn0.step)⟩
   ·
    rw [if_neg c4] at H
    have c4b0 : decide (57343 < a0) = false := decide_eq_false c4
    clear c4
    by_cases c7 : a0 ≥ 1114240
    ·
     rw [if_pos c7] at H
     have c7b0 : decide (1114240 ≤ a0) = true := decide_eq_true c7
     clear c7
     obtain rfl := Option.some.inj H
     go_enter Tryd.func15, Tryd.ntmps15
     go_wp2
     go_ret
     exact ⟨by first | rfl | (simp; done) | (simp [*]; done), by repeat (first | exact Drawn0.refl _ | apply Drawn0.step)⟩
    ·
     rw [if_neg c7] at H
     have c7b0 : decide (1114240 ≤ a0) = false := decide_eq_false c7
     clear c7
     obtain rfl := Option.some.inj H
     go_enter Tryd.func15, Tryd.ntmps15
     go_wp2
     go_ret
     exact ⟨by first | rfl | (simp; done) | (simp [*]; done), by repeat (first | exact Drawn0.refl _ | apply Drawn0.step)⟩
 ·
  rw [if_neg c2] at H
  have c2b0 : decide (0 ≤ a0) = false := decide_eq_false c2
  clear c2
  by_cases c8 : a0 > 57343
  ·
   rw [if_pos c8] at H
   have c8b0 : decide (57343 < a0) = true := decide_eq_true c8
   clear c8
   by_cases c9 : a0 ≤ 1114111
   ·
    rw [if_pos c9] at H
    have c9b0 : decide (a0 ≤ 1114111) = true := decide_eq_true c9
    clear c9
    obtain rfl := Option.some.inj H
    go_enter Tryd.func15, Tryd.ntmps15
    go_wp2
    go_ret
    exact ⟨by first | rfl | (simp; done) | (simp [*]; done), by repeat (first | exact Drawn0.refl _ | apply Drawn0.step)⟩
   ·
    rw [if_neg c9] at H
    have c9b0 : decide (a0 ≤ 1114111) = false := decide_eq_false c9
    clear c9
    by_cases c10 : a0 ≥ 1114240
    ·
     rw [if_pos c10] at H
     have c10b0 : decide (1114240 ≤ a0) = true := decide_eq_true c10
     clear c10
     obtain rfl := Option.some.inj H
     go_enter Tryd.func15, Tryd.ntmps15
     go_wp2
     go_ret
     exact ⟨by first | rfl | (simp; done) | (simp [*]; done), by repeat (first | exact Drawn0.refl _ | apply Drawn0.step)⟩
    ·
     rw [if_neg c10] at H
     have c10b0 : decide (1114240 ≤ a0) = false := decide_eq_false c10
     clear c10
     obtain rfl := Option.some.inj H
     go_enter Tryd.func15, Tryd.ntmps15
     go_wp2
     go_ret
     exact ⟨by first | rfl | (simp; done) | (simp [*]; done), by repeat (first | exact Drawn0.refl _ | apply Drawn0.step)⟩
  ·
   rw [if_neg c8] at H
   have c8b0 : decide (57343 < a0) = false := decide_eq_false c8
   clear c8
   by_cases c11 : a0 ≥ 1114240
   ·
    rw [if_pos c11] at H
    have c11b0 : decide (1114240 ≤ a0) = true := decide_eq_true c11
    clear c11
    obtain rfl := Option.some.inj H
    go_enter Tryd.func15, Tryd.ntmps15
    go_wp2
    go_ret
    exact ⟨by first | rfl | (simp; done) | (simp [*]; done), by repeat (first | exact Drawn0.refl _ | apply Drawn0.step)⟩
   ·
    rw [if_neg c11] at H
    have c11b0 : decide (1114240 ≤ a0) = false := decide_eq_false c11
    clear c11
    obtain rfl := Option.some.inj H
    go_enter Tryd.func15, Tryd.ntmps15
    go_wp2
    go_ret
    exact ⟨by first | rfl | (simp; done) | (simp [*]; done), by repeat (first | exact Drawn0.refl _ | apply Drawn0.step)⟩

end Go.Proofs.YtoggmegpodmfnaaDoor.PY
