/- The law's plain side (SetsPicksA): what the printed functions come to; each theorem states its own conditions. -/
import Derived.Test.YtoggmegpodmfnaaDoorPVx0
import Derived.Test.YtoggmegpodmfnaaDoorPVx3
import Derived.Test.YtoggmegpodmfnaaDoorBSetsBand
import Derived.Test.YtoggmegpodmfnaaDoorBGlobSets
import Derived.Test.YtoggmegpodmfnaaDoorBSortK
import Derived.Test.YtoggmegpodmfnaaDoorQSetsRef
import Derived.Test.YtoggmegpodmfnaaDoorQSetsRef2
import Derived.Test.YtoggmegpodmfnaaDoorQSetsRef3
import Derived.Test.YtoggmegpodmfnaaDoorQSetsSize
import Derived.Test.YtoggmegpodmfnaaDoorQSetsPicksP
import Derived.Lib.SliceRun
import Derived.RangeFuncNested
import Derived.RangeFuncBound
import Derived.RangeFuncCalls
import Derived.RangeFuncLeaves
import Derived.RangeFuncFrom
import Derived.Shelf.Abstract
import Derived.Shelf.RegionOpen
import Derived.OwnWalkIn
import Derived.TacticsInMore
import Derived.LoopNIn
import Derived.LoopIn
import Derived.Laws.MakeOwn
import Derived.Shelf.Spec.SlicesGrow
import Derived.OneCell
namespace Go.Proofs.YtoggmegpodmfnaaDoor.Q
open Go.RowKit Go.Proofs.YtoggmegpodmfnaaDoorW.PrintWords Go.Proofs.YtoggmegpodmfnaaDoorW.PrintLast Go.Proofs.YtoggmegpodmfnaaDoorW.PrintMore Go.Proofs.YtoggmegpodmfnaaDoor.PV Go.Proofs.YtoggmegpodmfnaaDoor.B
set_option linter.unusedVariables false
set_option linter.unusedSimpArgs false
open Go.Shelf
attribute [local go_sem] Oper.semAt_some
set_option maxHeartbeats 4000000 in
set_option maxRecDepth 100000 in
theorem clone_calls (A0 : Option Addr) (c0 : Nat) (l0 : List Rg) (w : World) (hl : l0.length ≤ 1073741824) (hr0 : Kd.C k29 w A0 l0.length l0) (hc0 : l0.length ≤ c0) :
    Calls Tryd.prog 38 #[.slice A0 l0.length c0] w fun e w' => ∃ v0_ : Value, e = .returned v0_ ∧ Kd.R k29 29 w' w.heap.size (fun _ => True) v0_ l0 ∧ Below w.heap.size w w' := by
  have HR0 := Aside0.mk hr0
  cases A0 with
  | none =>
    have hz : l0 = [] := by
      cases l0 with
      | nil => rfl
      | cons x r => obtain ⟨ad, e, _⟩ := hr0.2.2 (by simp); cases e
    clear hr0
    subst hz
    have hEq : ∀ W, (binOp .eql 22 (.slice none 0 c0) (.slice none 0 0)).run Tryd.prog W = .ok (.bool true) W := fun W => Lib.run_eql_slice_nil W 22 29 none 0 c0 0 0 Tryd.underlying22
    go_enter Tryd.func38, Tryd.ntmps38
    go_wp2
    go_ret
    exact ⟨_, rfl, Kd.R_nil _ _ _ _ _, Below.refl _ _⟩
  | some a0 =>
    have hEq : ∀ W, (binOp .eql 22 (.slice (some a0) l0.length c0) (.slice none 0 0)).run Tryd.prog W = .ok (.bool false) W := fun W => Lib.run_eql_slice_nil W 22 29 (some a0) l0.length c0 0 0 Tryd.underlying22
    have HL := Aside0.mk hl
    clear hl hr0
    go_enter Tryd.func38, Tryd.ntmps38
    go_wp2_with (first
      | ((with_reducible refine gate_dst (N := 5) rfl ?_); refine Kd.R_lit k29 _ 29 ?hg (N := 5) ?hd (xs := ([] : List Rg)) (inner := []) (ok := fun _ => True) (okp := fun _ => True) ?hr ?hp (fun _ hk => hk) trivial (Below.refl _ _) (Nat.le_refl _) (by simp) ?_; (case hd => rfl); (case hg => rfl); (case hr => first | (go_simp; done) | (go_simp; rfl)); (case hp => exact (Reps.none _ _)); intro v1 w1 ho1 hb1 hg_ hnew_; clear hg_ hnew_; have HO1 := Aside0.mk ho1; have HB1 := Aside0.mk hb1; clear ho1 hb1)
      | ((with_reducible refine gate_builtin (b := .append) (xs := #[.tmp 5, .tmp 6]) rfl ?_); at_builtin; refine Kd.R_append_rows k29 (w0 := w) w.heap.size rfl (.tmp 5) (.tmp 6) 22 29 (.agg #[(.int .i32 0), (.int .i32 0)]) 8 rfl Tryd.underlying22 info29 rfl (by decide) (by omega) v1 ([] : List Rg) l0 _ _ _ (fun _ => True) (fun _ => False) rfl rfl HO1.out (Kd.C_below HR0.out HB1.out) (fun x cs hcs => by rw [k29_open hcs]; exact k29_mkM _ _ _ x) (fun _ hk => hk.elim) (fun _ _ => trivial) HB1.out (below_size HB1.out) (by have := HL.out; simp only [List.length_nil]; omega) ?_; intro v2 w2 ho hb hg hat; have HO2 := Aside0.mk ho; have HB2 := Aside0.mk hb; clear ho hb hg hat))
    go_ret
    exact ⟨_, rfl, HO2.out, HB2.out⟩
/-- What is laid behind a list that is handed in with room. -/
def mark (i : Nat) : Rg := ⟨-7 - (i : Int), (i : Int)⟩
def marks (n : Nat) : List Rg := (List.range n).map mark
theorem marks_succ (n : Nat) : marks (n + 1) = marks n ++ [mark n] := by simp [marks, List.range_succ]
theorem marks_len (n : Nat) : (marks n).length = n := by simp [marks]
theorem made_row {w : World} {c : Nat} (hc : c ≤ 1073741824) : ∀ (MC : Array Value), MC.size = c * 2 → Kd.R k29 29 (w.alloc (.cells MC 29)) w.heap.size (fun _ => True) (.slice (some ⟨w.heap.size, 0, none⟩) 0 c) [] := by
  intro MC h
  exact ⟨fun _ _ => trivial, [], ⟨by simp, .inr ⟨w.heap.size, _, _, rfl, Nat.le_refl _, heap_alloc_new w _, Nat.zero_le _, by unfold maxLen; omega, h, by simp⟩⟩, Reps.none _ _⟩
set_option maxHeartbeats 4000000 in
set_option maxRecDepth 100000 in
theorem roomy_calls (A0 : Option Addr) (c0 : Nat) (l0 : List Rg) (w : World) (hl : l0.length ≤ 1114368) (hr0 : Kd.C k29 w A0 l0.length l0) (hc0 : l0.length ≤ c0) :
    Calls Tryd.prog 19 #[.slice A0 l0.length c0] w fun e w' => ∃ v0_ : Value, e = .returned v0_ ∧ Kd.R k29 29 w' w.heap.size (fun _ => True) v0_ (l0 ++ marks 40) ∧ Below w.heap.size w w' := by
  have HR0 := Aside0.mk hr0
  obtain ⟨i0, hi, hzz⟩ := Option.map_eq_some_iff.1 info29
  simp only [Prod.mk.injEq] at hzz
  obtain ⟨hz0, hz1, hz2⟩ := hzz
  obtain ⟨MC, hMC, hms⟩ : ∃ MC : Array Value, MC.size = (l0.length + 40) * 2 ∧ ∀ W, (Instr.makeSlice 22 (.int .i64 0) (.int .i64 ((l0.length : Int) + 40))).run Tryd.prog W = .ok (.slice (some ⟨W.heap.size, 0, none⟩) 0 (l0.length + 40)) (W.alloc (.cells MC 29)) := by
    refine ⟨madeCells (Value.agg #[(.int .i32 0), (.int .i32 0)]).cells ((l0.length + 40) * 2), size_madeCells _ _, fun W => ?_⟩
    have := run_makeSlice W 22 29 i0 _ Tryd.underlying22 hi hz0 .i64 .i64 0 ((l0.length : Int) + 40) (by omega) (by omega) (by rw [hz1]; omega) (by rw [hz2]; omega) (by omega)
    rw [this, hz1]
    have e : ((l0.length : Int) + 40).toNat = l0.length + 40 := by omega
    rw [e]
    rfl
  have HL := Aside0.mk hl
  have HM := Aside0.mk hMC
  have hlb : (l0.length : Int) + 40 ≤ 9223372036854775807 := by omega
  clear hl hr0 hMC hi hz0 hz1 hz2
  go_enter Tryd.func19, Tryd.ntmps19
  go_wp2_with (((with_reducible refine gate_builtin (b := .append) (xs := #[.tmp 9, .tmp 10]) rfl ?_); at_builtin; refine Kd.R_append_rows k29 (w0 := w) w.heap.size rfl (.tmp 9) (.tmp 10) 22 29 (.agg #[(.int .i32 0), (.int .i32 0)]) 8 rfl Tryd.underlying22 info29 rfl (by decide) (by omega) (.slice (some ⟨w.heap.size, 0, none⟩) 0 (l0.length + 40)) ([] : List Rg) l0 _ _ _ (fun _ => True) (fun _ => False) rfl rfl (made_row (by have := HL.out; omega) MC HM.out) (Kd.C_below HR0.out ((Below.refl _ w).alloc (Nat.le_refl _) _)) (fun x cs hcs => by rw [k29_open hcs]; exact k29_mkM _ _ _ x) (fun _ hk => hk.elim) (fun _ _ => trivial) ((Below.refl _ w).alloc (Nat.le_refl _) _) (by simp) (by have := HL.out; simp only [List.length_nil]; omega) ?_; intro v2 w2 ho hb hg hat; have HO2 := Aside0.mk ho; have HB2 := Aside0.mk hb; clear ho hb hg hat))
  go_loopw [3, 4] (fun vs vi wr => ∃ i : Nat, vi = .int .i64 (i : Int) ∧ i ≤ 40 ∧ Aside0 (Kd.R k29 29 wr w.heap.size (fun _ => True) vs (l0 ++ marks i)) ∧ Aside0 (Below w.heap.size w wr)) (fun _ vi _ => 40 - (intOf vi).toNat)
  case atStart => exact ⟨0, rfl, by omega, ⟨by have := HO2.out; simpa [marks] using this⟩, HB2⟩
  case round =>
    obtain ⟨i, rfl, hi, HO, HB⟩ := hrel
    by_cases hlt : i < 40
    · have hd1 : decide ((i : Int) < 40) = true := decide_eq_true (by omega)
      have hil : (i : Int) + 1 ≤ 9223372036854775807 := by omega
      have hw1 : wrap64 (-7 - (i : Int)) = -7 - (i : Int) := by unfold wrap64; omega
      have hw2 : wrap32 (-7 - (i : Int)) = -7 - (i : Int) := by unfold wrap32; omega
      have hw3 : wrap32 (i : Int) = (i : Int) := by unfold wrap32; omega
      have HLT := Aside0.mk hlt
      clear hlt hi
      go_wp2_with (((with_reducible refine gate_builtin (b := .append) (xs := #[.tmp 16, .tmp 23]) rfl ?_); at_builtin; refine Kd.R_append k29 (w0 := w) w.heap.size rfl (.tmp 16) (.tmp 23) 22 29 (.agg #[(.int .i32 0), (.int .i32 0)]) 8 rfl Tryd.underlying22 info29 rfl (by decide) (by omega) _ (l0 ++ marks i) (mark i) [.int .i32 (-7 - (i : Int)), .int .i32 (i : Int)] (fun _ => True) (fun _ => False) rfl rfl (k29_mkM _ _ _ (mark i)) (fun _ hk => hk.elim) (fun _ _ => trivial) HO.out HB.out (below_size HB.out) (by have := HL.out; have := HLT.out; rw [List.length_append, marks_len]; omega) ?_; intro v1 w1 ho hb hg hat; have HO3 := Aside0.mk ho; have HB3 := Aside0.mk hb; clear ho hb hg hat))
      go_roundw
      case rel => exact ⟨i + 1, by go_num, by have := HLT.out; omega, ⟨by have := HO3.out; rw [List.append_assoc, ← marks_succ] at this; exact this⟩, HB3⟩
      case measure => have := HLT.out; simp [intOf]; omega
    · have hd1 : decide ((i : Int) < 40) = false := decide_eq_false (by omega)
      obtain rfl : i = 40 := by omega
      clear hlt hi
      go_wp2
      go_ret
      exact ⟨_, rfl, HO.out, HB.out⟩
theorem cell_of_box_p {W : World} {B : Nat} {v : Value} {t : TypeId} (h : W.heap[B]? = some (.cells #[v] t (0, 0))) : W.cell? ⟨B, 0, none⟩ = some v ∧ W.frozen? ⟨B, 0, none⟩ = false := by
  constructor <;> simp [World.cell?, World.frozen?, h]
theorem box_kept_p (w : World) (v : Value) (t : TypeId) {W : World} (hb : Below (w.alloc (.cells #[v] t)).heap.size (w.alloc (.cells #[v] t)) W) : W.cell? ⟨w.heap.size, 0, none⟩ = some v ∧ W.frozen? ⟨w.heap.size, 0, none⟩ = false :=
  cell_of_box_p (t := t) ((hb.block w.heap.size (by simp)).trans (World.alloc_heap_new w (.cells #[v] t)))
set_option maxHeartbeats 4000000 in
set_option maxRecDepth 100000 in
theorem each_calls (A0 : Option Addr) (c0 : Nat) (l0 : List Rg) (w : World) (hs : Sound l0) (hr0 : Kd.C k29 w A0 l0.length l0) (hc0 : l0.length ≤ c0) (hG : Glob w) :
    Calls Tryd.prog 20 #[.slice A0 l0.length c0] w fun e w' => ∃ (Bn : Nat) (v : Value), e = .returned (.func (.func 39) #[] #[.pointer (some ⟨Bn, 0, none⟩)]) ∧ w.heap.size ≤ Bn ∧ w'.heap[Bn]? = some (.cells #[v] 22 (0, 0)) ∧ Kd.R k29 29 w' w.heap.size (fun _ => True) v l0 ∧ Below w.heap.size w w' := by
  have hl := sound_len hs
  obtain ⟨K, hK⟩ := check_is l0 (by omega) hs.r32
  have hk := hK K (Nat.le_refl _)
  rw [if_pos hs] at hk
  have HR0 := Aside0.mk hr0
  have HG := Aside0.mk hG
  have HK := Aside0.mk hk
  have HL := Aside0.mk hl
  clear hr0 hG hk hK hl hs
  go_enter Tryd.func20, Tryd.ntmps20
  go_wp2_with (first
    | (go_at_call 10; (with_reducible refine (sets_Check.calls K _ _ l0 0 _ (Kd.C_below HR0.out ((Below.refl _ w).alloc (Nat.le_refl _) _)) hc0 (HG.out.alloc _) HK.out).mono ?_); rintro e w1 ⟨rfl, hb1⟩; have HB1 := Aside0.mk hb1; clear hb1)
    | (go_at_call 38; (with_reducible refine (clone_calls _ _ l0 _ (by have := HL.out; omega) (Kd.C_below (Kd.C_below HR0.out ((Below.refl _ w).alloc (Nat.le_refl _) _)) HB1.out) hc0).mono ?_); rintro e w2 ⟨v2, rfl, hR2, hb2⟩; obtain ⟨Av, cv, rfl, hcv, _⟩ := Kd.R_reads hR2; have HO2 := Aside0.mk hR2; have HB2 := Aside0.mk hb2; clear hR2 hb2; have hbx := (((below_step HB1.out HB2.out).block w.heap.size (by simp)).trans (World.alloc_heap_new w (.cells #[.slice none 0 0] 22))); obtain ⟨hcx, hfx⟩ := cell_of_box_p hbx; have HBXX := Aside0.mk hbx; clear hbx))
  go_ret
  have hsz : w.heap.size < w2.heap.size := globCell_lt hcx
  have hz1 : w.heap.size + 1 ≤ w1.heap.size := by have := HB1.out.size; simp at this; exact this
  have hb := below_step (below_alloc (Below.refl _ w) (.cells #[.slice none 0 0] 22)) (below_step HB1.out HB2.out)
  refine ⟨w.heap.size, _, rfl, Nat.le_refl _, one_setCell HBXX.out, ?_, hb.setCell (p := ⟨w.heap.size, 0, none⟩) (Nat.le_refl _) _⟩
  have h1 := Kd.R_bound HO2.out
  have h2 := Kd.R_far (p := ⟨w.heap.size, 0, none⟩) h1 (fun k hk => by have := hk.2.1; show k ≠ w.heap.size; omega) (.slice Av l0.length cv)
  exact Kd.R_lower (Kd.R_mono h2 (fun _ _ => trivial)) (by omega)
/-- What a round of a range over a set's units must keep: all below n₀, the walks' objects, and whatever ranges lie about. -/
def Kt (n₀ : Nat) (W W' : World) : Prop := Below n₀ W W' ∧ KeepsWalks W W' ∧ ∀ (b : Nat) cs fr, W.heap[b]? = some (Obj.cells cs 29 fr) → W'.heap[b]? = some (Obj.cells cs 29 fr)
theorem kt_t {n₀ : Nat} {A B C : World} (h : Kt n₀ A B) (k : Kt n₀ B C) : Kt n₀ A C := ⟨h.1.trans k.1, h.2.1.trans k.2.1, fun b cs fr hb => k.2.2 b cs fr (h.2.2 b cs fr hb)⟩
theorem units_take_drop (l : List Rg) (i : Nat) (h : i < l.length) (j : Nat) (hj : j ≤ (uR l[i]).length) : (units (l.take i) ++ (uR l[i]).take j) <+: units l := by
  rw [units_split l i h, List.append_assoc]
  exact (List.prefix_append_right_inj _).2 ((List.take_prefix _ _).trans (List.prefix_append _ _))
theorem uR_take (r : Rg) (j : Nat) (hj : j < (uR r).length) : (uR r).take (j + 1) = (uR r).take j ++ [r.f0 + (j : Int)] := by
  rw [List.take_succ_eq_append_getElem hj]
  simp [uR]
set_option maxHeartbeats 4000000 in
set_option maxRecDepth 100000 in
theorem each1_in (n : Nat) (hn : 2 ≤ n) (l Bn n₀ : Nat) (Av : Option Addr) (cv : Nat) (s : List Rg) (hs : Sound s) (J Jx : List Int → World → Prop) (W : World) (hn₀ : n₀ ≤ W.heap.size) (hJ : AbidesFrom W.heap.size J) (hBn0 : Bn < n₀)
    (hY : ∀ pre x W1, J pre W1 → pre.length < (units s).length → YieldAt Fence.wide (n - 1) Tryd.prog l #[.int .i32 x] W1 fun e W' =>
      (e = .returned (.bool true) ∧ J (pre ++ [x]) W' ∧ Kt n₀ W1 W') ∨ (e = .returned (.bool false) ∧ Jx (pre ++ [x]) W'))
    (hB : W.cell? ⟨Bn, 0, none⟩ = some (.slice Av s.length cv)) (hC : ∃ w0 : World, w0.heap.size ≤ n₀ ∧ Below w0.heap.size w0 W ∧ Kd.C k29 w0 Av s.length s) (h0 : J [] W) :
    CallsIn Fence.wide n Tryd.prog 39 #[.func (.yield l) #[] #[], .pointer (some ⟨Bn, 0, none⟩)] W fun e W' => (∃ v, e = .returned v) ∧
      ((∃ xs, xs = units s ∧ J xs W') ∨ (∃ pre, pre <+: units s ∧ Jx pre W')) := by
  have hl := sound_len hs
  refine callsIn_of_wp Tryd.func39 rfl trivial ?_ rfl
  simp only [Tryd.ntmps39, List.size_toArray, List.length_cons, List.length_nil, Nat.reduceAdd, Nat.reduceSub, Array.replicate_succ, Array.replicate_zero, List.push_toArray, List.append_toArray, List.nil_append, List.cons_append]
  obtain ⟨w0, hw0, hbw0, hC⟩ := hC
  have HC := Aside0.mk hC
  have HB0 := Aside0.mk hbw0
  have HS := Aside0.mk hs
  clear hC hbw0 hs
  gi_wp2
  gi_loopw [8] (fun vi wr => ∃ (i : Nat), vi = .int .i64 (i : Int) ∧ i ≤ s.length ∧ J (units (s.take i)) wr ∧ Below w0.heap.size w0 wr ∧ wr.cell? ⟨Bn, 0, none⟩ = some (.slice Av s.length cv) ∧ W.heap.size ≤ wr.heap.size) (fun vi _ => s.length - (intOf vi).toNat)
  case atStart => exact ⟨0, rfl, by omega, by simpa [units] using h0, HB0.out, hB, Nat.le_refl _⟩
  case round =>
    obtain ⟨i, rfl, hi, hJs, hbr, hc, hsz⟩ := hrel
    by_cases hlt : i < s.length
    · have hd1 : decide (i < s.length) = true := decide_eq_true hlt
      obtain ⟨ad, e, hx1, hx2⟩ := at_T29 (Kd.C_below HC.out hbr) (i : Int) (by omega) (by omega)
      cases e
      rw [rdT s i hlt] at hx1 hx2
      simp only [Int.toNat_natCast] at hx1 hx2
      have hut := units_take s i hlt
      have hpf := units_take_drop s i hlt
      have hok := HS.out.1 s[i] (List.getElem_mem hlt)
      have hle : (units (s.take i)).length + (uR s[i]).length ≤ (units s).length := by rw [units_split s i hlt]; simp only [List.length_append]; omega
      generalize s[i] = r at *
      have hil : (i : Int) + 1 ≤ 9223372036854775807 := by omega
      have hp := eq_true (show (0 : Int) ≤ (i : Int) by omega)
      have hq := eq_true (show (i : Int) < (s.length : Int) by omega)
      have hrb : 0 ≤ r.f0 ∧ r.f0 ≤ r.f1 ∧ r.f1 ≤ 1114367 := by
        obtain ⟨a0, a1, a2⟩ := hok
        have b0 := bandOf_cases r.f0
        have b1 := bandOf_cases r.f1
        omega
      have HBR := Aside0.mk hbr
      have HLT := Aside0.mk hlt
      have HJS := Aside0.mk hJs
      have HUT := Aside0.mk hut
      have HPF := Aside0.mk hpf
      have HRB := Aside0.mk hrb
      have HLE := Aside0.mk hle
      clear hbr hlt hi hJs hut hpf hok hrb hle
      obtain ⟨wo, rfl⟩ : ∃ wo : World, wo = wr := ⟨_, rfl⟩
      gi_wp2
      clear hp hq hil hx1 hx2
      gi_loopw [5] (fun vu wi => ∃ (j : Nat), vu = .int .i32 (r.f0 + (j : Int)) ∧ j ≤ (uR r).length ∧ J (units (s.take i) ++ (uR r).take j) wi ∧ wi.heap[wo.heap.size]? = some (.cells #[.int .i32 r.f0, .int .i32 r.f1] 29 (0, 0)) ∧ Below w0.heap.size w0 wi ∧ wi.cell? ⟨Bn, 0, none⟩ = some (.slice (some ad) s.length cv) ∧ W.heap.size ≤ wi.heap.size) (fun vu _ => (r.f1 + 1 - intOf vu).toNat)
      case atStart => exact ⟨0, by simp, by omega, by simpa using hJ _ _ _ none HJS.out (World.grownBy_alloc _ _ none) (fun r e => by cases e), World.alloc_heap_new wo _, HBR.out.alloc HBR.out.size _, ((below_alloc (Below.refl _ wo) _).cell (p := ⟨Bn, 0, none⟩) (globCell_lt hc)).trans hc, by simp; omega⟩
      case round =>
        obtain ⟨j, rfl, hj, hJi, hblk, hbi, hci, hszi⟩ := hrel
        have hb1 : wr.cell? ⟨wo.heap.size, 1, none⟩ = some (.int .i32 r.f1) := by simp [World.cell?, hblk]
        have hul := uR_len r
        by_cases hjl : j < (uR r).length
        · have hd2 : decide (r.f0 + (j : Int) ≤ r.f1) = true := decide_eq_true (by have := HRB.out; omega)
          have hww : wrap32 (r.f0 + (j : Int) + 1) = r.f0 + (j : Int) + 1 := by have := HRB.out; unfold wrap32; omega
          have hlen : (units (s.take i) ++ (uR r).take j).length < (units s).length := by have := HLE.out; rw [List.length_append, List.length_take]; omega
          obtain ⟨fn, tmps, assign, body, hy, hR⟩ := hY _ (r.f0 + (j : Int)) _ hJi hlen
          have hsn := uR_take r j hjl
          have HSN := Aside0.mk hsn
          have HBLK := Aside0.mk hblk
          have HBI := Aside0.mk hbi
          have HCI := Aside0.mk hci
          have HJL := Aside0.mk hjl
          have HUL := Aside0.mk hul
          clear hsn hblk hbi hci hjl hul hlen hj hJi
          gi_wp2
          refine ⟨fun _ => by omega, hR.mono ?_⟩
          rintro e W3 (⟨rfl, hJ3, hk3⟩ | ⟨rfl, hJx3⟩)
          · gi_wp2
            go_roundw
            case rel => exact ⟨j + 1, by rw [hww, Int.natCast_add, ← Int.add_assoc]; rfl, HJL.out, by rw [HSN.out, ← List.append_assoc]; exact hJ3, hk3.2.2 _ _ _ HBLK.out, HBI.out.trans (hk3.1.mono hw0), (hk3.1.cell (p := ⟨Bn, 0, none⟩) hBn0).trans HCI.out, Nat.le_trans hszi hk3.1.size⟩
            case measure => have := HUL.out; have := HJL.out; have := HRB.out; simp [intOf, hww]; omega
          · gi_wp2
            refine bodyPost_ret (results_none rfl _ _ _) rfl ?_
            exact ⟨⟨_, rfl⟩, .inr ⟨_, by rw [List.append_assoc, ← HSN.out]; exact HPF.out (j + 1) HJL.out, hJx3⟩⟩
        · have hd2 : decide (r.f0 + (j : Int) ≤ r.f1) = false := decide_eq_false (by have := HRB.out; omega)
          have hje : j = (uR r).length := by omega
          have HJE := Aside0.mk (show J (units (s.take (i + 1))) wr by rw [HUT.out]; rw [hje, List.take_of_length_le (Nat.le_refl _)] at hJi; exact hJi)
          have HBI := Aside0.mk hbi
          have HCI := Aside0.mk hci
          clear hje hJi hbi hci hjl hul hj hblk
          have hil : (i : Int) + 1 ≤ 9223372036854775807 := by have := HLT.out; omega
          gi_wp2
          go_roundw
          case rel => exact ⟨i + 1, by go_num, HLT.out, HJE.out, HBI.out, HCI.out, hszi⟩
          case measure => have := HLT.out; simp [intOf]; omega
    · have hd1 : decide (i < s.length) = false := decide_eq_false hlt
      obtain rfl : i = s.length := by omega
      rw [List.take_of_length_le (Nat.le_refl _)] at hJs
      have HJS := Aside0.mk hJs
      clear hJs hlt hi hbr
      gi_wp2
      go_end0
      exact ⟨⟨_, rfl⟩, .inl ⟨_, rfl, HJS.out⟩⟩
theorem each_seq (s : List Rg) (hs : Sound s) (n Bn n₀ : Nat) (Av : Option Addr) (cv : Nat) (hn : 2 ≤ n) (hBn : Bn < n₀) (w w0 : World) (hn₀ : n₀ ≤ w.heap.size) (hw0 : w0.heap.size ≤ n₀) (hbw : Below w0.heap.size w0 w) (hC : Kd.C k29 w0 Av s.length s) (hB : w.cell? ⟨Bn, 0, none⟩ = some (.slice Av s.length cv)) :
    SeqStopsK Fence.wide n Tryd.prog 39 #[.pointer (some ⟨Bn, 0, none⟩)] (fun x : Int => #[.int .i32 x]) (Kt n₀) (fun xs => xs = units s) (fun pre => pre <+: units s) (units s).length w :=
  fun l J Jx W hb hJ _ hY h0 => each1_in n hn l Bn n₀ Av cv s hs J Jx W (Nat.le_trans hn₀ hb.size) hJ hBn hY ((hb.cell (p := ⟨Bn, 0, none⟩) (by show Bn < w.heap.size; omega)).trans hB) ⟨w0, hw0, hbw.trans (hb.mono hbw.size), hC⟩ h0

end Go.Proofs.YtoggmegpodmfnaaDoor.Q
