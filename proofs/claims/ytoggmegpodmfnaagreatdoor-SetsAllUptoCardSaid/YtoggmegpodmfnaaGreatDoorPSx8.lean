/- Contracts of functions that the law reaches: what each call answers, as a plain function of what it reads; on condition that the function answers there. Printed by this session's own tool. -/
import Derived.Test.YtoggmegpodmfnaaGreatDoorPSx01
import Derived.Test.YtoggmegpodmfnaaGreatDoorPSx2
import Derived.Test.YtoggmegpodmfnaaGreatDoorBSq
namespace Go.Proofs.YtoggmegpodmfnaaGreatDoor.PS
open Go.RowKit Go.Proofs.YtoggmegpodmfnaaGreatDoor.B Go.Proofs.YtoggmegpodmfnaaGreatDoorW.PrintWords Go.Proofs.YtoggmegpodmfnaaGreatDoorW.PrintLast Go.Proofs.YtoggmegpodmfnaaGreatDoorW.PrintMore
attribute [local go_sem] max2_int min2_int max_two min_two max_three min_three max_four min_four   -- for this text's walks alone
set_option linter.unusedVariables false
set_option linter.unusedSimpArgs false
attribute [local go_sem high] eqA41
namespace WalkT
open Go.Shelf
abbrev Rg := S41
theorem rdT (l : List Rg) (i : Nat) (h : i < l.length) : rd_T41 l (i : Int) = l[i] := by
  unfold rd_T41; rw [Int.toNat_natCast, List.getD_eq_getElem?_getD, List.getElem?_eq_getElem h]; rfl
theorem bandOf_cases (u : Int) : (bandOf u = 0 ∧ 0 ≤ u ∧ u ≤ 55295) ∨ (bandOf u = 1 ∧ 57344 ≤ u ∧ u ≤ 1114111) ∨ (bandOf u = 2 ∧ 1114240 ≤ u ∧ u ≤ 1114367) ∨ (bandOf u = -1 ∧ ¬ (0 ≤ u ∧ u ≤ 55295) ∧ ¬ (57344 ≤ u ∧ u ≤ 1114111) ∧ ¬ (1114240 ≤ u ∧ u ≤ 1114367)) := by
  unfold bandOf
  repeat' split
  all_goals omega
def okR (r : Rg) : Prop := 0 ≤ bandOf r.f0 ∧ bandOf r.f0 = bandOf r.f1 ∧ r.f0 ≤ r.f1
instance (r : Rg) : Decidable (okR r) := inferInstanceAs (Decidable (_ ∧ _))
def Sound (l : List Rg) : Prop := (∀ r ∈ l, okR r) ∧ l.Pairwise (fun a b => a.f1 + 1 < b.f0)
instance (l : List Rg) : Decidable (Sound l) := inferInstanceAs (Decidable (_ ∧ _))
theorem Sound.tail {r : Rg} {l : List Rg} (h : Sound (r :: l)) : Sound l := ⟨fun x hx => h.1 x (List.mem_cons_of_mem _ hx), (List.pairwise_cons.1 h.2).2⟩
theorem sound_len0 : ∀ (l : List Rg) (m : Int), 0 ≤ m → m ≤ 1114368 → Sound l → (∀ r ∈ l, m ≤ r.f0) → (l.length : Int) ≤ 1114368 - m
  | [], m, h0, h1, _, _ => by simp; omega
  | x :: l, m, h0, h1, h, hm => by
    have hx := h.1 x (by simp); have hmx := hm x (by simp); obtain ⟨a0, a1, a2⟩ := hx; have b := bandOf_cases x.f1; have ih := sound_len0 l (x.f1 + 1) (by omega) (by omega) h.tail (fun r hr => by have := (List.pairwise_cons.1 h.2).1 r hr; omega); simp only [List.length_cons]; omega
theorem sound_len {l : List Rg} (h : Sound l) : l.length ≤ 1114368 := by
  have := sound_len0 l 0 (by omega) (by omega) h (fun r hr => by have a := h.1 r hr; have b := bandOf_cases r.f0; obtain ⟨a0, _, _⟩ := a; omega); omega
def uR (r : Rg) : List Int := (List.range (r.f1 - r.f0 + 1).toNat).map fun i : Nat => r.f0 + (i : Int)
def units (l : List Rg) : List Int := l.flatMap uR
theorem uR_len (r : Rg) : (uR r).length = (r.f1 - r.f0 + 1).toNat := by simp [uR]
theorem units_app (a b : List Rg) : units (a ++ b) = units a ++ units b := by simp [units]
theorem units_one (r : Rg) : units [r] = uR r := by simp [units]
theorem units_cons (r : Rg) (l : List Rg) : units (r :: l) = uR r ++ units l := by simp [units]
theorem units_take (l : List Rg) (i : Nat) (h : i < l.length) : units (l.take (i + 1)) = units (l.take i) ++ uR l[i] := by
  rw [List.take_succ_eq_append_getElem h, units_app, units_one]
theorem units_split (l : List Rg) (i : Nat) (h : i < l.length) : units l = units (l.take i) ++ uR l[i] ++ units (l.drop (i + 1)) := by
  conv => lhs; rw [← List.take_append_drop (i + 1) l, units_app, units_take l i h]
section
attribute [local go_sem] Oper.semAt_some
set_option maxHeartbeats 4000000 in
set_option maxRecDepth 100000 in
theorem clone_calls (A0 : Option Addr) (c0 : Nat) (l0 : List Rg) (w : World) (hl : l0.length ≤ 1073741824) (hr0 : Kd.C k41 w A0 l0.length l0) (hc0 : l0.length ≤ c0) :
    Calls Tryz.prog 88 #[.slice A0 l0.length c0] w fun e w' => ∃ v0_ : Value, e = .returned v0_ ∧ Kd.R k41 41 w' w.heap.size (fun _ => True) v0_ l0 ∧ Below w.heap.size w w' := by
  have HR0 := Aside0.mk hr0
  cases A0 with
  | none =>
    have hz : l0 = [] := by
      cases l0 with
      | nil => rfl
      | cons x r => obtain ⟨ad, e, _⟩ := hr0.2.2 (by simp); cases e
    clear hr0; subst hz; have hEq : ∀ W, (binOp .eql 24 (.slice none 0 c0) (.slice none 0 0)).run Tryz.prog W = .ok (.bool true) W := fun W => Lib.run_eql_slice_nil W 24 41 none 0 c0 0 0 Tryz.underlying24; go_enter Tryz.func88, Tryz.ntmps88
    go_wp2
    go_ret; exact ⟨_, rfl, Kd.R_nil _ _ _ _ _, Below.refl _ _⟩
  | some a0 =>
    have hEq : ∀ W, (binOp .eql 24 (.slice (some a0) l0.length c0) (.slice none 0 0)).run Tryz.prog W = .ok (.bool false) W := fun W => Lib.run_eql_slice_nil W 24 41 (some a0) l0.length c0 0 0 Tryz.underlying24; have HL := Aside0.mk hl; clear hl hr0; go_enter Tryz.func88, Tryz.ntmps88
    go_wp2_with (first
      | ((with_reducible refine gate_dst (N := 5) rfl ?_); refine Kd.R_lit k41 _ 41 ?hg (N := 5) ?hd (xs := ([] : List Rg)) (inner := []) (ok := fun _ => True) (okp := fun _ => True) ?hr ?hp (fun _ hk => hk) trivial (Below.refl _ _) (Nat.le_refl _) (by simp) ?_; (case hd => rfl); (case hg => rfl); (case hr => first | (go_simp; done) | (go_simp; rfl)); (case hp => exact (Reps.none _ _)); intro v1 w1 ho1 hb1 hg_ hnew_; clear hg_ hnew_; have HO1 := Aside0.mk ho1; have HB1 := Aside0.mk hb1; clear ho1 hb1)
      | ((with_reducible refine gate_builtin (b := .append) (xs := #[.tmp 5, .tmp 6]) rfl ?_); at_builtin; refine Kd.R_append_rows k41 (w0 := w) w.heap.size rfl (.tmp 5) (.tmp 6) 24 41 (.agg #[(.int .i32 0), (.int .i32 0)]) 8 rfl Tryz.underlying24 info41 rfl (by decide) (by omega) v1 ([] : List Rg) l0 _ _ _ (fun _ => True) (fun _ => False) rfl rfl HO1.out (Kd.C_below HR0.out HB1.out) (fun x cs hcs => by rw [k41_open hcs]; exact k41_mkM _ _ _ x) (fun _ hk => hk.elim) (fun _ _ => trivial) HB1.out (below_size HB1.out) (by have := HL.out; simp only [List.length_nil]; omega) ?_; intro v2 w2 ho hb hg hat; have HO2 := Aside0.mk ho; have HB2 := Aside0.mk hb; clear ho hb hg hat))
    go_ret; exact ⟨_, rfl, HO2.out, HB2.out⟩
theorem cell_of_box_p {W : World} {B : Nat} {v : Value} {t : TypeId} (h : W.heap[B]? = some (.cells #[v] t (0, 0))) : W.cell? ⟨B, 0, none⟩ = some v ∧ W.frozen? ⟨B, 0, none⟩ = false := by
  constructor <;> simp [World.cell?, World.frozen?, h]
set_option maxHeartbeats 4000000 in
set_option maxRecDepth 100000 in
theorem each_calls (K : Nat) (t : Int) (A0 : Option Addr) (c0 : Nat) (l0 : List Rg) (w : World) (hl : l0.length ≤ 1114368) (hk : sets_Check.f K l0 = some t) (hr0 : Kd.C k41 w A0 l0.length l0) (hc0 : l0.length ≤ c0) (hG : Glob w) :
    Calls Tryz.prog 60 #[.slice A0 l0.length c0] w fun e w' => ∃ (Bn : Nat) (v : Value), e = .returned (.func (.func 89) #[] #[.pointer (some ⟨Bn, 0, none⟩)]) ∧ w.heap.size ≤ Bn ∧ w'.heap[Bn]? = some (.cells #[v] 24 (0, 0)) ∧ Kd.R k41 41 w' w.heap.size (fun _ => True) v (if t = 0 then l0 else []) ∧ Below w.heap.size w w' := by
  have HR0 := Aside0.mk hr0; have HG := Aside0.mk hG; have HK := Aside0.mk hk; have HL := Aside0.mk hl; clear hr0 hG hk hl
  by_cases ht : t = 0
  · subst ht
    rw [if_pos rfl]; go_enter Tryz.func60, Tryz.ntmps60
    go_wp2_with (first
      | (go_at_call 24; (with_reducible refine (sets_Check.calls K _ _ l0 0 _ (Kd.C_below HR0.out ((Below.refl _ w).alloc (Nat.le_refl _) _)) hc0 (HG.out.alloc _) HK.out).mono ?_); rintro e w1 ⟨rfl, hb1⟩; have HB1 := Aside0.mk hb1; clear hb1)
      | (go_at_call 88; (with_reducible refine (clone_calls _ _ l0 _ (by have := HL.out; omega) (Kd.C_below (Kd.C_below HR0.out ((Below.refl _ w).alloc (Nat.le_refl _) _)) HB1.out) hc0).mono ?_); rintro e w2 ⟨v2, rfl, hR2, hb2⟩; obtain ⟨Av, cv, rfl, hcv, _⟩ := Kd.R_reads hR2; have HO2 := Aside0.mk hR2; have HB2 := Aside0.mk hb2; clear hR2 hb2; have hbx := (((below_step HB1.out HB2.out).block w.heap.size (by simp)).trans (World.alloc_heap_new w (.cells #[.slice none 0 0] 24))); obtain ⟨hcx, hfx⟩ := cell_of_box_p hbx; have HBXX := Aside0.mk hbx; clear hbx))
    go_ret; have hsz : w.heap.size < w2.heap.size := globCell_lt hcx
    have hz1 : w.heap.size + 1 ≤ w1.heap.size := by have := HB1.out.size; simp at this; exact this
    have hb := below_step (below_alloc (Below.refl _ w) (.cells #[.slice none 0 0] 24)) (below_step HB1.out HB2.out); refine ⟨w.heap.size, _, rfl, Nat.le_refl _, one_setCell HBXX.out, ?_, hb.setCell (p := ⟨w.heap.size, 0, none⟩) (Nat.le_refl _) _⟩; have h1 := Kd.R_bound HO2.out; have h2 := Kd.R_far (p := ⟨w.heap.size, 0, none⟩) h1 (fun k hk => by have := hk.2.1; show k ≠ w.heap.size; omega) (.slice Av l0.length cv); exact Kd.R_lower (Kd.R_mono h2 (fun _ _ => trivial)) (by omega)
  · rw [if_neg ht]
    have hd : decide (t = 0) = false := decide_eq_false ht; go_enter Tryz.func60, Tryz.ntmps60
    go_wp2_with (go_at_call 24; (with_reducible refine (sets_Check.calls K _ _ l0 t _ (Kd.C_below HR0.out ((Below.refl _ w).alloc (Nat.le_refl _) _)) hc0 (HG.out.alloc _) HK.out).mono ?_); rintro e w1 ⟨rfl, hb1⟩; have HB1 := Aside0.mk hb1; clear hb1)
    go_ret; refine ⟨w.heap.size, _, rfl, Nat.le_refl _, (HB1.out.block w.heap.size (by simp)).trans (World.alloc_heap_new w (.cells #[.slice none 0 0] 24)), Kd.R_nil _ _ _ _ _, below_step (below_alloc (Below.refl _ w) (.cells #[.slice none 0 0] 24)) HB1.out⟩
def Kt (n₀ : Nat) (W W' : World) : Prop := Below n₀ W W' ∧ KeepsWalks W W' ∧ ∀ (b : Nat) cs fr, W.heap[b]? = some (Obj.cells cs 41 fr) → W'.heap[b]? = some (Obj.cells cs 41 fr)
theorem units_take_drop (l : List Rg) (i : Nat) (h : i < l.length) (j : Nat) (hj : j ≤ (uR l[i]).length) : (units (l.take i) ++ (uR l[i]).take j) <+: units l := by
  rw [units_split l i h, List.append_assoc]; exact (List.prefix_append_right_inj _).2 ((List.take_prefix _ _).trans (List.prefix_append _ _))
theorem uR_take (r : Rg) (j : Nat) (hj : j < (uR r).length) : (uR r).take (j + 1) = (uR r).take j ++ [r.f0 + (j : Int)] := by
  rw [List.take_succ_eq_append_getElem hj]
  simp [uR]
def Kt2 (W W' : World) : Prop := W.heap.size ≤ W'.heap.size ∧ KeepsWalks W W' ∧ ∀ (b t : Nat) cs fr, t = 41 ∨ t = 24 → W.heap[b]? = some (Obj.cells cs t fr) → W'.heap[b]? = some (Obj.cells cs t fr)
theorem kt2_t {A B C : World} (h : Kt2 A B) (k : Kt2 B C) : Kt2 A C := ⟨Nat.le_trans h.1 k.1, h.2.1.trans k.2.1, fun b t cs fr ht hb => k.2.2 b t cs fr ht (h.2.2 b t cs fr ht hb)⟩
theorem R_kt2 {W W' : World} (h : Kt2 W W') {bs : Nat} {v : Value} {s : List Rg} (hR : Kd.R k41 41 W bs (fun _ => True) v s) : Kd.R k41 41 W' bs (fun _ => True) v s :=
  Kd.R_mono (Kd.R_move (Kd.R_bound hR) (fun k hk => by
    obtain ⟨_, _, _, q, hq, cells, hc⟩ := hk; have : q = 41 := (by simpa [k41, Kd.iso, Kd.pair, Kd.int, Kd.scalar] using hq); rw [hc]
    exact h.2.2 k q _ _ (.inl this) hc)) (fun _ hk => hk.1)
set_option maxHeartbeats 4000000 in
set_option maxRecDepth 100000 in
theorem each1_in2 (n : Nat) (hn : 2 ≤ n) (l Bn bs : Nat) (Av : Option Addr) (cv : Nat) (s : List Rg) (hs : Sound s) (J Jx : List Int → World → Prop) (W : World) (hJ : AbidesFrom W.heap.size J)
    (hY : ∀ pre x W1, J pre W1 → pre.length < (units s).length → YieldAt Fence.wide (n - 1) Tryz.prog l #[.int .i32 x] W1 fun e W' =>
      (e = .returned (.bool true) ∧ J (pre ++ [x]) W' ∧ Kt2 W1 W') ∨ (e = .returned (.bool false) ∧ Jx (pre ++ [x]) W'))
    (hB : W.heap[Bn]? = some (.cells #[.slice Av s.length cv] 24 (0, 0))) (hC : Kd.R k41 41 W bs (fun _ => True) (.slice Av s.length cv) s) (h0 : J [] W) :
    CallsIn Fence.wide n Tryz.prog 89 #[.func (.yield l) #[] #[], .pointer (some ⟨Bn, 0, none⟩)] W fun e W' => (∃ v, e = .returned v) ∧
      ((∃ xs, xs = units s ∧ J xs W') ∨ (∃ pre, pre <+: units s ∧ Jx pre W')) := by
  have hl := sound_len hs; refine callsIn_of_wp Tryz.func89 rfl trivial ?_ rfl; simp only [Tryz.ntmps89, List.size_toArray, List.length_cons, List.length_nil, Nat.reduceAdd, Nat.reduceSub, Array.replicate_succ, Array.replicate_zero, List.push_toArray, List.append_toArray, List.nil_append, List.cons_append]; have HC := Aside0.mk hC; have HBN := Aside0.mk hB; have hBc := cell_of_one hB; have HS := Aside0.mk hs; clear hC hs hB
  gi_wp2
  gi_loopw [8] (fun vi wr => ∃ (i : Nat), vi = .int .i64 (i : Int) ∧ i ≤ s.length ∧ J (units (s.take i)) wr ∧ Kd.R k41 41 wr bs (fun _ => True) (.slice Av s.length cv) s ∧ wr.heap[Bn]? = some (.cells #[.slice Av s.length cv] 24 (0, 0)) ∧ W.heap.size ≤ wr.heap.size) (fun vi _ => s.length - (intOf vi).toNat)
  case atStart => exact ⟨0, rfl, by omega, by simpa [units] using h0, HC.out, HBN.out, Nat.le_refl _⟩
  case round =>
    obtain ⟨i, rfl, hi, hJs, hbr, hcb, hsz⟩ := hrel; have hc := cell_of_one hcb; have HCB := Aside0.mk hcb; clear hcb
    by_cases hlt : i < s.length
    · have hd1 : decide (i < s.length) = true := decide_eq_true hlt
      obtain ⟨ad, e, hx1, hx2⟩ := at_T41 (Kd.R_reads' hbr).2.2 (i : Int) (by omega) (by omega)
      cases e
      rw [rdT s i hlt] at hx1 hx2; simp only [Int.toNat_natCast] at hx1 hx2; have hut := units_take s i hlt; have hpf := units_take_drop s i hlt; have hok := HS.out.1 s[i] (List.getElem_mem hlt)
      have hle : (units (s.take i)).length + (uR s[i]).length ≤ (units s).length := by rw [units_split s i hlt]; simp only [List.length_append]; omega
      generalize s[i] = r at *
      have hil : (i : Int) + 1 ≤ 9223372036854775807 := by omega
      have hp := eq_true (show (0 : Int) ≤ (i : Int) by omega); have hq := eq_true (show (i : Int) < (s.length : Int) by omega)
      have hrb : 0 ≤ r.f0 ∧ r.f0 ≤ r.f1 ∧ r.f1 ≤ 1114367 := by
        obtain ⟨a0, a1, a2⟩ := hok; have b0 := bandOf_cases r.f0; have b1 := bandOf_cases r.f1; omega
      have HBR := Aside0.mk hbr; have HLT := Aside0.mk hlt; have HJS := Aside0.mk hJs; have HUT := Aside0.mk hut; have HPF := Aside0.mk hpf; have HRB := Aside0.mk hrb; have HLE := Aside0.mk hle; clear hbr hlt hi hJs hut hpf hok hrb hle; obtain ⟨wo, rfl⟩ : ∃ wo : World, wo = wr := ⟨_, rfl⟩
      gi_wp2
      clear hp hq hil hx1 hx2
      gi_loopw [5] (fun vu wi => ∃ (j : Nat), vu = .int .i32 (r.f0 + (j : Int)) ∧ j ≤ (uR r).length ∧ J (units (s.take i) ++ (uR r).take j) wi ∧ wi.heap[wo.heap.size]? = some (.cells #[.int .i32 r.f0, .int .i32 r.f1] 41 (0, 0)) ∧ Kd.R k41 41 wi bs (fun _ => True) (.slice (some ad) s.length cv) s ∧ wi.heap[Bn]? = some (.cells #[.slice (some ad) s.length cv] 24 (0, 0)) ∧ W.heap.size ≤ wi.heap.size) (fun vu _ => (r.f1 + 1 - intOf vu).toNat)
      case atStart => exact ⟨0, by simp, by omega, by simpa using hJ _ _ _ none HJS.out (World.grownBy_alloc _ _ none) (fun r e => by cases e), World.alloc_heap_new wo _, Kd.R_alloc HBR.out _, (Below.heap_alloc wo _ Bn (lt_of_block HCB.out)).trans HCB.out, by simp; omega⟩
      case round =>
        obtain ⟨j, rfl, hj, hJi, hblk, hbi, hci, hszi⟩ := hrel
        have hb1 : wr.cell? ⟨wo.heap.size, 1, none⟩ = some (.int .i32 r.f1) := by simp [World.cell?, hblk]
        have hul := uR_len r
        by_cases hjl : j < (uR r).length
        · have hd2 : decide (r.f0 + (j : Int) ≤ r.f1) = true := decide_eq_true (by have := HRB.out; omega)
          have hww : wrap32 (r.f0 + (j : Int) + 1) = r.f0 + (j : Int) + 1 := by have := HRB.out; unfold wrap32; omega
          have hlen : (units (s.take i) ++ (uR r).take j).length < (units s).length := by have := HLE.out; rw [List.length_append, List.length_take]; omega
          obtain ⟨fn, tmps, assign, body, hy, hR⟩ := hY _ (r.f0 + (j : Int)) _ hJi hlen; have hsn := uR_take r j hjl; have HSN := Aside0.mk hsn; have HBLK := Aside0.mk hblk; have HBI := Aside0.mk hbi; have HCI := Aside0.mk hci; have HJL := Aside0.mk hjl; have HUL := Aside0.mk hul; clear hsn hblk hbi hci hjl hul hlen hj hJi
          gi_wp2
          refine ⟨fun _ => by omega, hR.mono ?_⟩; rintro e W3 (⟨rfl, hJ3, hk3⟩ | ⟨rfl, hJx3⟩)
          · gi_wp2
            go_roundw
            case rel => exact ⟨j + 1, by rw [hww, Int.natCast_add, ← Int.add_assoc]; rfl, HJL.out, by rw [HSN.out, ← List.append_assoc]; exact hJ3, hk3.2.2 _ _ _ _ (.inl rfl) HBLK.out, R_kt2 hk3 HBI.out, hk3.2.2 _ _ _ _ (.inr rfl) HCI.out, Nat.le_trans hszi hk3.1⟩
            case measure => have := HUL.out; have := HJL.out; have := HRB.out; simp [intOf, hww]; omega
          · gi_wp2
            refine bodyPost_ret (results_none rfl _ _ _) rfl ?_; exact ⟨⟨_, rfl⟩, .inr ⟨_, by rw [List.append_assoc, ← HSN.out]; exact HPF.out (j + 1) HJL.out, hJx3⟩⟩
        · have hd2 : decide (r.f0 + (j : Int) ≤ r.f1) = false := decide_eq_false (by have := HRB.out; omega)
          have hje : j = (uR r).length := by omega
          have HJE := Aside0.mk (show J (units (s.take (i + 1))) wr by rw [HUT.out]; rw [hje, List.take_of_length_le (Nat.le_refl _)] at hJi; exact hJi); have HBI := Aside0.mk hbi; have HCI := Aside0.mk hci; clear hje hJi hbi hci hjl hul hj hblk
          have hil : (i : Int) + 1 ≤ 9223372036854775807 := by have := HLT.out; omega
          gi_wp2
          go_roundw
          case rel => exact ⟨i + 1, by go_num, HLT.out, HJE.out, HBI.out, HCI.out, hszi⟩
          case measure => have := HLT.out; simp [intOf]; omega
    · have hd1 : decide (i < s.length) = false := decide_eq_false hlt
      obtain rfl : i = s.length := by omega
      rw [List.take_of_length_le (Nat.le_refl _)] at hJs; have HJS := Aside0.mk hJs; clear hJs hlt hi hbr
      gi_wp2
      go_end0
      exact ⟨⟨_, rfl⟩, .inl ⟨_, rfl, HJS.out⟩⟩
theorem each_seq2 (s : List Rg) (hs : Sound s) (n Bn bs : Nat) (Av : Option Addr) (cv : Nat) (hn : 2 ≤ n) (w : World) (hC : Kd.R k41 41 w bs (fun _ => True) (.slice Av s.length cv) s) (hB : w.heap[Bn]? = some (.cells #[.slice Av s.length cv] 24 (0, 0))) :
    SeqStopsK Fence.wide n Tryz.prog 89 #[.pointer (some ⟨Bn, 0, none⟩)] (fun x : Int => #[.int .i32 x]) Kt2 (fun xs => xs = units s) (fun pre => pre <+: units s) (units s).length w :=
  fun l J Jx W hb hJ _ hY h0 => each1_in2 n hn l Bn bs Av cv s hs J Jx W hJ hY ((hb.block Bn (lt_of_block hB)).trans hB) (Kd.R_below hC hb) h0
structure Us (nu : Nat) (Ds : List Nat) (w W : World) (v : Value) (pre : List Int) : Prop where
  box : W.heap[nu]? = some (.cells #[v] 26 (0, 0))
  own : W.ownsRow (nu + 1) 21 1 v pre.length (nums .i32 pre)
  below : Below nu w W
  defs : ∀ D ∈ Ds, W.heap[D]? = some (.deferred (some []))
theorem cells_ne {W : World} {b : Nat} {cs : Array Value} {t : TypeId} {fr : Nat × Nat} {r : Nat} (h : W.heap[b]? = some (.cells cs t fr)) (hr : ∃ o : Obj, W.heap[r]? = some o ∧ o.isCells = false) : b ≠ r := by
  rintro rfl; obtain ⟨o, ho, hc⟩ := hr; rw [h] at ho
  cases ho
  simp [Obj.isCells] at hc
theorem Us.grown {nu : Nat} {Ds : List Nat} {w A B : World} {v : Value} {pre : List Int} {row : Option Nat} (h : Us nu Ds w A v pre) (hn : nu ≤ w.heap.size) (hDs : ∀ D ∈ Ds, D < w.heap.size) (hg : A.grownBy B row)
    (hr : ∀ r, row = some r → w.heap.size ≤ r ∧ ∃ o : Obj, A.heap[r]? = some o ∧ o.isCells = false) : Us nu Ds w B v pre :=
  ⟨(hg.block nu (lt_of_block h.box) (fun e => cells_ne h.box (hr nu e.symm).2 rfl)).trans h.box,
    own_move h.own (fun k hk => by
      obtain ⟨cs, hc⟩ := own_typed h.own k hk
      exact hg.block k (lt_of_block hc) (fun e => cells_ne hc (hr k e.symm).2 rfl)),
    ownFrom_below (β := Unit) hn hn () A B row h.below hg hr,
    fun D hD => (hg.block D (lt_of_block (h.defs D hD)) (fun e => by have := (hr D e.symm).1; have := hDs D hD; omega)).trans (h.defs D hD)⟩
theorem Us.box7 {nu : Nat} {Ds : List Nat} {w W W1 : World} {v : Value} {pre : List Int} {o : Obj} (h : Us nu Ds w W v pre) (hg : (W.alloc o).grownBy W1 v.ownBlock) : W1.heap[nu]? = some (.cells #[v] 26 (0, 0)) :=
  ((hg.block nu (by have := lt_of_block h.box; simp; omega) (fun e => by have := own_base h.own nu e.symm; omega)).trans (Below.heap_alloc W o nu (lt_of_block h.box))).trans h.box
theorem Us.step {nu : Nat} {Ds : List Nat} {w W W1 : World} {v v' : Value} {pre : List Int} {x : Int} {o : Obj} (h : Us nu Ds w W v pre) (hDs : ∀ D ∈ Ds, D ≠ nu)
    (hown : W1.ownsRow (nu + 1) 21 1 v' (pre.length + 1) (nums .i32 pre ++ [.int .i32 x])) (hg : (W.alloc o).grownBy W1 v.ownBlock) :
    KeepsOthers W (W1.setCell ⟨nu, 0, none⟩ v') ∧ Kt nu W (W1.setCell ⟨nu, 0, none⟩ v') ∧ Us nu Ds w (W1.setCell ⟨nu, 0, none⟩ v') v' (pre ++ [x]) := by
  have hlt := lt_of_block h.box; have hob : ∀ k, v.ownBlock = some k → nu + 1 ≤ k ∧ ∃ cs, W.heap[k]? = some (.cells cs 21 (0, 0)) := fun k hk => ⟨own_base h.own k hk, own_typed h.own k hk⟩; have hal : ∀ k, k < W.heap.size → (W.alloc o).heap[k]? = W.heap[k]? := fun k hk => Below.heap_alloc W o k hk; have hgb : ∀ k, k < W.heap.size → some k ≠ v.ownBlock → W1.heap[k]? = W.heap[k]? := fun k hk hne => (hg.block k (by simp; omega) hne).trans (hal k hk); have hbn : W1.heap[nu]? = some (.cells #[v] 26 (0, 0)) := (hgb nu hlt (fun e => by have := (hob nu e.symm).1; omega)).trans h.box
  have k1 : KeepsOthers W (W1.setCell ⟨nu, 0, none⟩ v') := ((KeepsOthers.alloc W o).trans (KeepsOthers.of_grownBy hg (fun j o' hj ho => by
    obtain ⟨_, cs, hc⟩ := hob j hj; rw [hal j (lt_of_block hc), hc] at ho
    cases ho; rfl))).trans (KeepsOthers.setCell _ _ _)
  have bel : ∀ {w0 : World}, Below nu w0 W → Below nu w0 (W1.setCell ⟨nu, 0, none⟩ v') := fun hb =>
    (((hb.alloc (Nat.le_of_lt hlt) o).grown hg (by simp; omega) (fun k hk => by have := (hob k hk).1; omega)).setCell (p := ⟨nu, 0, none⟩) (Nat.le_refl _) _)
  refine ⟨k1, ⟨bel (Below.refl _ _), k1.walks, fun b cs fr hb => ?_⟩, ⟨one_setCell hbn, ?_, bel h.below, fun D hD => k1.same D _ (h.defs D hD) rfl⟩⟩
  · have hne : b ≠ nu := by
      rintro rfl; rw [h.box] at hb; injection hb with hb; injection hb with _ hb; exact absurd hb (by decide)
    refine (Below.heap_setCell _ ⟨nu, 0, none⟩ v' b hne).trans ((hgb b (lt_of_block hb) (fun e => ?_)).trans hb); obtain ⟨_, cs', hc⟩ := hob b e.symm; rw [hc] at hb; injection hb with hb; injection hb with _ hb; exact absurd hb (by decide)
  · have : W1.ownsRow (nu + 1) 21 1 v' (pre ++ [x]).length (nums .i32 (pre ++ [x])) := by rw [nums_append, List.length_append]; exact hown
    exact ownsRow_setCell_other this (fun e => by have := own_base this nu e; omega) _
theorem Us.on {nu : Nat} {Ds : List Nat} {w W W' : World} {v : Value} {pre : List Int} (h : Us nu Ds w W v pre) (hb : Below W.heap.size W W') : Us nu Ds w W' v pre :=
  ⟨(hb.block nu (lt_of_block h.box)).trans h.box, own_move h.own (fun k hk => by obtain ⟨cs, hc⟩ := own_typed h.own k hk; exact hb.block k (lt_of_block hc)),
    h.below.trans (hb.mono (Nat.le_of_lt (lt_of_block h.box))), fun D hD => (hb.block D (lt_of_block (h.defs D hD))).trans (h.defs D hD)⟩
def RoundPost (n₀ id : Nat) (P : List Int) (I X : List Int → World → Prop) (pre : List Int) (W : World) (e : Exit) (W' : World) : Prop :=
  KeepsOthers W W' ∧ ((e = .normal ∧ Kt n₀ W W' ∧ I pre W') ∨ (e = .ret ∧ ¬ pre <+: P) ∨ (e = .exit id ∧ X pre W'))
def inRd (a : Act) (p p' : Tmp) (x : Int) : Act := { tmps := (a.tmps.setIfInBounds p (.int .i32 x)).setIfInBounds p' (.int .i32 x), defers := [] }
theorem putObj_heap {W : World} {D E : Nat} {o : Obj} (h : E ≠ D) : (W.putObj D o).heap[E]? = W.heap[E]? := by
  simp [World.putObj, Array.getElem?_setIfInBounds, Ne.symm h]
theorem putObj_below {B : Nat} {w W : World} {D : Nat} {o : Obj} (h : Below B w W) (hD : B ≤ D) : Below B w (W.putObj D o) :=
  ⟨h.os, h.tape, h.output, by simp [World.putObj]; exact h.size, fun k hk => (putObj_heap (by omega)).trans (h.block k hk)⟩
theorem blk_on {W W' : World} {b : Nat} {o : Obj} (h : W.heap[b]? = some o) (hb : Below W.heap.size W W') : W'.heap[b]? = some o := (hb.block b (lt_of_block h)).trans h
theorem own_form_p {w : World} {base n size : Nat} {e : TypeId} {v : Value} {xs : List Value} (h : w.ownsRow base e size v n xs) : ∃ A c, v = .slice A n c := by
  rcases h.2 with ⟨rfl, rfl⟩ | ⟨g, cap, cur, rfl, _⟩
  (· exact ⟨none, 0, rfl⟩); (· exact ⟨_, _, rfl⟩)
theorem info_i32 : (Tryz.prog.info? 21).map (fun i => (i.zero, i.size, i.bytes)) = some (some (.int .i32 0), 1, 4) := by kernel_rfl
theorem units_len0 : ∀ (l : List Rg) (m : Int), 0 ≤ m → m ≤ 1114368 → Sound l → (∀ r ∈ l, m ≤ r.f0) → ((units l).length : Int) ≤ 1114368 - m
  | [], m, h0, h1, _, _ => by simp [units]; omega
  | x :: l, m, h0, h1, h, hm => by
    have hx := h.1 x (by simp); obtain ⟨a0, a1, a2⟩ := hx; have b0 := bandOf_cases x.f0; have b1 := bandOf_cases x.f1; have hmx := hm x (by simp); have ih := units_len0 l (x.f1 + 1) (by omega) (by omega) h.tail (fun r hr => by have := (List.pairwise_cons.1 h.2).1 r hr; omega); rw [units_cons, List.length_append, uR_len]; omega
theorem units_small {l : List Rg} (h : Sound l) : (units l).length ≤ 1114368 := by
  have := units_len0 l 0 (by omega) (by omega) h (fun r hr => by have a := h.1 r hr; have b := bandOf_cases r.f0; obtain ⟨a0, _, _⟩ := a; omega); omega
def stopAt (n : Int) : Nat := if n ≤ 1 then 1 else n.toNat
theorem stopAt_pos (n : Int) : 1 ≤ stopAt n := by unfold stopAt; split <;> omega
theorem stop_iff (n : Int) (m : Nat) (hm : 1 ≤ m) : ((m : Int) ≥ n) ↔ stopAt n ≤ m := by unfold stopAt; split <;> omega
theorem leave_one {F : Fence} {n : Nat} {P : Program} {fn : Func} {tmps : Array Value} {R : Ending → World → Prop} {v : Value} {D : Nat} {W : World}
    (hres : ∀ W : World, (results fn tmps).run P W = .ok v W) (hD : W.heap[D]? = some (.deferred (some []))) (hR : ∀ o, R (.returned v) (W.putObj D o)) :
    LeavesInM F n P fn tmps R [{ target := .collected D, args := #[] }] .returning W :=
  ⟨by simp, .inl ⟨D, _, rfl, run_takeDeferred hD, ⟨v, hres _, hR _⟩⟩⟩
theorem func_nil (w : World) (f : Fn) (a b : Array Value) : (binOp .eql 106 (.func f a b) .nilFunc).run Tryz.prog w = .ok (.bool false) w := by
  have h : ∀ d, (Op.equalIn (d + 1) 106 (.func f a b) .nilFunc).run Tryz.prog w = .ok false w := fun d => by simp [Op.equalIn, run_underlying Tryz.underlying106]
  simp only [binOp]
  simp [Op.equal, Op.maxDepth, h 9999]
theorem blk2 (w : World) (x y : Value) (t u : TypeId) : ((w.alloc (.cells #[x] t)).alloc (.cells #[y] u)).heap[w.heap.size]? = some (.cells #[x] t (0, 0)) ∧ ((w.alloc (.cells #[x] t)).alloc (.cells #[y] u)).heap[w.heap.size + 1]? = some (.cells #[y] u (0, 0)) := by
  have h1 := World.alloc_heap_new w (.cells #[x] t); have h2 := World.alloc_heap_new (w.alloc (.cells #[x] t)) (.cells #[y] u); rw [World.size_alloc] at h2; exact ⟨(Below.heap_alloc _ _ _ (by simp)).trans h1, h2⟩
def RoundPost2 (id : Nat) (P : List Int) (I X : List Int → World → Prop) (pre : List Int) (W : World) (e : Exit) (W' : World) : Prop :=
  KeepsOthers W W' ∧ ((e = .normal ∧ Kt2 W W' ∧ I pre W') ∨ (e = .ret ∧ ¬ pre <+: P) ∨ (e = .exit id ∧ X pre W'))
theorem each_loop3 {g : Operand} {ps : Array Tmp} {assign body : Code} {Q : Exit → Act → World → Prop} {a : Act} {w : World} {n : Nat} (n₀ id : Nat) (P : List Int) (I X : List Int → World → Prop)
    (h1 : 1 ≤ n) {gf : Nat} {lb : Array Value} (hg : a.eval g = .func (.func gf) #[] lb) (eg : ∀ args w, (callFunc gf args).run Tryz.prog w = .ok (.enter gf args) w)
    (hseq : SeqStopsK Fence.wide (n - 1) Tryz.prog gf lb (fun x : Int => #[.int .i32 x]) Kt2 (fun xs => xs = P) (fun pre => pre <+: P) P.length w)
    (hps : ps.size = 1) (hn : n₀ ≤ w.heap.size) (hI : OwnFrom w.heap.size I) (hX : OwnFrom w.heap.size X) (h0 : I [] w) (p p' : Tmp)
    (hassign : ∀ (l : Nat) (x : Int) (W : World) (K : Act → World → Prop), K (inRd a p p' x) W →
      assign.wpIn (Fence.wide.inRound l) (n - 1 - 1) Tryz.prog (Exit.then K (fun _ _ _ => False)) { tmps := (ps.zip #[Value.int .i32 x]).foldl (fun t (p, v) => t.setIfInBounds p v) a.tmps, defers := [] } W)
    (hbody : ∀ (l : Nat) (pre : List Int) (x : Int) (W : World), I pre W → pre.length < P.length →
      body.wpIn (Fence.wide.inRound l) (n - 1 - 1) Tryz.prog (fun e _ W' => RoundPost2 id P I X (pre ++ [x]) W e W') (inRd a p p' x) W)
    (hexit : ∀ a W, Q .normal a W → Q (.exit id) a W)
    (key : ∀ (D : Nat) (W : World), w.heap.size ≤ D → (I P W ∨ ∃ pre, pre <+: P ∧ X pre W) → W.heap[D]? = some (.deferred (some [])) → Q .normal { a with defers := { target := .collected D, args := #[] } :: a.defers } W) :
    (Code.rangeFunc g ps assign body).wpIn Fence.wide n Tryz.prog Q a w := by
  refine wpIn_rangeFunc_ownF rfl h1 hg trivial eg hseq kt2_t (fun W l o o' hl h hc hw => ⟨by simp [World.putObj], KeepsWalks.putObj _ h hw, fun b t cs fr _ hb => ?_⟩) (Below.refl _ _) (fun _ => hps.symm)
    I (fun c pre W => (c = .ret ∧ ¬ pre <+: P) ∨ (c = .exit id ∧ X pre W)) hI ?ix h0 (inRd a p p') hassign ?body ?done ?stop
  · have hne : b ≠ l := cells_ne hb ⟨o, h, hc⟩; exact (World.putObj_heap_other hne).trans hb
  case ix =>
    intro c s A B row hs hg hr; exact hs.imp (fun h => h) (fun h => ⟨h.1, hX s A B row h.2 hg hr⟩)
  case body =>
    intro l pre x W hi hlen; refine wpIn_mono (hbody l pre x W hi hlen) ?_; rintro e a' W' ⟨hk, ⟨rfl, hkt, hI'⟩ | ⟨rfl, hnp⟩ | ⟨rfl, hx⟩⟩; (· exact ⟨hk, hkt, hI'⟩); (· exact ⟨hk, .inl ⟨rfl, hnp⟩⟩); (· exact ⟨hk, .inr ⟨rfl, hx⟩⟩)
  case done =>
    rintro D xs W hD rfl hi hK; exact key D W hD (.inl hi) hK
  case stop =>
    rintro D c pre W hD hpre (⟨rfl, hnp⟩ | ⟨rfl, hx⟩) hK; (· exact absurd hpre hnp); (· exact wpIn_exit (hexit _ _ (key D W hD (.inr ⟨pre, hpre, hx⟩) hK)))
theorem Us.kt2 {nu : Nat} {Ds : List Nat} {w W W1 : World} {v v' : Value} {pre : List Int} {x : Int} {o : Obj} (h : Us nu Ds w W v pre) (hg : (W.alloc o).grownBy W1 v.ownBlock) : Kt2 W (W1.setCell ⟨nu, 0, none⟩ v') := by
  have hlt := lt_of_block h.box; have hob : ∀ k, v.ownBlock = some k → nu + 1 ≤ k ∧ ∃ cs, W.heap[k]? = some (.cells cs 21 (0, 0)) := fun k hk => ⟨own_base h.own k hk, own_typed h.own k hk⟩; have hal : ∀ k, k < W.heap.size → (W.alloc o).heap[k]? = W.heap[k]? := fun k hk => Below.heap_alloc W o k hk; have hgb : ∀ k, k < W.heap.size → some k ≠ v.ownBlock → W1.heap[k]? = W.heap[k]? := fun k hk hne => (hg.block k (by simp; omega) hne).trans (hal k hk)
  have k1 : KeepsOthers W (W1.setCell ⟨nu, 0, none⟩ v') := ((KeepsOthers.alloc W o).trans (KeepsOthers.of_grownBy hg (fun j o' hj ho => by
    obtain ⟨_, cs, hc⟩ := hob j hj; rw [hal j (lt_of_block hc), hc] at ho
    cases ho; rfl))).trans (KeepsOthers.setCell _ _ _)
  refine ⟨by have := hg.size; simp at this ⊢; omega, k1.walks, fun b t cs fr ht hb => ?_⟩
  have htt : t ≠ 26 ∧ t ≠ 21 := by rcases ht with rfl | rfl <;> exact ⟨by decide, by decide⟩
  have hne : b ≠ nu := by
    rintro rfl; rw [h.box] at hb; injection hb with hb; injection hb with _ hb; exact htt.1 hb.symm
  refine (Below.heap_setCell _ ⟨nu, 0, none⟩ v' b hne).trans ((hgb b (lt_of_block hb) (fun e => ?_)).trans hb); obtain ⟨_, cs', hc⟩ := hob b e.symm; rw [hc] at hb; injection hb with hb; injection hb with _ hb; exact htt.2 hb.symm
theorem step_post2 {nu id st : Nat} {P : List Int} {wU W W7 : World} {v v' : Value} {pre : List Int} {x : Int} {o : Obj} (h : Us nu [] wU W v pre) (hlt : pre.length + 1 < st)
    (hown : W7.ownsRow (nu + 1) 21 1 v' (pre.length + 1) (nums .i32 pre ++ [.int .i32 x])) (hg : (W.alloc o).grownBy W7 v.ownBlock) :
    RoundPost2 id P (fun pre W => pre.length < st ∧ ∃ v, Us nu [] wU W v pre) (fun pre W => pre.length = st ∧ ∃ v, Us nu [] wU W v pre) (pre ++ [x]) W .normal (W7.setCell ⟨nu, 0, none⟩ v') := by
  obtain ⟨k1, _, k3⟩ := h.step (fun D hD => by cases hD) hown hg; exact ⟨k1, .inl ⟨rfl, h.kt2 (x := x) hg, by rw [List.length_append]; exact hlt, _, k3⟩⟩
theorem exit_post2 {nu id st : Nat} {P : List Int} {wU W W7 : World} {v v' : Value} {pre : List Int} {x : Int} {o : Obj} (h : Us nu [] wU W v pre) (hlt : pre.length + 1 = st)
    (hown : W7.ownsRow (nu + 1) 21 1 v' (pre.length + 1) (nums .i32 pre ++ [.int .i32 x])) (hg : (W.alloc o).grownBy W7 v.ownBlock) :
    RoundPost2 id P (fun pre W => pre.length < st ∧ ∃ v, Us nu [] wU W v pre) (fun pre W => pre.length = st ∧ ∃ v, Us nu [] wU W v pre) (pre ++ [x]) W (.exit id) (W7.setCell ⟨nu, 0, none⟩ v') := by
  obtain ⟨k1, _, k3⟩ := h.step (fun D hD => by cases hD) hown hg; exact ⟨k1, .inr (.inr ⟨rfl, by rw [List.length_append]; exact hlt, _, k3⟩)⟩
theorem le_max_len {n : Nat} (h : n + 1 ≤ 1114368) : n + 1 ≤ maxLen := by unfold maxLen; omega
theorem le_bytes {n : Nat} (h : n + 1 ≤ 1114368) : (n + 1) * 4 ≤ 140737488355328 := by omega
theorem us_room {nu : Nat} {Ds : List Nat} {w W : World} {v : Value} {pre : List Int} (h : Us nu Ds w W v pre) (o : Obj) : nu + 1 ≤ (W.alloc o).heap.size := by
  have := lt_of_block h.box
  simp; omega
set_option maxHeartbeats 8000000 in
set_option maxRecDepth 100000 in
theorem walk_run (K : Nat) (t : Int) (A0 : Option Addr) (c0 : Nat) (l0 s : List Rg) (n : Int) (w : World) (hl : l0.length ≤ 1114368) (hk : sets_Check.f K l0 = some t) (hsd : s = if t = 0 then l0 else []) (hs : Sound s) (hr0 : Kd.C k41 w A0 l0.length l0) (hc0 : l0.length ≤ c0) (hG : Glob w) :
    Calls Tryz.prog 34 #[.slice A0 l0.length c0, .int .i64 n] w fun e w' => ∃ v : Value, e = .returned v ∧ Kd.R (Kd.int .i32) 21 w' w.heap.size (fun _ => True) v ((units s).take (stopAt n)) ∧ Below w.heap.size w w' := by
  refine (callsIn_wide (n := 5)).1 ?_; have HR0 := Aside0.mk hr0; have HG := Aside0.mk hG; have HS := Aside0.mk hs; have HK := Aside0.mk hk; have HSD := Aside0.mk hsd; clear hr0 hG hs hk hsd; refine callsIn_of_wp_marks Tryz.func34 rfl trivial ?_ rfl; refine wpIn_wide.2 ?_; simp only [Tryz.ntmps34, List.size_toArray, List.length_cons, List.length_nil, Nat.reduceAdd, Nat.reduceSub, Array.replicate_succ, Array.replicate_zero, List.push_toArray, List.append_toArray, List.nil_append, List.cons_append]; have b0 := below_alloc (below_alloc (Below.refl _ w) (.cells #[.int .i64 n] 3)) (.cells #[.slice none 0 0] 26); have B0 := Aside0.mk b0; have HBX := Aside0.mk (blk2 w (.int .i64 n) (.slice none 0 0) 3 26); have hfn := func_nil; clear b0
  go_wp2_with (go_at_call 60; (with_reducible refine (each_calls K t _ _ l0 _ hl HK.out (Kd.C_below HR0.out B0.out) hc0 (HG.out.of_below B0.out)).mono ?_); rintro e w2 ⟨Bn, v2, rfl, hBn, hc2, hR2, hb2⟩; rw [← HSD.out] at hR2; have B2 := Aside0.mk (below_step B0.out hb2); have HX2 := Aside0.mk (blk_on HBX.out.1 hb2); have HU2 := Aside0.mk (blk_on HBX.out.2 hb2); have HC2 := Aside0.mk hc2; have HR2 := Aside0.mk hR2; clear hb2 hc2 hR2 hBn)
  obtain ⟨Av, cv, rfl, hcv, _⟩ := Kd.R_reads HR2.out; have HUS := Aside0.mk (units_small HS.out); clear hfn; refine (wpIn_wide (n := 5)).1 ?_
  refine each_loop3 (n := 5) (w.heap.size + 1) 0 (units s) (fun pre W => pre.length < stopAt n ∧ ∃ v, Us (w.heap.size + 1) [] w2 W v pre) (fun pre W => pre.length = stopAt n ∧ ∃ v, Us (w.heap.size + 1) [] w2 W v pre) (by omega) (gf := 89) (lb := #[.pointer (some ⟨Bn, 0, none⟩)]) rfl (enters_of Tryz.func89 (by kernel_rfl) rfl)
    (each_seq2 s HS.out _ Bn _ Av cv (by omega) w2 HR2.out HC2.out) rfl (by have := lt_of_block HU2.out; omega)
    (fun pre A B row ⟨h0, v, h⟩ hg hr => ⟨h0, v, h.grown (by have := lt_of_block HU2.out; omega) (fun D hD => by cases hD) hg hr⟩) (fun pre A B row ⟨h0, v, h⟩ hg hr => ⟨h0, v, h.grown (by have := lt_of_block HU2.out; omega) (fun D hD => by cases hD) hg hr⟩)
    ⟨stopAt_pos n, _, HU2.out, own_nil _ _ _ _, Below.refl _ _, fun D hD => by cases hD⟩ 14 7 ?assign ?body ?exit ?key
  case assign =>
    intro l x W K hK
    simp [inRd] at hK
    gi_wp2
    exact hK
  case exit => exact fun _ _ h => h
  case body =>
    rintro l pre x W ⟨hlt0, v, hU⟩ hlen; obtain ⟨Au, cu, rfl⟩ := own_form_p hU.own; have hN := (hU.below.block w.heap.size (Nat.lt_succ_self _)).trans HX2.out; have cN := cell_of_one hN; have cu0 := cell_of_one hU.box; have fu0 := free_of_one hU.box; have HU := Aside0.mk hU; have HN := Aside0.mk hN; have HLE := Aside0.mk (show pre.length + 1 ≤ 1114368 by have := HUS.out; omega); have HLT0 := Aside0.mk hlt0; have hst := stop_iff n (pre.length + 1) (Nat.le_add_left _ _); obtain ⟨i0, hi, hzz⟩ := Option.map_eq_some_iff.1 info_i32; simp only [Prod.mk.injEq] at hzz; have HI := Aside0.mk (show Tryz.prog.info? 21 = some i0 ∧ i0.zero = some (.int .i32 0) ∧ i0.size = 1 ∧ i0.bytes = 4 from ⟨hi, hzz⟩); clear hi hzz hU hN hlt0 hlen
    by_cases hs2 : stopAt n ≤ pre.length + 1
    · have hge : n ≤ ((pre.length + 1 : Nat) : Int) := hst.2 hs2
      have HEQ := Aside0.mk (show pre.length + 1 = stopAt n by have := HLT0.out; omega); have hd1 : decide (n ≤ (pre.length : Int) + 1) = true := decide_eq_true (by omega); have hd2 := eq_true (show n ≤ (pre.length : Int) + 1 by omega); clear hst hs2 hge
      simp [inRd]
      gi_wp2_with (gi_at_builtin; refine wpListIn_append_own _ rfl (.tmp 15) (.tmp 17) 26 rfl (w.heap.size + 1 + 1) 21 i0 (.int .i32 0) 1 4 Tryz.underlying26 HI.out.1 HI.out.2.1 HI.out.2.2.1 HI.out.2.2.2 rfl (by decide) (.slice Au pre.length cu) pre.length (nums .i32 pre) rfl ((HU.out.own).alloc _) ⟨W.heap.size, 0, none⟩ 1 1 [.int .i32 x] rfl rfl ?_ ?_ ?_ ?_ ?_ ?_; exact World.news_of_block (cs := #[.int .i32 x]) (t := 21) (fr := (0, 0)) (heap_alloc_new W _); simp [Value.oneCell']; exact le_max_len HLE.out; exact le_bytes HLE.out; exact us_room HU.out _; intro v7 w7 ho7 hg7 _; obtain ⟨A7, c7_, rfl⟩ := own_form_p ho7; have HO7 := Aside0.mk ho7; have HG7 := Aside0.mk hg7; clear ho7 hg7; have hb7 := HU.out.box7 HG7.out; have c7 := cell_of_one hb7; have f7 := free_of_one hb7; have c8 := cell_of_one (one_setCell (u := .slice A7 (pre.length + 1) c7_) hb7); have k3 := (HU.out.step (v' := .slice A7 (pre.length + 1) c7_) (fun D hD => by cases hD) HO7.out HG7.out).2.2; have n8 := cell_of_one ((k3.below.block w.heap.size (Nat.lt_succ_self _)).trans HX2.out); clear hb7 k3)
      all_goals first
        | exact exit_post2 HU.out HEQ.out HO7.out HG7.out
    · have hge : ¬ n ≤ ((pre.length + 1 : Nat) : Int) := fun h => hs2 (hst.1 h)
      have HEQ := Aside0.mk (show pre.length + 1 < stopAt n by omega); have hd1 : decide (n ≤ (pre.length : Int) + 1) = false := decide_eq_false (by omega); have hd2 := eq_false (show ¬ n ≤ (pre.length : Int) + 1 by omega); clear hst hs2 hge
      simp [inRd]
      gi_wp2_with (gi_at_builtin; refine wpListIn_append_own _ rfl (.tmp 15) (.tmp 17) 26 rfl (w.heap.size + 1 + 1) 21 i0 (.int .i32 0) 1 4 Tryz.underlying26 HI.out.1 HI.out.2.1 HI.out.2.2.1 HI.out.2.2.2 rfl (by decide) (.slice Au pre.length cu) pre.length (nums .i32 pre) rfl ((HU.out.own).alloc _) ⟨W.heap.size, 0, none⟩ 1 1 [.int .i32 x] rfl rfl ?_ ?_ ?_ ?_ ?_ ?_; exact World.news_of_block (cs := #[.int .i32 x]) (t := 21) (fr := (0, 0)) (heap_alloc_new W _); simp [Value.oneCell']; exact le_max_len HLE.out; exact le_bytes HLE.out; exact us_room HU.out _; intro v7 w7 ho7 hg7 _; obtain ⟨A7, c7_, rfl⟩ := own_form_p ho7; have HO7 := Aside0.mk ho7; have HG7 := Aside0.mk hg7; clear ho7 hg7; have hb7 := HU.out.box7 HG7.out; have c7 := cell_of_one hb7; have f7 := free_of_one hb7; have c8 := cell_of_one (one_setCell (u := .slice A7 (pre.length + 1) c7_) hb7); have k3 := (HU.out.step (v' := .slice A7 (pre.length + 1) c7_) (fun D hD => by cases hD) HO7.out HG7.out).2.2; have n8 := cell_of_one ((k3.below.block w.heap.size (Nat.lt_succ_self _)).trans HX2.out); clear hb7 k3)
      all_goals first
        | exact step_post2 HU.out HEQ.out HO7.out HG7.out
  case key =>
    intro D W1 hD hor hd
    have hrow : ∃ v, Us (w.heap.size + 1) [] w2 W1 v ((units s).take (stopAt n)) := by
      rcases hor with ⟨h1, v, h⟩ | ⟨pre, hp, h1, v, h⟩
      · rw [List.take_of_length_le (Nat.le_of_lt h1)]; exact ⟨v, h⟩
      · have e : (units s).take (stopAt n) = pre := by
          obtain ⟨r, hr⟩ := hp; rw [← hr, ← h1]
          simp
        rw [e]; exact ⟨v, h⟩
    obtain ⟨v, hU⟩ := hrow; have cu0 := cell_of_one hU.box; have HU := Aside0.mk hU; have HD := Aside0.mk hd; have HDL := Aside0.mk hD; clear hU hd hD hor
    gi_wp2
    go_wp2
    refine leave_one (v := v) (fun W => ?_) HD.out (fun o => ?_)
    · first | exact results_tmp (fn := Tryz.f34) (t := 4) rfl _ _ _ | (simp [results, Tryz.results34, go_sem])
    · refine ⟨_, rfl, ?_, ?_⟩
      · have h1 : (W1.putObj D o).ownsRow (w.heap.size + 1 + 1) 21 1 v ((units s).take (stopAt n)).length (nums .i32 ((units s).take (stopAt n))) := own_move HU.out.own (fun b hb => putObj_heap (fun e => by
          obtain ⟨cs, hc⟩ := own_typed HU.out.own b hb; rw [e, HD.out] at hc
          cases hc))
        have h2 : (W1.putObj D o).ownsRow w.heap.size 21 1 v ((units s).take (stopAt n)).length (encs (Value.int .i32) ((units s).take (stopAt n))) := own_weaken h1 (by omega); exact Kd.R_of_own (h1 := fun _ => rfl) (enc := Value.int .i32) h2 (fun _ _ => trivial)
      · exact putObj_below (B2.out.trans (HU.out.below.mono (Nat.le_succ _))) (by have := lt_of_block HU2.out; have := HDL.out; omega)
end
end WalkT
instance (l : List S41) : Decidable (WalkT.Sound l) := by unfold WalkT.Sound WalkT.okR; infer_instance
def thistlelaw02_walk.f (k : Nat) (l0 : List S41) (a1 : Int) : Option (List Int) :=
  if l0.length ≤ 1114368 then (sets_Check.f k l0).bind fun t => if WalkT.Sound (if t = 0 then l0 else []) then some ((WalkT.units (if t = 0 then l0 else [])).take (WalkT.stopAt a1)) else none else none
theorem thistlelaw02_walk.mono : ∀ a0 a1 k, LeO (thistlelaw02_walk.f k a0 a1) (thistlelaw02_walk.f (k + 1) a0 a1) := by
  intro a0 a1 k; unfold thistlelaw02_walk.f; exact LeO.ite (LeO.bind (sets_Check.mono _ _) (fun t => LeO.refl _)) (LeO.none _)
theorem thistlelaw02_walk.calls (k : Nat) (A0 : Option Addr) (c0 : Nat) (l0 : List S41) (a1 : Int) (r : List Int) (w : World) (hr0 : Kd.C k41 w A0 l0.length l0) (hc0 : l0.length ≤ c0) (hG : Glob w) (h : thistlelaw02_walk.f k l0 a1 = some r) :
    Calls Tryz.prog 34 #[.slice A0 l0.length c0, .int .i64 a1] w fun e w' => ∃ v0_ : Value, e = .returned (v0_) ∧ Kd.R (Kd.int .i32) 21 w' w.heap.size (fun _ => True) v0_ r ∧ Below w.heap.size w w' := by
  unfold thistlelaw02_walk.f at h
  by_cases hl : l0.length ≤ 1114368
  case neg => rw [if_neg hl] at h; cases h
  rw [if_pos hl] at h; obtain ⟨t, ht, h⟩ := Option.bind_eq_some_iff.1 h
  by_cases hs : WalkT.Sound (if t = 0 then l0 else [])
  case neg => rw [if_neg hs] at h; cases h
  rw [if_pos hs] at h; obtain rfl := Option.some.inj h; exact WalkT.walk_run k t A0 c0 l0 _ a1 w hl ht rfl hs hr0 hc0 hG
def thistleref02_SameRanges.l0 : Nat → List (S41) → List (S41) → Int → Option (Bool)
 | 0, _, _, _ => none
 | k + 1, x0, x1, x5 => if x5 < (x0.length : Int) then (if 0 ≤ x5 then (if x5 < (x1.length : Int) then (if (!(((rd_T41 x0 x5).f0) == ((rd_T41 x1 x5).f0)) || (!(((rd_T41 x0 x5).f1) == ((rd_T41 x1 x5).f1)))) = true then (some false) else (thistleref02_SameRanges.l0 k x0 x1 (wrap64 (x5 + 1)))) else (none)) else (none)) else (some true)
def thistleref02_SameRanges.f (k : Nat) (l0 : List (S41)) (l1 : List (S41)) : Option (Bool) := if (l0.length : Int) = (l1.length : Int) then (thistleref02_SameRanges.l0 k l0 l1 0) else (some false)
theorem thistleref02_SameRanges.mono_l : ∀ k, (∀ y0 y1 y2, LeO (thistleref02_SameRanges.l0 k y0 y1 y2) (thistleref02_SameRanges.l0 (k + 1) y0 y1 y2))
 | 0 => fun _ _ _ r h => by simp [thistleref02_SameRanges.l0] at h
 | k + 1 => by
  have ih0 := thistleref02_SameRanges.mono_l k
  ·
   intro y0 y1 y2; unfold thistleref02_SameRanges.l0
   repeat' first
   | (with_reducible exact ih0 _ _ _)
   | (with_reducible exact LeO.refl _)
   | (with_reducible exact LeO.none _)
   | (with_reducible refine LeO.ite ?_ ?_)
   | (with_reducible refine LeO.bind ?_ (fun _ => ?_))
theorem thistleref02_SameRanges.mono : ∀ a0 a1 k, LeO (thistleref02_SameRanges.f k a0 a1) (thistleref02_SameRanges.f (k + 1) a0 a1) := by
 intro a0 a1 k; have ih0 := thistleref02_SameRanges.mono_l k; unfold thistleref02_SameRanges.f
 repeat' first
   | (with_reducible exact ih0 _ _ _)
   | (with_reducible exact LeO.refl _)
   | (with_reducible exact LeO.none _)
   | (with_reducible refine LeO.ite ?_ ?_)
   | (with_reducible refine LeO.bind ?_ (fun _ => ?_))
set_option maxHeartbeats 8000000 in
set_option maxRecDepth 100000 in
theorem thistleref02_SameRanges.calls (k : Nat) (A0 : Option Addr) (c0 : Nat) (l0 : List (S41)) (A1 : Option Addr) (c1 : Nat) (l1 : List (S41)) (r : Bool) (w : World) (hr0 : Kd.C k41 w A0 l0.length l0) (hc0 : l0.length ≤ c0) (hr1 : Kd.C k41 w A1 l1.length l1) (hc1 : l1.length ≤ c1) (h : thistleref02_SameRanges.f k l0 l1 = some r) :
  Calls Tryz.prog 35 #[.slice A0 l0.length c0, .slice A1 l1.length c1] w fun e w' => e = .returned (.bool r) ∧ Drawn0 w w' := by
 have hu41 := Tryz.underlying41; have HR0 := Aside0.mk hr0; have HC0 := Aside0.mk hc0; clear hr0 hc0; have HR1 := Aside0.mk hr1; have HC1 := Aside0.mk hc1; clear hr1 hc1; have H : (if (l0.length : Int) = (l1.length : Int) then (thistleref02_SameRanges.l0 k l0 l1 0) else (some false)) = some r := h; clear h
 by_cases c3 : (l0.length : Int) = (l1.length : Int)
 ·
  rw [if_pos c3] at H; have c3b0 : ((l0.length : Int) == (l1.length : Int)) = true := beq_iff_eq.mpr c3; have c3b1 : ((l0.length : Int) != (l1.length : Int)) = false := bne_eq_false_iff_eq.mpr c3
  have c3b2 : (l0.length == l1.length) = true := by first | simpa using c3 | (simp at c3 ⊢; omega)
  clear c3; have H' := Aside0.mk H; clear H; go_enter Tryz.func35, Tryz.ntmps35
  go_wp2
  repeat (go_quiet (fail); try go_wp2)
  go_loopg [5] k (fun kq v5 w' => ∃ (x5_1 : Int), v5 = .int .i64 x5_1 ∧ Aside0 (thistleref02_SameRanges.l0 kq l0 l1 x5_1 = some r) ∧ Aside0 (kq ≤ k) ∧ Drawn0 w w')
  case atStart => exact ⟨(0), (by first | rfl | (simp; done) | (simp [*]; done)), H', ⟨Nat.le_refl _⟩, by repeat (first | exact Drawn0.refl _ | apply Drawn0.step)⟩
  case round =>
   clear H'
   try clear c1
   try clear p2
   try clear c3
   try clear c3b0
   try clear c3b1
   try clear c3b2
   obtain ⟨x5_1, rfl, HA, HK1, ⟨m1, rfl⟩⟩ := hrel
   cases gk with
   | zero => exact absurd HA.out (by simp [thistleref02_SameRanges.l0])
   | succ k1 =>
    have H := HA.out; clear HA; simp only [thistleref02_SameRanges.l0] at H
    by_cases c4 : x5_1 < (l0.length : Int)
    ·
     rw [if_pos c4] at H; have c4b0 : decide (x5_1 < (l0.length : Int)) = true := decide_eq_true c4; clear c4
     by_cases c5 : 0 ≤ x5_1
     ·
      rw [if_pos c5] at H; have c5b0 : decide (0 ≤ x5_1) = true := decide_eq_true c5; clear c5
      by_cases c6 : x5_1 < (l1.length : Int)
      ·
       rw [if_pos c6] at H; have c6b0 : decide (x5_1 < (l1.length : Int)) = true := decide_eq_true c6; clear c6
       by_cases c7 : (!(((rd_T41 l0 x5_1).f0) == ((rd_T41 l1 x5_1).f0)) || (!(((rd_T41 l0 x5_1).f1) == ((rd_T41 l1 x5_1).f1)))) = true
       ·
        rw [if_pos c7] at H; have c7b0 : (!(((rd_T41 l0 x5_1).f0) == ((rd_T41 l1 x5_1).f0)) || (!(((rd_T41 l0 x5_1).f1) == ((rd_T41 l1 x5_1).f1)))) = true := c7; clear c7; obtain rfl := Option.some.inj H; have p157 : 0 ≤ (x5_1 : Int) := od (by assumption); have q157 : x5_1 < (l0.length : Int) := od (by assumption); obtain ⟨ad157, e157, hx157_0, hx157_1⟩ := at_T41 HR0.out x5_1 p157 q157
        cases e157
        replace p157 := eq_true p157; replace q157 := eq_true q157; have p158 : 0 ≤ (x5_1 : Int) := od (by assumption); have q158 : x5_1 < (l1.length : Int) := od (by assumption); obtain ⟨ad158, e158, hx158_0, hx158_1⟩ := at_T41 HR1.out x5_1 p158 q158
        cases e158
        replace p158 := eq_true p158; replace q158 := eq_true q158
        go_wp2
        repeat (go_quiet (fail); try go_wp2)
        go_ret; exact ⟨by first | rfl | (simp; done) | (simp [*]; done), by repeat (first | exact Drawn0.refl _ | apply Drawn0.step)⟩
       ·
        rw [if_neg c7] at H
        have c7b0 : (!(((rd_T41 l0 x5_1).f0) == ((rd_T41 l1 x5_1).f0)) || (!(((rd_T41 l0 x5_1).f1) == ((rd_T41 l1 x5_1).f1)))) = false := by simpa using c7
        clear c7; have H' := Aside0.mk H; clear H; have p157 : 0 ≤ (x5_1 : Int) := od (by assumption); have q157 : x5_1 < (l0.length : Int) := od (by assumption); obtain ⟨ad157, e157, hx157_0, hx157_1⟩ := at_T41 HR0.out x5_1 p157 q157
        cases e157
        replace p157 := eq_true p157; replace q157 := eq_true q157; have p158 : 0 ≤ (x5_1 : Int) := od (by assumption); have q158 : x5_1 < (l1.length : Int) := od (by assumption); obtain ⟨ad158, e158, hx158_0, hx158_1⟩ := at_T41 HR1.out x5_1 p158 q158
        cases e158
        replace p158 := eq_true p158; replace q158 := eq_true q158
        go_wp2
        repeat (go_quiet (fail); try go_wp2)
        go_roundg k1
        case measure => have := HK1.out; omega
        case rel => exact ⟨(wrap64 (x5_1 + 1)), (by first | rfl | (simp; done) | (simp [*]; done)), H', ⟨by have := HK1.out; omega⟩, by repeat (first | exact Drawn0.refl _ | apply Drawn0.step)⟩
      ·
       rw [if_neg c6] at H; exact absurd H (by simp)
     ·
      rw [if_neg c5] at H; exact absurd H (by simp)
    ·
     rw [if_neg c4] at H; have c4b0 : decide (x5_1 < (l0.length : Int)) = false := decide_eq_false c4; clear c4; obtain rfl := Option.some.inj H
     go_wp2
     repeat (go_quiet (fail); try go_wp2)
     go_ret; exact ⟨by first | rfl | (simp; done) | (simp [*]; done), by repeat (first | exact Drawn0.refl _ | apply Drawn0.step)⟩
 ·
  rw [if_neg c3] at H; have c3b0 : ((l0.length : Int) == (l1.length : Int)) = false := beq_eq_false_iff_ne.mpr c3; have c3b1 : ((l0.length : Int) != (l1.length : Int)) = true := bne_iff_ne.mpr c3
  have c3b2 : (l0.length == l1.length) = false := by first | simpa using c3 | (simp at c3 ⊢; omega)
  obtain rfl := Option.some.inj H; go_enter Tryz.func35, Tryz.ntmps35
  go_wp2
  repeat (go_quiet (fail); try go_wp2)
  go_ret; exact ⟨by first | rfl | (simp; done) | (simp [*]; done), by repeat (first | exact Drawn0.refl _ | apply Drawn0.step)⟩
end Go.Proofs.YtoggmegpodmfnaaGreatDoor.PS
