/- Proved: thistle/thistlelaw02.SetsUnsound returns true for every input, and the input reads afterwards as it read before. Condition: what the call reads is of bulk at most 1048576 (the second form; the listed package variables are tied to the program's text). -/
import Derived.Test.YtoggmegpodmfnaaDoorCards
import Derived.Test.YtoggmegpodmfnaaDoorTie
import Derived.Test.YtoggmegpodmfnaaDoorQSetsUns
import Derived.Test.YtoggmegpodmfnaaDoorPYx0
import Derived.Test.YtoggmegpodmfnaaDoorPYx0
import Derived.Test.YtoggmegpodmfnaaDoorWSized
import Derived.WalkKit
import Derived.ProofKit
import Derived.OpenShut
import Derived.ShutString
import Derived.ChangeOld
import Derived.Below
import Derived.SizedLaws
import Derived.Deep.DeepHandedRow
import Derived.Lib.LaidTab
import Derived.Lib.LaidU8
import Derived.Lib.LaidU8
import Derived.Lib.LaidTab
import Derived.Lib.ItoaNum
import Derived.Deep.SlicePairs
import Derived.Deep.Slices
import Derived.Test.YtoggmegpodmfnaaDoorBSetsLaidT
namespace Go.Proofs.YtoggmegpodmfnaaDoor.setsUnsound
open Go.ChangeShapes Go.WideShapes Go.ChangeAt Go.RowKit
open Go.ChangeMaps (open_string shut_string)
open Go.Proofs.YtoggmegpodmfnaaDoorW.PrintWords Go.Proofs.YtoggmegpodmfnaaDoor.PY Go.Proofs.YtoggmegpodmfnaaDoor.B
set_option linter.unusedVariables false
set_option linter.unusedSimpArgs false
theorem own : ownKnob Tryd.prog.godebug = none := by kernel_rfl
theorem laidOut : laidOutB Tryd.prog = true := by kernel_rfl
def IsRow (k : IntKind) (w : World) (a : Option Addr) (len cap : Nat) (zs : List Int) : Prop :=
  (a = none ∧ len = 0 ∧ cap = 0 ∧ zs = []) ∨
  ∃ x, a = some x ∧ len ≤ cap ∧ cap ≤ maxLen ∧ zs.length = cap ∧ (∀ i, i < zs.length → w.cell? (x.add i) = some (.int k (zs.getD i 0))) ∧ ∀ n ∈ zs, (Lit.int k n).wf = true
theorem bulk_one {H : Type} (d : DataW H) : 1 ≤ Rows.uptoBulk d := by
  cases d with
  | lit l => cases l <;> simp [Rows.uptoBulk]
  | nil => simp [Rows.uptoBulk]
  | ptr d => simp [Rows.uptoBulk]
  | slice elems spare => simp [Rows.uptoBulk]
  | agg parts => simp [Rows.uptoBulk]
  | iface t d => simp [Rows.uptoBulk]
  | map entries => simp [Rows.uptoBulk]
  | held h => simp [Rows.uptoBulk]
theorem bulk_len {H : Type} (l : List (DataW H)) : l.length ≤ Rows.uptoBulkAll l := by
  induction l with
  | nil => simp [Rows.uptoBulkAll]
  | cons x r ih => have := bulk_one x; simp only [Rows.uptoBulkAll, List.length_cons]; omega
set_option maxRecDepth 100000 in
theorem contract (H : Type) (enc : TypeId × Value → H) (W : World) (base : Nat) (args : Array Value) (ds gs : List (DataW H)) (before : List MemPlace)
    (hval0 : ∀ (j : Nat) t v, Tryd.f7.params[j]? = some t → args[j]? = some v → Value.okWide Tryd.prog W .any base t v)
    (hW : DataW.Whole enc Tryd.prog Tryd.f7.params.toList Rows.setsUnsoundSpec.vars false W args.toList ds gs before) (hbk : Rows.uptoSmall H (ds ++ gs) = true) (hL : laidMetH Tryd.prog Rows.setsUnsoundUptoRow.laid W) :
    Calls Tryd.prog 7 args W fun e W' => ∃ v, e = .returned v ∧ Rows.setsUnsoundSpec.post enc Tryd.prog Tryd.f7 false true false false W args v W' := by
  have hval : ∀ (j : Nat) t v, Tryd.f7.params[j]? = some t → args[j]? = some v → Value.okWide Tryd.prog W .any base t v := hval0
  have hW' := hW
  obtain ⟨p, q, hA0, hV, rfl, hfz, hnd⟩ := hW
  have hA : DataW.TrodAll enc Tryd.prog W 0 (fun _ => true) true Tryd.f7.params.toList args.toList ds p := hA0
  rw [Tryd.params7] at hA hval
  obtain ⟨v0, vs0, d0, ds0, p0, q0, hargs, rfl, rfl, h0, r0⟩ := trodAll_cons hA
  obtain ⟨v1, vs1, d1, ds1, p1, q1, rfl, rfl, rfl, h1, r1⟩ := trodAll_cons r0
  obtain ⟨v2, vs2, d2, ds2, p2, q2, rfl, rfl, rfl, h2, r2⟩ := trodAll_cons r1
  obtain ⟨rfl, rfl, rfl⟩ := trodAll_nil r2
  obtain rfl : args = #[v0, v1, v2] := by cases args; simp_all
  obtain ⟨rfl, rfl⟩ := trodVars_none hV
  obtain ⟨a0, len0, cap0, rfl⟩ := okWide_slice Tryd.underlying22 (hval 0 22 v0 rfl rfl)
  have k0 := h0
  have lt0 : ∀ x ∈ p0, x.block < W.heap.size := by obtain ⟨m, hm⟩ := k0; exact DataW.trod_lt m _ _ _ hm
  obtain ⟨l0, hlen0, hr0, hc0, hw0, bk0⟩ : ∃ l : List S29, l.length = len0 ∧ Kd.C k29 W a0 l.length l ∧ l.length ≤ cap0 ∧ (∀ r ∈ l, Q.R32 r) ∧ len0 ≤ Rows.uptoBulk d0 := by
    obtain ⟨fuel, hf⟩ := h0
    rcases Deep.open_slice_pairs Tryd.underlying22 Tryd.underlying29 (by kernel_rfl) rfl rfl (by kernel_rfl) (by kernel_rfl) hf with ⟨hcs, _⟩ | ⟨x, l, c, m, n, V0, V1, D0, D1, P0, P1, hcs, _, hl, hm, hmm, hx, hcell⟩
    · simp [Value.cells] at hcs
      obtain ⟨rfl, rfl, rfl⟩ := hcs
      exact ⟨[], rfl, Kd.C_nil _ _, Nat.le_refl _, by simp, Nat.zero_le _⟩
    · simp [Value.cells] at hcs
      obtain ⟨rfl, rfl, rfl⟩ := hcs
      have hml : len0 ≤ m := by rw [hmm]; split <;> omega
      have each : ∀ i, i < len0 → ∃ r : S29, W.cell? (x.add (i * 2)) = some (.int .i32 r.f0) ∧ W.cell? (x.add (i * 2 + 1)) = some (.int .i32 r.f1) ∧ Q.R32 r := by
        intro i hi
        obtain ⟨h1, h2, h3, h4⟩ := hcell i (by omega)
        obtain ⟨n0, e0, _, w0⟩ := DataW.trod_int Tryd.underlying21 h3
        obtain ⟨n1, e1, _, w1⟩ := DataW.trod_int Tryd.underlying21 h4
        injection e0 with e0
        injection e1 with e1
        have b0 := w0
        have b1 := w1
        simp [Lit.wf] at b0 b1
        have m0 : IntKind.i32.min = -2147483648 := rfl
        have m1 : IntKind.i32.max = 2147483647 := rfl
        exact ⟨⟨n0, n1⟩, by rw [h1, e0], by rw [h2, e1], by unfold Q.R32 Q.I32; simp only; omega⟩
      obtain ⟨f, hf⟩ := Deep.choose_lt each
      refine ⟨(List.range len0).map f, by simp, ⟨rfl, by simp [maxLen] at hm ⊢; omega, fun _ => ⟨x, rfl, fun j p hp => ?_⟩⟩, by simpa using hl, fun r hr => ?_, ?_⟩
      · obtain ⟨hj, rfl⟩ := List.getElem?_eq_some_iff.1 hp
        simp only [List.length_map, List.length_range] at hj
        obtain ⟨h1, h2, _⟩ := hf j hj
        refine ⟨[.int .i32 (f j).f0, .int .i32 (f j).f1], rfl, by simpa using k29_mk W (f j), fun i u hu => ?_⟩
        match i, hu with
        | 0, hu => obtain rfl := Option.some.inj hu; exact h1
        | 1, hu => obtain rfl := Option.some.inj hu; exact h2
      · obtain ⟨j, hj, rfl⟩ := List.mem_map.1 hr
        exact (hf j (List.mem_range.1 hj)).2.2
      · simp only [Prod.mk.injEq] at hx
        obtain ⟨rfl, _⟩ := hx
        simp only [Rows.uptoBulk]
        have hb := bulk_len (H := H) ((List.range len0).map fun i => .agg [D0 i, D1 i])
        have hle : ((List.range len0).map fun i => (DataW.agg [D0 i, D1 i] : DataW H)).length = len0 := by simp
        omega
  subst hlen0
  obtain ⟨a1, rfl, rfl, rfl, w1⟩ := open_int Tryd.underlying21 (hval 1 21 v1 rfl rfl) h1
  obtain ⟨a2, rfl, rfl, rfl, w2⟩ := open_int Tryd.underlying3 (hval 2 3 v2 rfl rfl) h2
  have hb0 := of_decide_eq_true hbk
  simp only [List.cons_append, List.nil_append, List.append_nil, Rows.uptoBulkAll, Rows.uptoBulk, Array.length_toList] at hb0
  have bs_l0 : l0.length ≤ 1048576 := by omega
  clear hA0 hval0
  have hG : Glob W := by
    have e1 : (Rows.laid_thistle_sets_bands : DataW Unit) = bandData := by kernel_rfl
    have e2 : (Rows.laid_internal_strconv_uint64pow10 : DataW Unit) = Lib.tabData .u64 Lib.pow10Tab := by kernel_rfl
    have r := Lib.laidMet.reads hL (.tail _ (.tail _ (.tail _ (.head _))))
    have r2 := Lib.laidMet.reads hL (.tail _ (.tail _ (.head _)))
    rw [e1] at r
    rw [e2] at r2
    exact glob_of_reads r r2
  refine (Q.uns_calls _ _ l0 a1 a2 (by omega)   hw0 w1 w2 W hr0 hc0 hG).mono fun e W' ⟨he, bel⟩ => ?_
  subst he
  exact ⟨_, rfl, _, _, _, [], _, [], hW', trodAll_mk1 (shut_bool Tryd.underlying4 _), (trodAll_cons_mk (Below.trod laidOut (by kernel_rfl) (of_decide_eq_true (by kernel_rfl)) k0 bel lt0) (trodAll_cons_mk (shut_int Tryd.underlying21 w1) (trodAll_cons_mk (shut_int Tryd.underlying3 w2) trodAll_mk0))), rfl, bel.frame _, fun h => by cases h⟩
noncomputable def laidWorld (os : Os) : World :=
  { World.holding Tryd.prog os ⟨#[], #[], []⟩ with heap := ((((World.holding Tryd.prog os ⟨#[], #[], []⟩).heap.modify 0 fun | .cells _ t frozen => .cells #[.int .i32 0, .int .i32 55295, .int .i32 57344, .int .i32 1114111, .int .i32 1114240, .int .i32 1114367] t frozen | o => o).modify 1 fun | .cells _ t frozen => .cells (Lib.pow10Tab.map fun z => Value.int .u64 z).toArray t frozen | o => o).modify 2 fun | .cells _ t frozen => .cells (([0, 1, 28, 2, 29, 14, 24, 3, 30, 22, 20, 15, 25, 17, 4, 8, 31, 27, 13, 23, 21, 19, 16, 7, 26, 12, 18, 6, 11, 5, 10, 9] : List Int).map fun z => Value.int .u8 z).toArray t frozen | o => o).modify 3 fun | .cells _ t frozen => .cells (([0, 1, 56, 2, 57, 49, 28, 3, 61, 58, 42, 50, 38, 29, 17, 4, 62, 47, 59, 36, 45, 43, 51, 22, 53, 39, 33, 30, 24, 18, 12, 5, 63, 55, 48, 27, 60, 41, 37, 16, 46, 35, 44, 21, 52, 32, 23, 11, 54, 26, 40, 15, 34, 20, 31, 10, 25, 14, 19, 9, 13, 8, 7, 6] : List Int).map fun z => Value.int .u8 z).toArray t frozen | o => o }
theorem laid_met (os : Os) : laidMet Tryd.prog Rows.setsUnsoundUptoRow.laid ((laidWorld os).forCall (fun _ _ => 0) ⟨#[], #[(.slice none 0 0 : Value), (.int .i32 0 : Value), (.int .i64 0 : Value)], []⟩).memory :=
  laidMet_of_run' 8 (by kernel_rfl) (by kernel_rfl)
theorem reads (os : Os) {H : Type} (enc : TypeId × Value → H) : ∃ places, DataW.whole enc Tryd.prog ((laidWorld os).forCall (fun _ _ => 0) ⟨#[], #[(.slice none 0 0 : Value), (.int .i32 0 : Value), (.int .i64 0 : Value)], []⟩).memory Tryd.f7.params.toList Rows.setsUnsoundSpec.vars false (#[(.slice none 0 0 : Value), (.int .i32 0 : Value), (.int .i64 0 : Value)]).toList 8 = some ([.nil, .lit (.int .i32 0), .lit (.int .i64 0)], [], places) :=
  ⟨[], by kernel_rfl⟩
set_option maxRecDepth 100000 in
theorem lifted (os : Os) (started : os.Started) (H : Type) (enc : TypeId × Value → H) (F : Stop.Interp) :
    ReturnsInHanded {} Tryd.checked os 7 .any ((Rows.OpenSpec.upto Rows.setsUnsoundSpec).preRow enc Tryd.prog Tryd.f7 Rows.setsUnsoundUptoRow.domain false Rows.setsUnsoundUptoRow.laid) (((Rows.OpenSpec.upto Rows.setsUnsoundSpec).at F).post enc Tryd.prog Tryd.f7 false true false false) := by
  obtain ⟨places, hx⟩ := reads os enc
  refine returnsInHanded_of_row (C := Tryd.checked) (s := Rows.OpenSpec.upto Rows.setsUnsoundSpec) own started (by kernel_rfl) Tryd.func7
    (witness_row_at (enc := enc) (C := Tryd.checked) false (laidWorld os) #[(.slice none 0 0 : Value), (.int .i32 0 : Value), (.int .i64 0 : Value)] rfl (by kernel_rfl) (by kernel_rfl) (by kernel_rfl)
      (OpenSpec.preRow_of_cond 8 hx (by kernel_rfl) (fun k hk => by cases hk; kernel_rfl) (by kernel_rfl) (laid_met os))) ?_
  intro W base args ds gs before hval hW _ hcond _ hL _ _
  exact contract H enc W base args ds gs before hval hW (hcond _ rfl) hL
theorem saidUpto : Rows.SetsUnsoundUptoSaid :=
  OpenClaim.holds_of_cond 7 Tryd.f7 rfl rfl rfl rfl rfl rfl rfl ⟨rfl, rfl, rfl, rfl, rfl⟩ rfl rfl rfl rfl rfl (by kernel_rfl) Tryd.func7 (by kernel_rfl)
    (of_decide_eq_true (by kernel_rfl)) (by unfold Func.isWrapper; first | (rw [if_pos (by decide +kernel)]; kernel_rfl) | (rw [if_neg (by decide +kernel)]; exact ⟨rfl, rfl⟩))
    (fun os started H enc _ F => by rw [OpenClaim.pre_eq_preRow]; exact lifted os started H enc F)
theorem plain (f : FuncId) (fn : Func) (hf : Tryd.pinned.checked.prog.funcNamed "thistle/thistlelaw02.SetsUnsound" = some f) (hfn : Tryd.pinned.checked.prog.funcs[f]? = some fn) :
    false = Tryd.pinned.checked.prog.looks [] ∧ ∀ (j : Nat) t, fn.params[j]? = some t → Tryd.pinned.checked.prog.wantsStandIn t = false := by
  obtain rfl : f = 7 := Option.some.inj ((show Tryd.prog.funcNamed "thistle/thistlelaw02.SetsUnsound" = some 7 by kernel_rfl).symm.trans hf) |>.symm
  obtain rfl : fn = Tryd.f7 := (Option.some.inj (Tryd.func7.symm.trans hfn)).symm
  refine ⟨by kernel_rfl, fun j t ht => ?_⟩
  rw [Tryd.params7] at ht
  match j, ht with
  | 0, ht =>
    obtain rfl : t = 22 := by simpa using ht.symm
    exact (show Tryd.prog.wantsStandIn 22 = false by kernel_rfl)
  | 1, ht =>
    obtain rfl : t = 21 := by simpa using ht.symm
    exact (show Tryd.prog.wantsStandIn 21 = false by kernel_rfl)
  | 2, ht =>
    obtain rfl : t = 3 := by simpa using ht.symm
    exact (show Tryd.prog.wantsStandIn 3 = false by kernel_rfl)
  | j + 3, ht => simp at ht
theorem cardUpto : Rows.SetsUnsoundUptoCardSaid :=
  Claim7.holds_tied_plain_at .later [] _ _ _ _ saidUpto (fun _ h => by cases h) (by kernel_rfl) (fun _ h => by cases h) setsUnsoundUpto_row_tie rfl ⟨rfl, rfl⟩ (by kernel_rfl) rfl plain (by kernel_rfl)
end Go.Proofs.YtoggmegpodmfnaaDoor.setsUnsound
namespace Go.Proofs.YtoggmegpodmfnaaDoor
theorem setsUnsound_holds : Rows.SetsUnsoundUptoCardSaid := setsUnsound.cardUpto
#print axioms setsUnsound_holds
end Go.Proofs.YtoggmegpodmfnaaDoor
