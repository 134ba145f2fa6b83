/- Proved: thistle/thistlelaw02.SetsParts returns true for every input, and the input reads afterwards as it read before. Condition: what the call reads is of bulk at most 1048576 (the second form; the listed package variables are tied to the program's text). -/
import Derived.Test.YtoggmegpodmfnaaDoorCards
import Derived.Test.YtoggmegpodmfnaaDoorTie
import Derived.Test.YtoggmegpodmfnaaDoorQSetsParts
import Derived.Test.YtoggmegpodmfnaaDoorPTx0
import Derived.Test.YtoggmegpodmfnaaDoorPTx6
import Derived.Test.YtoggmegpodmfnaaDoorWSized
import Derived.WalkKit
import Derived.ProofKit
import Derived.OpenShut
import Derived.ShutString
import Derived.ChangeOld
import Derived.Below
import Derived.SizedLaws
import Derived.Deep.DeepHandedRow
import Derived.Lib.LaidTab
import Derived.Lib.LaidU8
import Derived.Lib.LaidU8
import Derived.Lib.LaidTab
import Derived.Lib.ItoaNum
import Derived.Deep.SlicePairs
import Derived.Deep.Slices
import Derived.Test.YtoggmegpodmfnaaDoorBSetsLaidT
namespace Go.Proofs.YtoggmegpodmfnaaDoor.setsParts
open Go.ChangeShapes Go.WideShapes Go.ChangeAt Go.RowKit
open Go.ChangeMaps (open_string shut_string)
open Go.Proofs.YtoggmegpodmfnaaDoorW.PrintWords Go.Proofs.YtoggmegpodmfnaaDoor.PT Go.Proofs.YtoggmegpodmfnaaDoor.B
set_option linter.unusedVariables false
set_option linter.unusedSimpArgs false
theorem own : ownKnob Tryd.prog.godebug = none := by kernel_rfl
theorem laidOut : laidOutB Tryd.prog = true := by kernel_rfl
def IsRow (k : IntKind) (w : World) (a : Option Addr) (len cap : Nat) (zs : List Int) : Prop :=
  (a = none ∧ len = 0 ∧ cap = 0 ∧ zs = []) ∨
  ∃ x, a = some x ∧ len ≤ cap ∧ cap ≤ maxLen ∧ zs.length = cap ∧ (∀ i, i < zs.length → w.cell? (x.add i) = some (.int k (zs.getD i 0))) ∧ ∀ n ∈ zs, (Lit.int k n).wf = true
theorem bulk_one {H : Type} (d : DataW H) : 1 ≤ Rows.uptoBulk d := by
  cases d with
  | lit l => cases l <;> simp [Rows.uptoBulk]
  | nil => simp [Rows.uptoBulk]
  | ptr d => simp [Rows.uptoBulk]
  | slice elems spare => simp [Rows.uptoBulk]
  | agg parts => simp [Rows.uptoBulk]
  | iface t d => simp [Rows.uptoBulk]
  | map entries => simp [Rows.uptoBulk]
  | held h => simp [Rows.uptoBulk]
theorem bulk_len {H : Type} (l : List (DataW H)) : l.length ≤ Rows.uptoBulkAll l := by
  induction l with
  | nil => simp [Rows.uptoBulkAll]
  | cons x r ih => have := bulk_one x; simp only [Rows.uptoBulkAll, List.length_cons]; omega
theorem open_pr {H : Type} {enc : TypeId × Value → H} {W : World} {spare : Nat → Bool} {held : Bool} {fuel : Nat} {v : Value} {x : DataW H × List MemPlace} (hf : DataW.trod enc Tryd.prog W 0 spare held fuel 22 [v] = some x) :
    ∃ (a : Option Addr) (l : List S29) (c : Nat), v = .slice a l.length c ∧ l.length ≤ c ∧ Kd.C k29 W a l.length l ∧ (∀ r ∈ l, Q.R32 r) ∧ l.length ≤ Rows.uptoBulk x.1 := by
  rcases Deep.open_slice_pairs Tryd.underlying22 Tryd.underlying29 (by kernel_rfl) rfl rfl (by kernel_rfl) (by kernel_rfl) hf with ⟨hcs, hx⟩ | ⟨x0, len, cap, m, n, V0, V1, D0, D1, P0, P1, hcs, _, hl, hm, hmm, hx, hcell⟩
  · injection hcs with hcs _
    exact ⟨none, [], 0, hcs, Nat.le_refl _, Kd.C_nil _ _, by simp, Nat.zero_le _⟩
  · injection hcs with hcs _
    have hml : len ≤ m := by rw [hmm]; split <;> omega
    have each : ∀ i, i < len → ∃ r : S29, W.cell? (x0.add (i * 2)) = some (.int .i32 r.f0) ∧ W.cell? (x0.add (i * 2 + 1)) = some (.int .i32 r.f1) ∧ Q.R32 r := by
      intro i hi
      obtain ⟨h1, h2, h3, h4⟩ := hcell i (by omega)
      obtain ⟨n0, e0, _, w0⟩ := DataW.trod_int Tryd.underlying21 h3
      obtain ⟨n1, e1, _, w1⟩ := DataW.trod_int Tryd.underlying21 h4
      injection e0 with e0
      injection e1 with e1
      have b0 := w0
      have b1 := w1
      simp [Lit.wf] at b0 b1
      have m0 : IntKind.i32.min = -2147483648 := rfl
      have m1 : IntKind.i32.max = 2147483647 := rfl
      exact ⟨⟨n0, n1⟩, by rw [h1, e0], by rw [h2, e1], by unfold Q.R32 Q.I32; simp only; omega⟩
    obtain ⟨f, hf⟩ := Deep.choose_lt each
    refine ⟨some x0, (List.range len).map f, cap, by rw [hcs]; simp, by simpa using hl, ⟨rfl, by simp [maxLen] at hm ⊢; omega, fun _ => ⟨x0, rfl, fun j p hp => ?_⟩⟩, fun r hr => ?_, ?_⟩
    · obtain ⟨hj, rfl⟩ := List.getElem?_eq_some_iff.1 hp
      simp only [List.length_map, List.length_range] at hj
      obtain ⟨h1, h2, _⟩ := hf j hj
      refine ⟨[.int .i32 (f j).f0, .int .i32 (f j).f1], rfl, by simpa using k29_mk W (f j), fun i u hu => ?_⟩
      match i, hu with
      | 0, hu => obtain rfl := Option.some.inj hu; exact h1
      | 1, hu => obtain rfl := Option.some.inj hu; exact h2
    · obtain ⟨j, hj, rfl⟩ := List.mem_map.1 hr
      exact (hf j (List.mem_range.1 hj)).2.2
    · rw [hx]
      simp only [Rows.uptoBulk]
      have hb := bulk_len (H := H) ((List.range len).map fun i => .agg [D0 i, D1 i])
      have hle : ((List.range len).map fun i => (DataW.agg [D0 i, D1 i] : DataW H)).length = len := by simp
      simp only [List.length_map, List.length_range] at *
      omega
theorem bulk_tot {H : Type} (f : Nat → List S29) (D : Nat → DataW H) : ∀ l : List Nat, (∀ i ∈ l, (f i).length ≤ Rows.uptoBulk (D i)) → sets_Parts.tot (l.map f) ≤ Rows.uptoBulkAll (l.map D)
  | [], _ => Nat.zero_le _
  | i :: l, h => by
    have ih := bulk_tot f D l (fun j hj => h j (by simp [hj]))
    have h0 := h i (by simp)
    simp only [sets_Parts.tot, List.map_cons, List.sum_cons, Rows.uptoBulkAll] at ih ⊢
    omega
theorem open_pp {H : Type} {enc : TypeId × Value → H} {W : World} {spare : Nat → Bool} {held : Bool} {fuel : Nat} {v : Value} {x : DataW H × List MemPlace} (hf : DataW.trod enc Tryd.prog W 0 spare held fuel 52 [v] = some x) :
    ∃ (a : Option Addr) (l : List (List S29)) (c : Nat), v = .slice a l.length c ∧ l.length ≤ c ∧ Kd.C (Kd.slice 29 k29) W a l.length l ∧ (∀ s ∈ l, ∀ r ∈ s, Q.R32 r) ∧ l.length ≤ Rows.uptoBulk x.1 ∧ sets_Parts.tot l ≤ Rows.uptoBulk x.1 := by
  rcases Deep.open_slice1 Tryd.underlying52 (by kernel_rfl) hf with ⟨hcs, hx⟩ | ⟨x0, len, cap, m, n, V, D, Pl, hcs, _, hl, hm, hmm, hx, hcell⟩
  · injection hcs with hcs _
    exact ⟨none, [], 0, hcs, Nat.le_refl _, Kd.C_nil _ _, by simp, Nat.zero_le _, Nat.zero_le _⟩
  · injection hcs with hcs _
    have hml : len ≤ m := by rw [hmm]; split <;> omega
    have each : ∀ i, i < len → ∃ s : List S29, ∃ (a : Option Addr) (c : Nat), V i = .slice a s.length c ∧ s.length ≤ c ∧ Kd.C k29 W a s.length s ∧ (∀ r ∈ s, Q.R32 r) ∧ s.length ≤ Rows.uptoBulk (D i) := by
      intro i hi
      obtain ⟨a, l, c, h⟩ := open_pr (hcell i (by omega)).2
      exact ⟨l, a, c, h⟩
    obtain ⟨f, hf'⟩ := Deep.choose_lt each
    refine ⟨some x0, (List.range len).map f, cap, by rw [hcs]; simp, by simpa using hl, ⟨rfl, by simp [maxLen] at hm ⊢; omega, fun _ => ⟨x0, rfl, fun j p hp => ?_⟩⟩, fun s hs => ?_, ?_, ?_⟩
    · obtain ⟨hj, rfl⟩ := List.getElem?_eq_some_iff.1 hp
      simp only [List.length_map, List.length_range] at hj
      obtain ⟨a, c, h1, h2, h3, _⟩ := hf' j hj
      have e : ((List.range len).map f)[j]'(by simpa using hj) = f j := by simp
      rw [e]
      refine ⟨[.slice a (f j).length c], rfl, ⟨a, c, rfl, h2, h3⟩, fun i u hu => ?_⟩
      match i, hu with
      | 0, hu =>
        obtain rfl := Option.some.inj hu
        have h4 := (hcell j (by omega)).1
        rw [h1] at h4
        show W.cell? (x0.add (j * 1 + 0)) = _
        rw [Nat.mul_one, Nat.add_zero]
        exact h4
    · obtain ⟨j, hj, rfl⟩ := List.mem_map.1 hs
      obtain ⟨_, _, _, _, _, h, _⟩ := hf' j (List.mem_range.1 hj)
      exact h
    · rw [hx]
      simp only [Rows.uptoBulk]
      have hb := bulk_len (H := H) ((List.range len).map D)
      simp only [List.length_map, List.length_range] at hb ⊢
      omega
    · rw [hx]
      simp only [Rows.uptoBulk]
      have hb := bulk_tot f D (List.range len) (fun i hi => by
        obtain ⟨_, _, _, _, _, _, h⟩ := hf' i (List.mem_range.1 hi)
        exact h)
      omega
set_option maxRecDepth 100000 in
theorem contract (H : Type) (enc : TypeId × Value → H) (W : World) (base : Nat) (args : Array Value) (ds gs : List (DataW H)) (before : List MemPlace)
    (hval0 : ∀ (j : Nat) t v, Tryd.f6.params[j]? = some t → args[j]? = some v → Value.okWide Tryd.prog W .any base t v)
    (hW : DataW.Whole enc Tryd.prog Tryd.f6.params.toList Rows.setsPartsSpec.vars false W args.toList ds gs before) (hbk : Rows.uptoSmall H (ds ++ gs) = true) (hL : laidMetH Tryd.prog Rows.setsPartsUptoRow.laid W) :
    Calls Tryd.prog 6 args W fun e W' => ∃ v, e = .returned v ∧ Rows.setsPartsSpec.post enc Tryd.prog Tryd.f6 false true false false W args v W' := by
  have hval : ∀ (j : Nat) t v, Tryd.f6.params[j]? = some t → args[j]? = some v → Value.okWide Tryd.prog W .any base t v := hval0
  have hW' := hW
  obtain ⟨p, q, hA0, hV, rfl, hfz, hnd⟩ := hW
  have hA : DataW.TrodAll enc Tryd.prog W 0 (fun _ => true) true Tryd.f6.params.toList args.toList ds p := hA0
  rw [Tryd.params6] at hA hval
  obtain ⟨v0, vs0, d0, ds0, p0, q0, hargs, rfl, rfl, h0, r0⟩ := trodAll_cons hA
  obtain ⟨rfl, rfl, rfl⟩ := trodAll_nil r0
  obtain rfl : args = #[v0] := by cases args; simp_all
  obtain ⟨rfl, rfl⟩ := trodVars_none hV
  obtain ⟨a0, len0, cap0, rfl⟩ := okWide_slice Tryd.underlying52 (hval 0 52 v0 rfl rfl)
  have k0 := h0
  have lt0 : ∀ x ∈ p0, x.block < W.heap.size := by obtain ⟨m, hm⟩ := k0; exact DataW.trod_lt m _ _ _ hm
  obtain ⟨l0, hlen0, hr0, hc0, hw0, bk0, bt0⟩ : ∃ l : List (List S29), l.length = len0 ∧ Kd.C (Kd.slice 29 k29) W a0 l.length l ∧ l.length ≤ cap0 ∧ (∀ s ∈ l, ∀ r ∈ s, Q.R32 r) ∧ l.length ≤ Rows.uptoBulk d0 ∧ sets_Parts.tot l ≤ Rows.uptoBulk d0 := by
    obtain ⟨fuel, hf⟩ := h0
    obtain ⟨a, l, c, e, h1, h2, h3, h4, h5⟩ := open_pp (v := .slice a0 len0 cap0) hf
    injection e with e1 e2 e3
    subst e1
    subst e2
    subst e3
    exact ⟨l, rfl, h2, h1, h3, h4, h5⟩
  subst hlen0
  have hb0 := of_decide_eq_true hbk
  simp only [List.cons_append, List.nil_append, List.append_nil, Rows.uptoBulkAll, Rows.uptoBulk, Array.length_toList] at hb0
  have bs_l0 : l0.length ≤ 1048576 := by omega
  have bs_sets_Parts : sets_Parts.tot l0 ≤ 1048576 := by omega
  clear hA0 hval0
  have hG : Glob W := by
    have e1 : (Rows.laid_thistle_sets_bands : DataW Unit) = bandData := by kernel_rfl
    have e2 : (Rows.laid_internal_strconv_uint64pow10 : DataW Unit) = Lib.tabData .u64 Lib.pow10Tab := by kernel_rfl
    have r := Lib.laidMet.reads hL (.tail _ (.tail _ (.tail _ (.head _))))
    have r2 := Lib.laidMet.reads hL (.tail _ (.tail _ (.head _)))
    rw [e1] at r
    rw [e2] at r2
    exact glob_of_reads r r2
  obtain ⟨k, hk⟩ := Q.SetsParts l0 (by omega) (by omega)
  refine (thistlelaw02_SetsParts.calls k _ _ l0 true W hr0 hc0 hG ⟨rfl⟩ hk).mono fun e W' ⟨he, bel⟩ => ?_
  subst he
  exact ⟨_, rfl, _, _, _, [], _, [], hW', trodAll_mk1 (shut_bool Tryd.underlying4 _), (trodAll_cons_mk (Below.trod laidOut (by kernel_rfl) (of_decide_eq_true (by kernel_rfl)) k0 bel lt0) trodAll_mk0), rfl, bel.frame _, fun h => by cases h⟩
noncomputable def laidWorld (os : Os) : World :=
  { World.holding Tryd.prog os ⟨#[], #[], []⟩ with heap := ((((World.holding Tryd.prog os ⟨#[], #[], []⟩).heap.modify 0 fun | .cells _ t frozen => .cells #[.int .i32 0, .int .i32 55295, .int .i32 57344, .int .i32 1114111, .int .i32 1114240, .int .i32 1114367] t frozen | o => o).modify 1 fun | .cells _ t frozen => .cells (Lib.pow10Tab.map fun z => Value.int .u64 z).toArray t frozen | o => o).modify 2 fun | .cells _ t frozen => .cells (([0, 1, 28, 2, 29, 14, 24, 3, 30, 22, 20, 15, 25, 17, 4, 8, 31, 27, 13, 23, 21, 19, 16, 7, 26, 12, 18, 6, 11, 5, 10, 9] : List Int).map fun z => Value.int .u8 z).toArray t frozen | o => o).modify 3 fun | .cells _ t frozen => .cells (([0, 1, 56, 2, 57, 49, 28, 3, 61, 58, 42, 50, 38, 29, 17, 4, 62, 47, 59, 36, 45, 43, 51, 22, 53, 39, 33, 30, 24, 18, 12, 5, 63, 55, 48, 27, 60, 41, 37, 16, 46, 35, 44, 21, 52, 32, 23, 11, 54, 26, 40, 15, 34, 20, 31, 10, 25, 14, 19, 9, 13, 8, 7, 6] : List Int).map fun z => Value.int .u8 z).toArray t frozen | o => o }
theorem laid_met (os : Os) : laidMet Tryd.prog Rows.setsPartsUptoRow.laid ((laidWorld os).forCall (fun _ _ => 0) ⟨#[], #[(.slice none 0 0 : Value)], []⟩).memory :=
  laidMet_of_run' 8 (by kernel_rfl) (by kernel_rfl)
theorem reads (os : Os) {H : Type} (enc : TypeId × Value → H) : ∃ places, DataW.whole enc Tryd.prog ((laidWorld os).forCall (fun _ _ => 0) ⟨#[], #[(.slice none 0 0 : Value)], []⟩).memory Tryd.f6.params.toList Rows.setsPartsSpec.vars false (#[(.slice none 0 0 : Value)]).toList 8 = some ([.nil], [], places) :=
  ⟨[], by kernel_rfl⟩
set_option maxRecDepth 100000 in
theorem lifted (os : Os) (started : os.Started) (H : Type) (enc : TypeId × Value → H) (F : Stop.Interp) :
    ReturnsInHanded {} Tryd.checked os 6 .any ((Rows.OpenSpec.upto Rows.setsPartsSpec).preRow enc Tryd.prog Tryd.f6 Rows.setsPartsUptoRow.domain false Rows.setsPartsUptoRow.laid) (((Rows.OpenSpec.upto Rows.setsPartsSpec).at F).post enc Tryd.prog Tryd.f6 false true false false) := by
  obtain ⟨places, hx⟩ := reads os enc
  refine returnsInHanded_of_row (C := Tryd.checked) (s := Rows.OpenSpec.upto Rows.setsPartsSpec) own started (by kernel_rfl) Tryd.func6
    (witness_row_at (enc := enc) (C := Tryd.checked) false (laidWorld os) #[(.slice none 0 0 : Value)] rfl (by kernel_rfl) (by kernel_rfl) (by kernel_rfl)
      (OpenSpec.preRow_of_cond 8 hx (by kernel_rfl) (fun k hk => by cases hk; kernel_rfl) (by kernel_rfl) (laid_met os))) ?_
  intro W base args ds gs before hval hW _ hcond _ hL _ _
  exact contract H enc W base args ds gs before hval hW (hcond _ rfl) hL
theorem saidUpto : Rows.SetsPartsUptoSaid :=
  OpenClaim.holds_of_cond 6 Tryd.f6 rfl rfl rfl rfl rfl rfl rfl ⟨rfl, rfl, rfl, rfl, rfl⟩ rfl rfl rfl rfl rfl (by kernel_rfl) Tryd.func6 (by kernel_rfl)
    (of_decide_eq_true (by kernel_rfl)) (by unfold Func.isWrapper; first | (rw [if_pos (by decide +kernel)]; kernel_rfl) | (rw [if_neg (by decide +kernel)]; exact ⟨rfl, rfl⟩))
    (fun os started H enc _ F => by rw [OpenClaim.pre_eq_preRow]; exact lifted os started H enc F)
theorem plain (f : FuncId) (fn : Func) (hf : Tryd.pinned.checked.prog.funcNamed "thistle/thistlelaw02.SetsParts" = some f) (hfn : Tryd.pinned.checked.prog.funcs[f]? = some fn) :
    false = Tryd.pinned.checked.prog.looks [] ∧ ∀ (j : Nat) t, fn.params[j]? = some t → Tryd.pinned.checked.prog.wantsStandIn t = false := by
  obtain rfl : f = 6 := Option.some.inj ((show Tryd.prog.funcNamed "thistle/thistlelaw02.SetsParts" = some 6 by kernel_rfl).symm.trans hf) |>.symm
  obtain rfl : fn = Tryd.f6 := (Option.some.inj (Tryd.func6.symm.trans hfn)).symm
  refine ⟨by kernel_rfl, fun j t ht => ?_⟩
  rw [Tryd.params6] at ht
  match j, ht with
  | 0, ht =>
    obtain rfl : t = 52 := by simpa using ht.symm
    exact (show Tryd.prog.wantsStandIn 52 = false by kernel_rfl)
  | j + 1, ht => simp at ht
theorem cardUpto : Rows.SetsPartsUptoCardSaid :=
  Claim7.holds_tied_plain_at .later [] _ _ _ _ saidUpto (fun _ h => by cases h) (by kernel_rfl) (fun _ h => by cases h) setsPartsUpto_row_tie rfl ⟨rfl, rfl⟩ (by kernel_rfl) rfl plain (by kernel_rfl)
end Go.Proofs.YtoggmegpodmfnaaDoor.setsParts
namespace Go.Proofs.YtoggmegpodmfnaaDoor
theorem setsParts_holds : Rows.SetsPartsUptoCardSaid := setsParts.cardUpto
#print axioms setsParts_holds
end Go.Proofs.YtoggmegpodmfnaaDoor
