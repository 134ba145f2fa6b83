/- Proved: thistle/thistlelaw02.SetsAll returns true for every input, and the input reads afterwards as it read before. Condition: what the call reads is of bulk at most 1048576 (the second form; the listed package variables are tied to the program's text). -/
import Derived.Test.YtoggmegpodmfnaaGreatDoorCards
import Derived.Test.YtoggmegpodmfnaaGreatDoorTie
import Derived.Test.YtoggmegpodmfnaaGreatDoorQH3
import Derived.Test.YtoggmegpodmfnaaGreatDoorPSx01
import Derived.Test.YtoggmegpodmfnaaGreatDoorWSized
import Derived.WalkKit
import Derived.ProofKit
import Derived.OpenShut
import Derived.ShutString
import Derived.ChangeOld
import Derived.Below
import Derived.SizedLaws
import Derived.Deep.DeepHandedRow
import Derived.Lib.LaidTab
import Derived.Lib.LaidU8
import Derived.Lib.ItoaNum
import Derived.Deep.SlicePairs
import Derived.Deep.Slices
import Derived.Test.YtoggmegpodmfnaaGreatDoorBSetsLaidT
namespace Go.Proofs.YtoggmegpodmfnaaGreatDoor.setsAll
open Go.ChangeShapes Go.WideShapes Go.ChangeAt Go.RowKit
open Go.ChangeMaps (open_string shut_string)
open Go.Proofs.YtoggmegpodmfnaaGreatDoorW.PrintWords Go.Proofs.YtoggmegpodmfnaaGreatDoor.PS Go.Proofs.YtoggmegpodmfnaaGreatDoor.B
set_option linter.unusedVariables false
set_option linter.unusedSimpArgs false
theorem own : ownKnob Tryz.prog.godebug = none := by kernel_rfl
theorem laidOut : laidOutB Tryz.prog = true := by kernel_rfl
def IsRow (k : IntKind) (w : World) (a : Option Addr) (len cap : Nat) (zs : List Int) : Prop :=
  (a = none ∧ len = 0 ∧ cap = 0 ∧ zs = []) ∨
  ∃ x, a = some x ∧ len ≤ cap ∧ cap ≤ maxLen ∧ zs.length = cap ∧ (∀ i, i < zs.length → w.cell? (x.add i) = some (.int k (zs.getD i 0))) ∧ ∀ n ∈ zs, (Lit.int k n).wf = true
theorem bulk_one {H : Type} (d : DataW H) : 1 ≤ Rows.uptoBulk d := by
  cases d with
  | lit l => cases l <;> simp [Rows.uptoBulk]
  | nil => simp [Rows.uptoBulk]
  | ptr d => simp [Rows.uptoBulk]
  | slice elems spare => simp [Rows.uptoBulk]
  | agg parts => simp [Rows.uptoBulk]
  | iface t d => simp [Rows.uptoBulk]
  | map entries => simp [Rows.uptoBulk]
  | held h => simp [Rows.uptoBulk]
theorem bulk_len {H : Type} (l : List (DataW H)) : l.length ≤ Rows.uptoBulkAll l := by
  induction l with
  | nil => simp [Rows.uptoBulkAll]
  | cons x r ih => have := bulk_one x; simp only [Rows.uptoBulkAll, List.length_cons]; omega
theorem open_pr {H : Type} {enc : TypeId × Value → H} {W : World} {spare : Nat → Bool} {held : Bool} {fuel : Nat} {v : Value} {x : DataW H × List MemPlace} (hf : DataW.trod enc Tryz.prog W 0 spare held fuel 24 [v] = some x) :
    ∃ (a : Option Addr) (l : List S41) (c : Nat), v = .slice a l.length c ∧ l.length ≤ c ∧ Kd.C k41 W a l.length l ∧ (∀ r ∈ l, Q.R32 r) ∧ l.length ≤ Rows.uptoBulk x.1 := by
  rcases Deep.open_slice_pairs Tryz.underlying24 Tryz.underlying41 (by kernel_rfl) rfl rfl (by kernel_rfl) (by kernel_rfl) hf with ⟨hcs, hx⟩ | ⟨x0, len, cap, m, n, V0, V1, D0, D1, P0, P1, hcs, _, hl, hm, hmm, hx, hcell⟩
  · injection hcs with hcs _; exact ⟨none, [], 0, hcs, Nat.le_refl _, Kd.C_nil _ _, by simp, Nat.zero_le _⟩
  · injection hcs with hcs _
    have hml : len ≤ m := by rw [hmm]; split <;> omega
    have each : ∀ i, i < len → ∃ r : S41, W.cell? (x0.add (i * 2)) = some (.int .i32 r.f0) ∧ W.cell? (x0.add (i * 2 + 1)) = some (.int .i32 r.f1) ∧ Q.R32 r := by
      intro i hi; obtain ⟨h1, h2, h3, h4⟩ := hcell i (by omega); obtain ⟨n0, e0, _, w0⟩ := DataW.trod_int Tryz.underlying21 h3; obtain ⟨n1, e1, _, w1⟩ := DataW.trod_int Tryz.underlying21 h4; injection e0 with e0; injection e1 with e1; have b0 := w0; have b1 := w1
      simp [Lit.wf] at b0 b1
      have m0 : IntKind.i32.min = -2147483648 := rfl; have m1 : IntKind.i32.max = 2147483647 := rfl; exact ⟨⟨n0, n1⟩, by rw [h1, e0], by rw [h2, e1], by unfold Q.R32 Q.I32; simp only; omega⟩
    obtain ⟨f, hf⟩ := Deep.choose_lt each; refine ⟨some x0, (List.range len).map f, cap, by rw [hcs]; simp, by simpa using hl, ⟨rfl, by simp [maxLen] at hm ⊢; omega, fun _ => ⟨x0, rfl, fun j p hp => ?_⟩⟩, fun r hr => ?_, ?_⟩
    · obtain ⟨hj, rfl⟩ := List.getElem?_eq_some_iff.1 hp
      simp only [List.length_map, List.length_range] at hj; obtain ⟨h1, h2, _⟩ := hf j hj; refine ⟨[.int .i32 (f j).f0, .int .i32 (f j).f1], rfl, by simpa using k41_mk W (f j), fun i u hu => ?_⟩
      match i, hu with
      | 0, hu => obtain rfl := Option.some.inj hu; exact h1
      | 1, hu => obtain rfl := Option.some.inj hu; exact h2
    · obtain ⟨j, hj, rfl⟩ := List.mem_map.1 hr; exact (hf j (List.mem_range.1 hj)).2.2
    · rw [hx]
      simp only [Rows.uptoBulk]; have hb := bulk_len (H := H) ((List.range len).map fun i => .agg [D0 i, D1 i])
      have hle : ((List.range len).map fun i => (DataW.agg [D0 i, D1 i] : DataW H)).length = len := by simp
      simp only [List.length_map, List.length_range] at *; omega
theorem bulk_tot {H : Type} (f : Nat → List S41) (D : Nat → DataW H) : ∀ l : List Nat, (∀ i ∈ l, (f i).length ≤ Rows.uptoBulk (D i)) → sets_Parts.tot (l.map f) ≤ Rows.uptoBulkAll (l.map D)
  | [], _ => Nat.zero_le _
  | i :: l, h => by
    have ih := bulk_tot f D l (fun j hj => h j (by simp [hj])); have h0 := h i (by simp); simp only [sets_Parts.tot, List.map_cons, List.sum_cons, Rows.uptoBulkAll] at ih ⊢; omega
theorem open_pp {H : Type} {enc : TypeId × Value → H} {W : World} {spare : Nat → Bool} {held : Bool} {fuel : Nat} {v : Value} {x : DataW H × List MemPlace} (hf : DataW.trod enc Tryz.prog W 0 spare held fuel 25 [v] = some x) :
    ∃ (a : Option Addr) (l : List (List S41)) (c : Nat), v = .slice a l.length c ∧ l.length ≤ c ∧ Kd.C (Kd.slice 41 k41) W a l.length l ∧ (∀ s ∈ l, ∀ r ∈ s, Q.R32 r) ∧ l.length ≤ Rows.uptoBulk x.1 ∧ sets_Parts.tot l ≤ Rows.uptoBulk x.1 := by
  rcases Deep.open_slice1 Tryz.underlying25 (by kernel_rfl) hf with ⟨hcs, hx⟩ | ⟨x0, len, cap, m, n, V, D, Pl, hcs, _, hl, hm, hmm, hx, hcell⟩
  · injection hcs with hcs _; exact ⟨none, [], 0, hcs, Nat.le_refl _, Kd.C_nil _ _, by simp, Nat.zero_le _, Nat.zero_le _⟩
  · injection hcs with hcs _
    have hml : len ≤ m := by rw [hmm]; split <;> omega
    have each : ∀ i, i < len → ∃ s : List S41, ∃ (a : Option Addr) (c : Nat), V i = .slice a s.length c ∧ s.length ≤ c ∧ Kd.C k41 W a s.length s ∧ (∀ r ∈ s, Q.R32 r) ∧ s.length ≤ Rows.uptoBulk (D i) := by
      intro i hi; obtain ⟨a, l, c, h⟩ := open_pr (hcell i (by omega)).2; exact ⟨l, a, c, h⟩
    obtain ⟨f, hf'⟩ := Deep.choose_lt each; refine ⟨some x0, (List.range len).map f, cap, by rw [hcs]; simp, by simpa using hl, ⟨rfl, by simp [maxLen] at hm ⊢; omega, fun _ => ⟨x0, rfl, fun j p hp => ?_⟩⟩, fun s hs => ?_, ?_, ?_⟩
    · obtain ⟨hj, rfl⟩ := List.getElem?_eq_some_iff.1 hp
      simp only [List.length_map, List.length_range] at hj; obtain ⟨a, c, h1, h2, h3, _⟩ := hf' j hj
      have e : ((List.range len).map f)[j]'(by simpa using hj) = f j := by simp
      rw [e]; refine ⟨[.slice a (f j).length c], rfl, ⟨a, c, rfl, h2, h3⟩, fun i u hu => ?_⟩
      match i, hu with
      | 0, hu =>
        obtain rfl := Option.some.inj hu; have h4 := (hcell j (by omega)).1; rw [h1] at h4; show W.cell? (x0.add (j * 1 + 0)) = _; rw [Nat.mul_one, Nat.add_zero]; exact h4
    (· obtain ⟨j, hj, rfl⟩ := List.mem_map.1 hs; obtain ⟨_, _, _, _, _, h, _⟩ := hf' j (List.mem_range.1 hj); exact h); (· rw [hx]; simp only [Rows.uptoBulk]; have hb := bulk_len (H := H) ((List.range len).map D); simp only [List.length_map, List.length_range] at hb ⊢; omega)
    · rw [hx]
      simp only [Rows.uptoBulk]
      have hb := bulk_tot f D (List.range len) (fun i hi => by
        obtain ⟨_, _, _, _, _, _, h⟩ := hf' i (List.mem_range.1 hi)
        exact h)
      omega
theorem list6 {α : Type} : ∀ {l : List α}, l.length = 6 → ∃ a b c d e f, l = [a, b, c, d, e, f]
  | [a, b, c, d, e, f], _ => ⟨a, b, c, d, e, f, rfl⟩
theorem bulk_mem {H : Type} : ∀ (l : List (DataW H)) (d : DataW H), d ∈ l → Rows.uptoBulk d ≤ Rows.uptoBulkAll l
  | x :: l, d, h => by
    simp only [Rows.uptoBulkAll]
    rcases List.mem_cons.1 h with rfl | h
    (· omega); (· have := bulk_mem l d h; omega)
theorem open_po {H : Type} {enc : TypeId × Value → H} {W : World} {spare : Nat → Bool} {held : Bool} {fuel : Nat} {v : Value} {x : DataW H × List MemPlace} (hf : DataW.trod enc Tryz.prog W 0 spare held fuel 22 [v] = some x) (hB : Rows.uptoBulk x.1 ≤ 1048576) :
    ∃ (a : Option Addr) (l : List Q.Opn) (c : Nat), v = .slice a l.length c ∧ l.length ≤ c ∧ Q.OpsAt W a l ∧ ∀ o ∈ l, Q.InO o := by
  rcases Deep.open_slice Tryz.underlying22 hf with ⟨hcs, hx⟩ | ⟨x0, len, cap, m, n, D, Pl, hcs, _, hl, hm, hmm, hx, hcell⟩
  · injection hcs with hcs _; exact ⟨none, [], 0, hcs, Nat.le_refl _, ⟨by simp, fun i o h => by simp at h⟩, by simp⟩
  · injection hcs with hcs _
    have hml : len ≤ m := by rw [hmm]; split <;> omega
    rw [hx] at hB; simp only [Rows.uptoBulk] at hB; have hb0 := bulk_len (H := H) ((List.range len).map D); simp only [List.length_map, List.length_range] at hb0
    have hbD : ∀ i, i < len → Rows.uptoBulk (D i) ≤ 1048576 := fun i hi => by
      have := bulk_mem ((List.range len).map D) (D i) (List.mem_map.2 ⟨i, List.mem_range.2 hi, rfl⟩); omega
    have ce : Tryz.prog.cellsOf 32 = 6 := by kernel_rfl
    have cI : Tryz.prog.cellsOf 3 = 1 := by kernel_rfl
    have cR : Tryz.prog.cellsOf 24 = 1 := by kernel_rfl
    have cU : Tryz.prog.cellsOf 21 = 1 := by kernel_rfl
    have cL : Tryz.prog.cellsOf 25 = 1 := by kernel_rfl
    have each : ∀ i, i < len → ∃ o : Q.Opn, (∃ (Aa Ab AL : Option Addr) (ca cb cL : Nat), Q.LayO W o Aa Ab AL ca cb cL ∧
        W.cell? (x0.add (i * 6)) = some (.int .i64 o.kd) ∧ W.cell? ⟨(x0.add (i * 6)).block, (x0.add (i * 6)).off + 1, none⟩ = some (.slice Aa o.a.length ca) ∧ W.cell? ⟨(x0.add (i * 6)).block, (x0.add (i * 6)).off + 2, none⟩ = some (.slice Ab o.b.length cb) ∧
        W.cell? ⟨(x0.add (i * 6)).block, (x0.add (i * 6)).off + 3, none⟩ = some (.int .i32 o.u) ∧ W.cell? ⟨(x0.add (i * 6)).block, (x0.add (i * 6)).off + 4, none⟩ = some (.int .i64 o.k) ∧ W.cell? ⟨(x0.add (i * 6)).block, (x0.add (i * 6)).off + 5, none⟩ = some (.slice AL o.L.length cL)) ∧ Q.InO o := by
      intro i hi; obtain ⟨cs', h1, h2⟩ := hcell i (by omega); obtain ⟨_, hlen, hc⟩ := World.cells?_some h1; obtain ⟨xs, k, _, hxy, _, hxl, hfl⟩ := DataW.trod_struct Tryz.underlying32 h2; rw [ce] at hlen hc; have hbi := hbD i hi; have hxl6 : xs.length = 6 := hxl; clear hxl; obtain ⟨y0, y1, y2, y3, y4, y5, rfl⟩ := list6 hxl6; obtain ⟨v0, v1, v2, v3, v4, v5, rfl⟩ := list6 hlen
      · have g0 := hfl 0 _ rfl
        have g1 := hfl 1 _ rfl; have g2 := hfl 2 _ rfl; have g3 := hfl 3 _ rfl; have g4 := hfl 4 _ rfl; have g5 := hfl 5 _ rfl
        simp [cI, cR, cU, cL] at g0 g1 g2 g3 g4 g5
        have e0 : W.cell? (x0.add (i * 6)) = some v0 := by have h3 := hc 0 (by omega); rw [show (x0.add (i * 6)).add 0 = x0.add (i * 6) from if_pos rfl] at h3; exact h3
        have ej : ∀ j u, 0 < j → j < 6 → [v0, v1, v2, v3, v4, v5][j]? = some u → W.cell? ⟨(x0.add (i * 6)).block, (x0.add (i * 6)).off + j, none⟩ = some u := fun j u hj hj6 hu => by
          have h3 := hc j hj6; rw [hu] at h3; rw [← h3]; unfold Addr.add; rw [if_neg (by omega : ¬ j = 0)]
        obtain ⟨n0, q0, _, w0⟩ := DataW.trod_int Tryz.underlying3 g0; obtain ⟨n3, q3, _, w3⟩ := DataW.trod_int Tryz.underlying21 g3; obtain ⟨n4, q4, _, w4⟩ := DataW.trod_int Tryz.underlying3 g4; obtain ⟨Aa, la, ca, ea, la2, Ca, ra, ba⟩ := open_pr g1; obtain ⟨Ab, lb, cb, eb, lb2, Cb, rb, bb⟩ := open_pr g2; obtain ⟨AL, lL, cL', eL, lL2, CL, rL, bL, tL⟩ := open_pp g5; injection q0 with q0; injection q3 with q3; injection q4 with q4; have z3 := w3; have z4 := w4
        simp [Lit.wf] at z3 z4
        have m0 : IntKind.i32.min = -2147483648 := rfl; have m1 : IntKind.i32.max = 2147483647 := rfl; have m2 : IntKind.i64.min = -9223372036854775808 := rfl; have m3 : IntKind.i64.max = 9223372036854775807 := rfl; simp only [Prod.mk.injEq] at hxy; rw [hxy.1] at hbi; simp only [List.map_cons, List.map_nil, Rows.uptoBulk, Rows.uptoBulkAll] at hbi; refine ⟨⟨n0, la, lb, n3, n4, lL⟩, ⟨Aa, Ab, AL, ca, cb, cL', ⟨Ca, la2, Cb, lb2, CL, lL2⟩, by rw [e0, q0], by rw [ej 1 _ (by omega) (by omega) rfl, ea], by rw [ej 2 _ (by omega) (by omega) rfl, eb], by rw [ej 3 _ (by omega) (by omega) rfl, q3], by rw [ej 4 _ (by omega) (by omega) rfl, q4], by rw [ej 5 _ (by omega) (by omega) rfl, eL]⟩, ?_⟩; exact ⟨⟨by show la.length ≤ _; omega, ra⟩, ⟨by show lb.length ≤ _; omega, rb⟩, by unfold Q.I32; simp only; omega, by simp only; omega, by show lL.length ≤ _; omega, by show sets_Parts.tot lL ≤ _; omega, rL⟩
    haveI : Inhabited Q.Opn := ⟨⟨0, [], [], 0, 0, []⟩⟩
    obtain ⟨f, hf'⟩ := Deep.choose_lt each; refine ⟨some x0, (List.range len).map f, cap, by rw [hcs]; simp, by simpa using hl, ⟨by simp; omega, fun j o hj => ?_⟩, fun o ho => ?_⟩
    · obtain ⟨hj', rfl⟩ := List.getElem?_eq_some_iff.1 hj
      simp only [List.length_map, List.length_range] at hj'; obtain ⟨⟨Aa, Ab, AL, ca, cb, cL, h1⟩, _⟩ := hf' j hj'
      have e : ((List.range len).map f)[j]'(by simpa using hj') = f j := by simp
      rw [e]; exact ⟨x0, Aa, Ab, AL, ca, cb, cL, rfl, h1⟩
    · obtain ⟨j, hj, rfl⟩ := List.mem_map.1 ho; exact (hf' j (List.mem_range.1 hj)).2
set_option maxRecDepth 100000 in
theorem contract (H : Type) (enc : TypeId × Value → H) (W : World) (base : Nat) (args : Array Value) (ds gs : List (DataW H)) (before : List MemPlace)
    (hval0 : ∀ (j : Nat) t v, Tryz.f3.params[j]? = some t → args[j]? = some v → Value.okWide Tryz.prog W .any base t v)
    (hW : DataW.Whole enc Tryz.prog Tryz.f3.params.toList Rows.setsAllSpec.vars false W args.toList ds gs before) (hbk : Rows.uptoSmall H (ds ++ gs) = true) (hL : laidMetH Tryz.prog Rows.setsAllUptoRow.laid W) :
    Calls Tryz.prog 3 args W fun e W' => ∃ v, e = .returned v ∧ Rows.setsAllSpec.post enc Tryz.prog Tryz.f3 false true false false W args v W' := by
  have hval : ∀ (j : Nat) t v, Tryz.f3.params[j]? = some t → args[j]? = some v → Value.okWide Tryz.prog W .any base t v := hval0; have hW' := hW; obtain ⟨p, q, hA0, hV, rfl, hfz, hnd⟩ := hW; have hA : DataW.TrodAll enc Tryz.prog W 0 (fun _ => true) true Tryz.f3.params.toList args.toList ds p := hA0; rw [Tryz.params3] at hA hval; obtain ⟨v0, vs0, d0, ds0, p0, q0, hargs, rfl, rfl, h0, r0⟩ := trodAll_cons hA; obtain ⟨rfl, rfl, rfl⟩ := trodAll_nil r0
  obtain rfl : args = #[v0] := by cases args; simp_all
  obtain ⟨rfl, rfl⟩ := trodVars_none hV; obtain ⟨a0, len0, cap0, rfl⟩ := okWide_slice Tryz.underlying22 (hval 0 22 v0 rfl rfl); have k0 := h0
  have lt0 : ∀ x ∈ p0, x.block < W.heap.size := by obtain ⟨m, hm⟩ := k0; exact DataW.trod_lt m _ _ _ hm
  have hbp0 : Rows.uptoBulk d0 ≤ 1048576 := by
    have h := of_decide_eq_true hbk; simp only [List.cons_append, List.nil_append, List.append_nil, Rows.uptoBulkAll] at h; omega
  obtain ⟨l0, hlen0, hr0, hi0⟩ : ∃ l : List Q.Opn, l.length = len0 ∧ Q.OpsAt W a0 l ∧ ∀ o ∈ l, Q.InO o := by
    obtain ⟨fuel, hf⟩ := h0; obtain ⟨a, l, c, e, h1, h2, h3⟩ := open_po (v := .slice a0 len0 cap0) hf hbp0; injection e with e1 e2 e3; subst e1; subst e2; subst e3; exact ⟨l, rfl, h2, h3⟩
  subst hlen0; have hb0 := of_decide_eq_true hbk; simp only [List.cons_append, List.nil_append, List.append_nil, Rows.uptoBulkAll, Rows.uptoBulk, Array.length_toList] at hb0; clear hA0 hval0
  have hG : Glob W := by
    have e1 : (Rows.laid_thistle_sets_bands : DataW Unit) = bandData := by kernel_rfl
    have e2 : (Rows.laid_internal_strconv_uint64pow10 : DataW Unit) = Lib.tabData .u64 Lib.pow10Tab := by kernel_rfl
    have r := Lib.laidMet.reads hL (.tail _ (.tail _ (.tail _ (.head _)))); have r2 := Lib.laidMet.reads hL (.tail _ (.tail _ (.head _))); rw [e1] at r; rw [e2] at r2; exact glob_of_reads r r2
  refine (Q.sets_all _ _ l0  W hr0 hi0 hG).mono fun e W' ⟨he, bel⟩ => ?_; subst he; exact ⟨_, rfl, _, _, _, [], _, [], hW', trodAll_mk1 (shut_bool Tryz.underlying4 _), (trodAll_cons_mk (Below.trod laidOut (by kernel_rfl) (of_decide_eq_true (by kernel_rfl)) k0 bel lt0) trodAll_mk0), rfl, bel.frame _, fun h => by cases h⟩
noncomputable def laidWorld (os : Os) : World :=
  { World.holding Tryz.prog os ⟨#[], #[], []⟩ with heap := ((((World.holding Tryz.prog os ⟨#[], #[], []⟩).heap.modify 0 fun | .cells _ t frozen => .cells #[.int .i32 0, .int .i32 55295, .int .i32 57344, .int .i32 1114111, .int .i32 1114240, .int .i32 1114367] t frozen | o => o).modify 1 fun | .cells _ t frozen => .cells (Lib.pow10Tab.map fun z => Value.int .u64 z).toArray t frozen | o => o).modify 2 fun | .cells _ t frozen => .cells (([0, 1, 28, 2, 29, 14, 24, 3, 30, 22, 20, 15, 25, 17, 4, 8, 31, 27, 13, 23, 21, 19, 16, 7, 26, 12, 18, 6, 11, 5, 10, 9] : List Int).map fun z => Value.int .u8 z).toArray t frozen | o => o).modify 3 fun | .cells _ t frozen => .cells (([0, 1, 56, 2, 57, 49, 28, 3, 61, 58, 42, 50, 38, 29, 17, 4, 62, 47, 59, 36, 45, 43, 51, 22, 53, 39, 33, 30, 24, 18, 12, 5, 63, 55, 48, 27, 60, 41, 37, 16, 46, 35, 44, 21, 52, 32, 23, 11, 54, 26, 40, 15, 34, 20, 31, 10, 25, 14, 19, 9, 13, 8, 7, 6] : List Int).map fun z => Value.int .u8 z).toArray t frozen | o => o }
theorem laid_met (os : Os) : laidMet Tryz.prog Rows.setsAllUptoRow.laid ((laidWorld os).forCall (fun _ _ => 0) ⟨#[], #[(.slice none 0 0 : Value)], []⟩).memory :=
  laidMet_of_run' 8 (by kernel_rfl) (by kernel_rfl)
theorem reads (os : Os) {H : Type} (enc : TypeId × Value → H) : ∃ places, DataW.whole enc Tryz.prog ((laidWorld os).forCall (fun _ _ => 0) ⟨#[], #[(.slice none 0 0 : Value)], []⟩).memory Tryz.f3.params.toList Rows.setsAllSpec.vars false (#[(.slice none 0 0 : Value)]).toList 8 = some ([.nil], [], places) :=
  ⟨[], by kernel_rfl⟩
set_option maxRecDepth 100000 in
theorem lifted (os : Os) (started : os.Started) (H : Type) (enc : TypeId × Value → H) (F : Stop.Interp) :
    ReturnsInHanded {} Tryz.checked os 3 .any ((Rows.OpenSpec.upto Rows.setsAllSpec).preRow enc Tryz.prog Tryz.f3 Rows.setsAllUptoRow.domain false Rows.setsAllUptoRow.laid) (((Rows.OpenSpec.upto Rows.setsAllSpec).at F).post enc Tryz.prog Tryz.f3 false true false false) := by
  obtain ⟨places, hx⟩ := reads os enc
  refine returnsInHanded_of_row (C := Tryz.checked) (s := Rows.OpenSpec.upto Rows.setsAllSpec) own started (by kernel_rfl) Tryz.func3
    (witness_row_at (enc := enc) (C := Tryz.checked) false (laidWorld os) #[(.slice none 0 0 : Value)] rfl (by kernel_rfl) (by kernel_rfl) (by kernel_rfl)
      (OpenSpec.preRow_of_cond 8 hx (by kernel_rfl) (fun k hk => by cases hk; kernel_rfl) (by kernel_rfl) (laid_met os))) ?_
  intro W base args ds gs before hval hW _ hcond _ hL _ _; exact contract H enc W base args ds gs before hval hW (hcond _ rfl) hL
theorem saidUpto : Rows.SetsAllUptoSaid :=
  OpenClaim.holds_of_cond 3 Tryz.f3 rfl rfl rfl rfl rfl rfl rfl ⟨rfl, rfl, rfl, rfl, rfl⟩ rfl rfl rfl rfl rfl (by kernel_rfl) Tryz.func3 (by kernel_rfl)
    (of_decide_eq_true (by kernel_rfl)) (by unfold Func.isWrapper; first | (rw [if_pos (by decide +kernel)]; kernel_rfl) | (rw [if_neg (by decide +kernel)]; exact ⟨rfl, rfl⟩))
    (fun os started H enc _ F => by rw [OpenClaim.pre_eq_preRow]; exact lifted os started H enc F)
theorem plain (f : FuncId) (fn : Func) (hf : Tryz.pinned.checked.prog.funcNamed "thistle/thistlelaw02.SetsAll" = some f) (hfn : Tryz.pinned.checked.prog.funcs[f]? = some fn) :
    false = Tryz.pinned.checked.prog.looks [] ∧ ∀ (j : Nat) t, fn.params[j]? = some t → Tryz.pinned.checked.prog.wantsStandIn t = false := by
  obtain rfl : f = 3 := Option.some.inj ((show Tryz.prog.funcNamed "thistle/thistlelaw02.SetsAll" = some 3 by kernel_rfl).symm.trans hf) |>.symm; obtain rfl : fn = Tryz.f3 := (Option.some.inj (Tryz.func3.symm.trans hfn)).symm; refine ⟨by kernel_rfl, fun j t ht => ?_⟩; rw [Tryz.params3] at ht
  match j, ht with
  | 0, ht =>
    obtain rfl : t = 22 := by simpa using ht.symm
    exact (show Tryz.prog.wantsStandIn 22 = false by kernel_rfl)
  | j + 1, ht => simp at ht
theorem cardUpto : Rows.SetsAllUptoCardSaid :=
  Claim7.holds_tied_plain_at .later [] _ _ _ _ saidUpto (fun _ h => by cases h) (by kernel_rfl) (fun _ h => by cases h) setsAllUpto_row_tie rfl ⟨rfl, rfl⟩ (by kernel_rfl) rfl plain (by kernel_rfl)
end Go.Proofs.YtoggmegpodmfnaaGreatDoor.setsAll
namespace Go.Proofs.YtoggmegpodmfnaaGreatDoor
theorem setsAll_holds : Rows.SetsAllUptoCardSaid := setsAll.cardUpto
#print axioms setsAll_holds
end Go.Proofs.YtoggmegpodmfnaaGreatDoor
