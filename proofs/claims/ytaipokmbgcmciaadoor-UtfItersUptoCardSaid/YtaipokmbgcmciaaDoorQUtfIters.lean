/- The law's plain side (UtfIters): what the printed functions come to; each theorem states its own conditions. -/
import Derived.Test.YtaipokmbgcmciaaDoorPUx1
import Derived.Test.YtaipokmbgcmciaaDoorPUx2
import Derived.Test.YtaipokmbgcmciaaDoorPUx5
import Derived.Test.YtaipokmbgcmciaaDoorBUtfScan
import Derived.Test.YtaipokmbgcmciaaDoorBUtfPrev
import Derived.Test.YtaipokmbgcmciaaDoorBUtfSegs
import Derived.Test.YtaipokmbgcmciaaDoorQUtfBack
import Derived.Test.YtaipokmbgcmciaaDoorQUtfRangeM
import Derived.RangeFuncNested
import Derived.RangeFuncBound
import Derived.RangeFuncCalls
import Derived.RangeFuncLeaves
import Derived.RangeFuncFrom
import Derived.Shelf.Abstract
import Derived.Shelf.RegionOpen
import Derived.OwnWalkIn
import Derived.TacticsInMore
import Derived.LoopNIn
import Derived.LoopIn
namespace Go.Proofs.YtaipokmbgcmciaaDoor.Q
open Go.RowKit Go.Proofs.YtaipokmbgcmciaaDoorW.PrintWords Go.Proofs.YtaipokmbgcmciaaDoorW.PrintLast Go.Proofs.YtaipokmbgcmciaaDoorW.PrintMore Go.Proofs.YtaipokmbgcmciaaDoor.PU Go.Proofs.YtaipokmbgcmciaaDoor.B
set_option linter.unusedVariables false
set_option linter.unusedSimpArgs false
open UM Go.Shelf
attribute [local go_sem] Oper.semAt_some
def Kw (n₀ : Nat) (W W' : World) : Prop := Below n₀ W W' ∧ KeepsWalks W W'
def pairsFrom (s : ByteArray) : Nat → Nat → List (Int × Int)
  | 0, _ => []
  | fuel + 1, pos => if pos < s.size then ((pos : Int), utfUnitAt s pos) :: pairsFrom s fuel (pos + (Utf8.decode s pos).2) else []
theorem pairs_end (s : ByteArray) (fuel pos : Nat) (h : ¬ pos < s.size) : pairsFrom s fuel pos = [] := by
  cases fuel with
  | zero => rfl
  | succ f => simp [pairsFrom, h]
theorem grown_iter (w : World) (k : Nat) (s : ByteArray) (pos : Nat) : w.grownBy (w.iterAt k s pos) (some k) := ⟨rfl, rfl, rfl, by rw [Lib.iterAt_size]; exact Nat.le_refl _, fun j _ h => Lib.iterAt_other w k j s pos (fun e => h (by rw [e]))⟩
theorem grown_drewN (w : World) (n : Nat) : w.grownBy (w.drewN n) none := ⟨rfl, rfl, rfl, Nat.le_refl _, fun _ _ _ => rfl⟩
set_option maxHeartbeats 2000000 in
set_option maxRecDepth 100000 in
theorem all1_in (n : Nat) (hn : 2 ≤ n) (l Bn n₀ : Nat) (hBn0 : Bn < n₀) (s : ByteArray) (hs : s.size ≤ 16777216) (J Jx : List (Int × Int) → World → Prop) (W : World) (hn₀ : n₀ ≤ W.heap.size) (hJ : AbidesFrom W.heap.size J)
    (hY : ∀ pre x W1, J pre W1 → pre.length < (pairsFrom s s.size 0).length → YieldAt Fence.wide (n - 1) Tryd.prog l #[.int .i64 x.1, .int .i32 x.2] W1 fun e W' =>
      (e = .returned (.bool true) ∧ J (pre ++ [x]) W' ∧ Kw n₀ W1 W') ∨ (e = .returned (.bool false) ∧ Jx (pre ++ [x]) W'))
    (hB : W.cell? ⟨Bn, 0, none⟩ = some (.string s)) (h0 : J [] W) :
    CallsIn Fence.wide n Tryd.prog 39 #[.func (.yield l) #[] #[], .pointer (some ⟨Bn, 0, none⟩)] W fun e W' => (∃ v, e = .returned v) ∧
      ((∃ xs, xs = pairsFrom s s.size 0 ∧ J xs W') ∨ (∃ pre, pre <+: pairsFrom s s.size 0 ∧ Jx pre W')) := by
  refine callsIn_of_wp Tryd.func39 rfl trivial ?_ rfl
  simp only [Tryd.ntmps39, List.size_toArray, List.length_cons, List.length_nil, Nat.reduceAdd, Nat.reduceSub, Array.replicate_succ, Array.replicate_zero, List.push_toArray, List.append_toArray, List.nil_append, List.cons_append]
  gi_wp2
  gi_loopw [3] (fun v wr => ∃ (pos fuel : Nat) (pre : List (Int × Int)), pre ++ pairsFrom s fuel pos = pairsFrom s s.size 0 ∧ s.size ≤ fuel + pos ∧ wr.heap[W.heap.size]? = some (.stringIter s pos) ∧ J pre wr ∧ wr.cell? ⟨Bn, 0, none⟩ = some (.string s)) (fun _ wr => s.size - wr.iterPos W.heap.size)
  case atStart => exact ⟨0, s.size, [], rfl, by omega, World.iter_heap W s 0, hJ _ _ _ none h0 (World.grownBy_alloc W _ none) (fun r e => by cases e), ((below_alloc (Below.refl _ W) _).cell (p := ⟨Bn, 0, none⟩) (by show Bn < W.heap.size; omega)).trans hB⟩
  case round =>
    obtain ⟨pos, fuel, pre, hpre, hf, hit, hJs, hc⟩ := hrel
    by_cases hp : pos < s.size
    · have hnx : ∀ ty, (Instr.next (.pointer (some ⟨W.heap.size, 0, none⟩)) true ty).run Tryd.prog wr = _ := fun ty => Lib.run_next_any_at wr W.heap.size s pos ty hit hp
      have hnum := utfNumber_at s pos hp (by omega)
      obtain ⟨f, rfl⟩ : ∃ f, fuel = f + 1 := ⟨fuel - 1, by omega⟩
      have hpe : pairsFrom s (f + 1) pos = ((pos : Int), utfUnitAt s pos) :: pairsFrom s f (pos + (Utf8.decode s pos).2) := by simp [pairsFrom, hp]
      have hit2 := Lib.iterAt_heap wr W.heap.size s pos (pos + (Utf8.decode s pos).2) hit
      have hJ2 : J pre (wr.iterAt W.heap.size s (pos + (Utf8.decode s pos).2)) := hJ _ _ _ (some W.heap.size) hJs (grown_iter _ _ _ _) (fun r e => by injection e with e; subst e; exact ⟨Nat.le_refl _, _, hit, rfl⟩)
      have hc2 : (wr.iterAt W.heap.size s (pos + (Utf8.decode s pos).2)).cell? ⟨Bn, 0, none⟩ = some (.string s) := ((Lib.below_iterAt (Below.refl W.heap.size wr) (Nat.le_refl _) s _).cell (p := ⟨Bn, 0, none⟩) (by show Bn < W.heap.size; omega)).trans hc
      have hlen : pre.length < (pairsFrom s s.size 0).length := by rw [← hpre, hpe]; simp
      have hd1 := decode_le s pos
      have hwd := utfWidth_pos s pos hp
      have hd2 := utfDecode_fits s pos hp
      have HIT := Aside0.mk hit
      have HIT2 := Aside0.mk hit2
      have HJ2 := Aside0.mk hJ2
      have HPRE := Aside0.mk hpre
      have HPE := Aside0.mk hpe
      have HC2 := Aside0.mk hc2
      have HW := Aside0.mk (And.intro hwd hd2)
      have HNUM := Aside0.mk hnum
      clear hit hit2 hJ2 hpre hpe hJs hc hwd hd2 hnum
      gi_wp2_with (refine ⟨trivial, fun _ => by omega, ?_⟩; gi_at_call 40; (with_reducible refine (callsIn_wide.2 (utf_number.calls s (pos : Int) ((Utf8.decode s pos).1 : Int) (utfUnitAt s pos) _ HNUM.out)).mono ?_); rintro e w1 ⟨rfl, ⟨nd, rfl⟩⟩)
      obtain ⟨fn, tmps, assign, body, hy, hR⟩ := hY pre ((pos : Int), utfUnitAt s pos) _ (hJ _ _ _ none HJ2.out (grown_drewN _ nd) (fun r e => by cases e)) hlen
      gi_wp2
      refine ⟨fun _ => by omega, hR.mono ?_⟩
      rintro e W3 (⟨rfl, hJ3, hk3⟩ | ⟨rfl, hJx3⟩)
      · gi_wp2
        go_roundw
        case rel => exact ⟨pos + (Utf8.decode s pos).2, f, pre ++ [((pos : Int), utfUnitAt s pos)], by rw [← HPRE.out, HPE.out]; simp, by have := HW.out; omega, hk3.2.same _ _ HIT2.out rfl, hJ3, (hk3.1.cell (p := ⟨Bn, 0, none⟩) hBn0).trans HC2.out⟩
        case measure =>
          have h1 := HW.out
          simp only [World.iterPos, hk3.2.same _ _ HIT2.out rfl, HIT.out]
          omega
      · gi_wp2
        refine bodyPost_ret (results_none rfl _ _ _) rfl ?_
        exact ⟨⟨_, rfl⟩, .inr ⟨_, by rw [← HPRE.out, HPE.out]; exact ⟨pairsFrom s f (pos + (Utf8.decode s pos).2), by simp⟩, hJx3⟩⟩
    · have hnx : ∀ ty, (Instr.next (.pointer (some ⟨W.heap.size, 0, none⟩)) true ty).run Tryd.prog wr = _ := fun ty => Lib.run_next_end_at wr W.heap.size s pos ty hit hp
      rw [pairs_end s fuel pos hp, List.append_nil] at hpre
      subst hpre
      gi_wp2
      go_end0
      exact ⟨⟨_, rfl⟩, .inl ⟨_, rfl, hJs⟩⟩
theorem scan_pos (s : ByteArray) (hs : s.size ≤ 16777216) {pos : Nat} {us : List Int} (hS : Scan s.data.toList pos us) (hp : pos < s.size) : prevOf s ((pos : Int) + ((Utf8.decode s pos).2 : Int)) = (utfUnitAt s pos, ((Utf8.decode s pos).2 : Int), 0) := by
  have hl : pos < s.data.toList.length := by rw [size_list]; exact hp
  have h := scan_last s.data.toList hS hl
  have hw := utfWidth_pos s pos hp
  have hf := utfDecode_fits s pos hp
  have hd := decode_eq s pos
  have hu := unitAt_eq s pos hp
  rw [← hd, ← hu] at h
  unfold prevOf
  rw [if_neg (by omega), if_neg (by omega), show ((pos : Int) + ((Utf8.decode s pos).2 : Int)).toNat = pos + (Utf8.decode s pos).2 by omega, h]
/-- A place that is come by from the start, and the pairs ahead of it. -/
inductive Reach (s : ByteArray) : Nat → List (Int × Int) → Prop where
  | zero : Reach s 0 []
  | step {pos : Nat} {q : List (Int × Int)} (h : Reach s pos q) (hp : pos < s.size) : Reach s (pos + (Utf8.decode s pos).2) (q ++ [((pos : Int), utfUnitAt s pos)])
theorem Reach.scan {s : ByteArray} {pos : Nat} {q : List (Int × Int)} (h : Reach s pos q) : ∃ us, Scan s.data.toList pos us := by
  induction h with
  | zero => exact ⟨[], .zero⟩
  | step h hp ih =>
    obtain ⟨us, hS⟩ := ih
    rw [decode_eq]
    exact ⟨_, .step hS (by rw [size_list]; exact hp)⟩
theorem Reach.le {s : ByteArray} {pos : Nat} {q : List (Int × Int)} (h : Reach s pos q) : pos ≤ s.size := by
  cases h with
  | zero => omega
  | step h hp => exact utfDecode_fits s _ hp
theorem reach_on (s : ByteArray) : ∀ (fuel pos : Nat) (q : List (Int × Int)), Reach s pos q → s.size ≤ fuel + pos → Reach s s.size (q ++ pairsFrom s fuel pos)
  | 0, pos, q, h, hf => by
    have : pos = s.size := by have := h.le; omega
    subst this
    simpa [pairsFrom] using h
  | fuel + 1, pos, q, h, hf => by
    by_cases hp : pos < s.size
    · have hw := utfWidth_pos s pos hp
      have := reach_on s fuel _ _ (.step h hp) (by omega)
      simpa [pairsFrom, hp] using this
    · have : pos = s.size := by have := h.le; omega
      rw [pairs_end s _ pos hp, List.append_nil]
      rw [← this]; exact h
theorem reach_all (s : ByteArray) : Reach s s.size (pairsFrom s s.size 0) := by simpa using reach_on s s.size 0 [] .zero (by omega)
theorem reach_back {s : ByteArray} {at_ : Nat} {q : List (Int × Int)} (h : Reach s at_ q) (h0 : 0 < at_) : ∃ (pos : Nat) (q' : List (Int × Int)), q = q' ++ [((pos : Int), utfUnitAt s pos)] ∧ Reach s pos q' ∧ pos < s.size ∧ at_ = pos + (Utf8.decode s pos).2 := by
  cases h with
  | zero => omega
  | step h hp => exact ⟨_, _, rfl, h, hp, rfl⟩
theorem reach_zero {s : ByteArray} {q : List (Int × Int)} (h : Reach s 0 q) : q = [] := by
  generalize hz : (0 : Nat) = z at h
  cases h with
  | zero => rfl
  | step h hp => have := utfWidth_pos s _ hp; omega
theorem take_next {α : Type} {L : List α} {k : Nat} {x : α} {r : List α} (h : x :: r = L.drop k) : L.take (k + 1) = L.take k ++ [x] ∧ r = L.drop (k + 1) := by
  have hk : L[k]? = some x := by rw [← List.head?_drop, ← h]; rfl
  refine ⟨by rw [List.take_add_one, hk]; rfl, ?_⟩
  rw [← List.tail_drop, ← h]; rfl
theorem below_grown {w w' : World} (h : Below w.heap.size w w') : w.grownBy w' none := ⟨h.os, h.tape, h.output, h.size, fun k hk _ => h.block k hk⟩
set_option maxHeartbeats 2000000 in
set_option maxRecDepth 100000 in
theorem back1_in (n : Nat) (hn : 2 ≤ n) (l Bn n₀ : Nat) (hBn0 : Bn < n₀) (s : ByteArray) (hs : s.size ≤ 16777216) (J Jx : List (Int × Int) → World → Prop) (W : World) (hn₀ : n₀ ≤ W.heap.size) (hn2 : 2 ≤ n₀) (hG : Glob W) (hJ : AbidesFrom W.heap.size J)
    (hY : ∀ pre x W1, J pre W1 → pre.length < (pairsFrom s s.size 0).length → YieldAt Fence.wide (n - 1) Tryd.prog l #[.int .i64 x.1, .int .i32 x.2] W1 fun e W' =>
      (e = .returned (.bool true) ∧ J (pre ++ [x]) W' ∧ Kw n₀ W1 W') ∨ (e = .returned (.bool false) ∧ Jx (pre ++ [x]) W'))
    (hB : W.cell? ⟨Bn, 0, none⟩ = some (.string s)) (h0 : J [] W) :
    CallsIn Fence.wide n Tryd.prog 41 #[.func (.yield l) #[] #[], .pointer (some ⟨Bn, 0, none⟩)] W fun e W' => (∃ v, e = .returned v) ∧
      ((∃ xs, xs = (pairsFrom s s.size 0).reverse ∧ J xs W') ∨ (∃ pre, pre <+: (pairsFrom s s.size 0).reverse ∧ Jx pre W')) := by
  refine callsIn_of_wp Tryd.func41 rfl trivial ?_ rfl
  simp only [Tryd.ntmps41, List.size_toArray, List.length_cons, List.length_nil, Nat.reduceAdd, Nat.reduceSub, Array.replicate_succ, Array.replicate_zero, List.push_toArray, List.append_toArray, List.nil_append, List.cons_append]
  have hR := reach_all s
  generalize pairsFrom s s.size 0 = P at *
  have HR := Aside0.mk hR
  have HG := Aside0.mk hG
  clear hR hG
  gi_wp2
  gi_loopw [3] (fun v wr => ∃ (at_ : Nat) (q pre : List (Int × Int)), v = .int .i64 (at_ : Int) ∧ Reach s at_ q ∧ q.reverse = P.reverse.drop pre.length ∧ pre = P.reverse.take pre.length ∧ pre.length + q.length = P.length ∧ Glob wr ∧ J pre wr ∧ wr.cell? ⟨Bn, 0, none⟩ = some (.string s)) (fun v _ => (intOf v).toNat)
  case atStart => exact ⟨s.size, P, [], rfl, HR.out, by simp, by simp, by simp, HG.out, h0, hB⟩
  case round =>
    obtain ⟨at_, q, pre, rfl, hq, hqr, hpre, hlen, hGr, hJs, hc⟩ := hrel
    by_cases hp : 0 < at_
    · obtain ⟨pos, q', rfl, hq', hps, rfl⟩ := reach_back hq hp
      obtain ⟨us, hS⟩ := hq'.scan
      have hprev := scan_pos s hs hS hps
      obtain ⟨k, hk⟩ := utf_prev s ((pos : Int) + ((Utf8.decode s pos).2 : Int)) (by omega)
      have hk1 := hk k (Nat.le_refl _)
      simp only at hk1
      rw [hprev] at hk1
      have hd1 := decode_le s pos
      have hwd := utfWidth_pos s pos hps
      have hd2 := utfDecode_fits s pos hps
      generalize hm : (Utf8.decode s pos).2 = m at *
      have hcast : (((pos + m : Nat)) : Int) = (pos : Int) + (m : Int) := by omega
      have hww : wrap64 ((pos : Int) + (m : Int) - (m : Int)) = (pos : Int) := by unfold wrap64; omega
      have hgt : decide ((pos : Int) + (m : Int) > 0) = true := decide_eq_true (by omega)
      have hlenP : pre.length < P.length := by have := hlen; simp at this; omega
      have HW := Aside0.mk (And.intro hwd hd2)
      have HK := Aside0.mk hk1
      have HGR := Aside0.mk hGr
      have HQ := Aside0.mk hq'
      have HQR := Aside0.mk hqr
      have HPRE := Aside0.mk hpre
      have HLEN := Aside0.mk hlen
      have HC := Aside0.mk hc
      have HJ := Aside0.mk hJs
      clear hwd hd2 hk1 hk hGr hq' hqr hpre hlen hJs hq hprev hS hm hp
      gi_wp2_with (refine ⟨trivial, fun _ => by omega, ?_⟩; gi_at_call 22; (with_reducible refine (callsIn_wide.2 (utf_Prev.calls k s ((pos : Int) + (m : Int)) (utfUnitAt s pos) (m : Int) 0 _ HGR.out HK.out)).mono ?_); rintro e w1 ⟨rfl, hb1⟩; have HB1 := Aside0.mk hb1; clear hb1)
      obtain ⟨fn, tmps, assign, body, hy, hR⟩ := hY pre ((pos : Int), utfUnitAt s pos) _ (hJ _ _ _ none HJ.out (below_grown HB1.out) (fun r e => by cases e)) hlenP
      gi_wp2
      refine ⟨fun _ => by omega, hR.mono ?_⟩
      have hnext := take_next (x := ((pos : Int), utfUnitAt s pos)) (r := q'.reverse) (by rw [← HQR.out]; simp : _ = P.reverse.drop pre.length)
      have hpos1 : pre ++ [((pos : Int), utfUnitAt s pos)] = P.reverse.take (pre.length + 1) := by rw [hnext.1, ← HPRE.out]
      rintro e W3 (⟨rfl, hJ3, hk3⟩ | ⟨rfl, hJx3⟩)
      · gi_wp2
        go_roundw
        case rel =>
          refine ⟨pos, q', pre ++ [((pos : Int), utfUnitAt s pos)], rfl, HQ.out, ?_, ?_, ?_, ?_, hJ3, ?_⟩
          · rw [List.length_append, List.length_singleton]; exact hnext.2
          · rw [List.length_append, List.length_singleton]; exact hpos1
          · have := HLEN.out; simp at this ⊢; omega
          · exact (HGR.out.of_below HB1.out).of_cells fun b o v h hb => (hk3.1.cell (p := ⟨b, o, none⟩) (by show b < n₀; omega)).trans h
          · exact (hk3.1.cell (p := ⟨Bn, 0, none⟩) hBn0).trans ((HB1.out.cell (p := ⟨Bn, 0, none⟩) (globCell_lt HC.out)).trans HC.out)
        case measure => have := HW.out; simp [intOf]; omega
      · gi_wp2
        refine bodyPost_ret (results_none rfl _ _ _) rfl ?_
        exact ⟨⟨_, rfl⟩, .inr ⟨_, by rw [hpos1]; exact List.take_prefix _ _, hJx3⟩⟩
    · obtain rfl : at_ = 0 := by omega
      obtain rfl := reach_zero hq
      have hpl : pre.length = P.length := by simpa using hlen
      have : pre = P.reverse := by rw [hpre, hpl]; exact List.take_of_length_le (by simp)
      subst this
      gi_wp2
      go_end0
      exact ⟨⟨_, rfl⟩, .inl ⟨_, rfl, hJs⟩⟩
theorem cell_of_box_l {W : World} {B : Nat} {v : Value} {t : TypeId} (h : W.heap[B]? = some (.cells #[v] t (0, 0))) : W.cell? ⟨B, 0, none⟩ = some v ∧ W.frozen? ⟨B, 0, none⟩ = false := by
  constructor <;> simp [World.cell?, World.frozen?, h]
theorem cell_new_l (W : World) (v : Value) (t : TypeId) : (W.alloc (.cells #[v] t)).cell? ⟨W.heap.size, 0, none⟩ = some v ∧ (W.alloc (.cells #[v] t)).frozen? ⟨W.heap.size, 0, none⟩ = false := by
  exact cell_of_box_l (World.alloc_heap_new W _)
theorem cell_alloc_l {W : World} {a : Addr} {v : Value} (o : Obj) (h : W.cell? a = some v) : (W.alloc o).cell? a = some v := cell_kept h (World.grownBy_alloc W o none) (fun r e => by cases e)
theorem frozen_alloc_l {W : World} {a : Addr} {v : Value} (o : Obj) (h : W.cell? a = some v) (hf : W.frozen? a = false) : (W.alloc o).frozen? a = false := (frozen_kept h (World.grownBy_alloc W o none) (fun r e => by cases e)).trans hf
/-- What a world holds within one of the law's loops: the count's cell; all that lay below it unturned since w; the loops' lists of deferred calls. -/
structure InLoop (n₀ : Nat) (Ds : List Nat) (w : World) (v : Int) (W : World) : Prop where
  cell : W.cell? ⟨n₀, 0, none⟩ = some (.int .i64 v)
  hot : W.frozen? ⟨n₀, 0, none⟩ = false
  below : Below n₀ w W
  defs : ∀ D ∈ Ds, W.heap[D]? = some (.deferred (some []))
theorem InLoop.grown {n₀ : Nat} {Ds : List Nat} {w : World} {v : Int} {A B : World} {row : Option Nat} (h : InLoop n₀ Ds w v A) (hn : n₀ ≤ w.heap.size) {b : Nat} (hb : n₀ ≤ b) (hDs : ∀ D ∈ Ds, D < b) (hg : A.grownBy B row)
    (hr : ∀ r, row = some r → b ≤ r ∧ ∃ o : Obj, A.heap[r]? = some o ∧ o.isCells = false) : InLoop n₀ Ds w v B :=
  ⟨cell_kept h.cell hg (fun r e => (hr r e).2), (frozen_kept h.cell hg (fun r e => (hr r e).2)).trans h.hot, ownFrom_below (β := Unit) hn hb () A B row h.below hg hr,
    fun D hD => (hg.block D (Array.getElem?_eq_some_iff.1 (h.defs D hD)).1 (fun e => by have := (hr D e.symm).1; have := hDs D hD; omega)).trans (h.defs D hD)⟩
theorem InLoop.put {n₀ : Nat} {Ds : List Nat} {w : World} {v : Int} {A : World} (h : InLoop n₀ Ds w v A) (v' : Int) : InLoop n₀ Ds w v' (A.setCell ⟨n₀, 0, none⟩ (.int .i64 v')) :=
  ⟨World.cell?_setCell_same' _ _ _ (by rw [h.cell]; rfl), by rw [World.frozen?_setCell]; exact h.hot, h.below.setCell (p := ⟨n₀, 0, none⟩) (Nat.le_refl _) _,
    fun D hD => (KeepsOthers.setCell A ⟨n₀, 0, none⟩ _).same D _ (h.defs D hD) rfl⟩
theorem kw_t {n₀ : Nat} {A B C : World} (h : Kw n₀ A B) (k : Kw n₀ B C) : Kw n₀ A C := ⟨h.1.trans k.1, h.2.trans k.2⟩
/-- The frame of a round: the loop's own two slots, and the round's variables. -/
def inRound (a : Act) (p q p' q' : Tmp) (x : Int × Int) : Act := { tmps := (((a.tmps.setIfInBounds p (.int .i64 x.1)).setIfInBounds q (.int .i32 x.2)).setIfInBounds p' (.int .i64 x.1)).setIfInBounds q' (.int .i32 x.2), defers := [] }
theorem iter_loop {g : Operand} {ps : Array Tmp} {assign body : Code} {Q : Exit → Act → World → Prop} {a : Act} {w : World} {n : Nat} (n₀ id : Nat) (ex : Bool) (Ds : List Nat) (P : List (Int × Int)) (iv : Nat → Int)
    (h1 : 1 ≤ n) {gf : Nat} {lb : Array Value} (hg : a.eval g = .func (.func gf) #[] lb) (eg : ∀ args w, (callFunc gf args).run Tryd.prog w = .ok (.enter gf args) w)
    (hseq : SeqStopsK Fence.wide (n - 1) Tryd.prog gf lb (fun x : Int × Int => #[.int .i64 x.1, .int .i32 x.2]) (Kw n₀) (fun xs => xs = P) (fun pre => pre <+: P) P.length w)
    (hps : ps.size = 2) (hn : n₀ < w.heap.size) (hDs : ∀ D ∈ Ds, D < w.heap.size) (h0 : InLoop n₀ Ds w (iv 0) w) (p q p' q' : Tmp)
    (hassign : ∀ (l : Nat) (x : Int × Int) (W : World) (K : Act → World → Prop), K (inRound a p q p' q' x) W →
      assign.wpIn (Fence.wide.inRound l) (n - 1 - 1) Tryd.prog (Exit.then K (fun _ _ _ => False)) { tmps := (ps.zip #[Value.int .i64 x.1, Value.int .i32 x.2]).foldl (fun t (p, v) => t.setIfInBounds p v) a.tmps, defers := [] } W)
    (hbody : ∀ (l : Nat) (pre : List (Int × Int)) (x y : Int × Int) (W : World), pre.length < P.length → P[pre.length]? = some y → InLoop n₀ Ds w (iv pre.length) W →
      body.wpIn (Fence.wide.inRound l) (n - 1 - 1) Tryd.prog (fun e _ W' =>
        (e = .normal ∧ x = y ∧ W' = W.setCell ⟨n₀, 0, none⟩ (.int .i64 (iv (pre.length + 1)))) ∨ (e = .ret ∧ x ≠ y ∧ KeepsOthers W W') ∨ (ex = true ∧ e = .exit id ∧ ∃ v, W' = W.setCell ⟨n₀, 0, none⟩ (.int .i64 v))) (inRound a p q p' q' x) W)
    (hexit : ex = true → ∀ a W, Q .normal a W → Q (.exit id) a W)
    (key : ∀ (D : Nat) (v : Int) (W : World), w.heap.size ≤ D → (ex = false → v = iv P.length) → InLoop n₀ (D :: Ds) w v W → Q .normal { a with defers := { target := .collected D, args := #[] } :: a.defers } W) :
    (Code.rangeFunc g ps assign body).wpIn Fence.wide n Tryd.prog Q a w := by
  refine wpIn_rangeFunc_ownF rfl h1 hg trivial eg hseq kw_t (fun W l o o' hl h hc hw => ⟨belowK_b (Nat.le_of_lt hn) W l o o' hl h hc hw, KeepsWalks.putObj _ h hw⟩) (Below.refl _ _) (fun _ => hps.symm)
    (fun pre W => pre <+: P ∧ InLoop n₀ Ds w (iv pre.length) W)
    (fun c pre W => (c = .ret ∧ ¬ pre <+: P) ∨ (ex = true ∧ c = .exit id ∧ ∃ v, InLoop n₀ Ds w v W))
    (fun s A B row hs hg hr => ⟨hs.1, hs.2.grown (Nat.le_of_lt hn) (Nat.le_of_lt hn) hDs hg hr⟩)
    (fun c s A B row hs hg hr => hs.imp (fun h => h) (fun h => ⟨h.1, h.2.1, h.2.2.imp fun v hv => hv.grown (Nat.le_of_lt hn) (Nat.le_of_lt hn) hDs hg hr⟩))
    ⟨List.nil_prefix, h0⟩ (inRound a p q p' q') hassign ?body ?done ?stop
  case body =>
    rintro l pre x W ⟨hpre, hI⟩ hlen
    obtain ⟨y, hy⟩ : ∃ y, P[pre.length]? = some y := ⟨P[pre.length], List.getElem?_eq_getElem hlen⟩
    have hsn : pre ++ [y] <+: P := by
      obtain ⟨r, rfl⟩ := hpre
      cases r with
      | nil => simp at hlen
      | cons z r => simp at hy; subst hy; exact ⟨r, by simp⟩
    refine wpIn_mono (hbody l pre x y W hlen hy hI) ?_
    rintro e a' W' (⟨rfl, rfl, rfl⟩ | ⟨rfl, hne, hk⟩ | ⟨hx, rfl, v, rfl⟩)
    · exact ⟨KeepsOthers.setCell _ _ _, ⟨(Below.refl _ _).setCell (p := ⟨n₀, 0, none⟩) (Nat.le_refl _) _, (KeepsOthers.setCell _ _ _).walks⟩, hsn, by simpa using hI.put _⟩
    · refine ⟨hk, .inl ⟨rfl, fun h => hne ?_⟩⟩
      obtain ⟨r, rfl⟩ := h
      simpa using hy
    · exact ⟨KeepsOthers.setCell _ _ _, .inr ⟨hx, rfl, v, hI.put _⟩⟩
  case done =>
    rintro D xs W hD rfl ⟨_, hI⟩ hK
    exact key D _ W hD (fun _ => rfl) ⟨hI.cell, hI.hot, hI.below, fun E hE => (List.mem_cons.1 hE).elim (fun e => by rw [e]; exact hK) (hI.defs E)⟩
  case stop =>
    rintro D c pre W hD hpre (⟨rfl, hn⟩ | ⟨hx, rfl, v, hI⟩) hK
    · exact absurd hpre hn
    · refine wpIn_exit ?_
      exact hexit hx _ _ (key D v W hD (fun h => by rw [hx] at h; cases h) ⟨hI.cell, hI.hot, hI.below, fun E hE => (List.mem_cons.1 hE).elim (fun e => by rw [e]; exact hK) (hI.defs E)⟩)
theorem putObj_cell {W : World} {D : Nat} {o : Obj} {a : Addr} (h : a.block ≠ D) : (W.putObj D o).cell? a = W.cell? a := by
  simp [World.putObj, World.cell?, Array.getElem?_setIfInBounds, Ne.symm h]
theorem putObj_heap {W : World} {D E : Nat} {o : Obj} (h : E ≠ D) : (W.putObj D o).heap[E]? = W.heap[E]? := by
  simp [World.putObj, Array.getElem?_setIfInBounds, Ne.symm h]
theorem putObj_below {B : Nat} {w W : World} {D : Nat} {o : Obj} (h : Below B w W) (hD : B ≤ D) : Below B w (W.putObj D o) :=
  ⟨h.os, h.tape, h.output, by simp [World.putObj]; exact h.size, fun k hk => (putObj_heap (by omega)).trans (h.block k hk)⟩
/-- A function's way out over the marks of its ranges over functions: its one result lies in a cell. -/
theorem leave_marks {F : Fence} {n : Nat} {P : Program} {fn : Func} {tmps : Array Value} {R : Ending → World → Prop} {B : Nat} {w0 : World} {a : Addr} {v : Value}
    (hres : ∀ W : World, W.cell? a = some v → (results fn tmps).run P W = .ok v W) (hR : ∀ W', Below B w0 W' → R (.returned v) W') :
    ∀ (Ds : List Nat) (W : World), Ds.Nodup → (∀ D ∈ Ds, W.heap[D]? = some (.deferred (some [])) ∧ B ≤ D ∧ a.block ≠ D) → W.cell? a = some v → Below B w0 W →
      LeavesInM F n P fn tmps R (Ds.map fun D => { target := .collected D, args := #[] }) .returning W
  | [], W, _, _, hc, hb => ⟨v, hres W hc, hR W hb⟩
  | D :: Ds, W, hn, hD, hc, hb => by
    have h0 := hD D List.mem_cons_self
    refine ⟨by simp, .inl ⟨D, _, rfl, run_takeDeferred h0.1, leave_marks hres hR Ds _ (List.nodup_cons.1 hn).2 (fun E hE => ?_) ((putObj_cell h0.2.2).trans hc) (putObj_below hb h0.2.1)⟩⟩
    have hE' := hD E (List.mem_cons_of_mem _ hE)
    exact ⟨(putObj_heap (by rintro rfl; exact (List.nodup_cons.1 hn).1 hE)).trans hE'.1, hE'.2⟩
set_option maxRecDepth 100000 in
theorem all_calls (s : ByteArray) (w : World) : Calls Tryd.prog 9 #[.string s] w fun e w' => e = .returned (.func (.func 39) #[] #[.pointer (some ⟨w.heap.size, 0, none⟩)]) ∧ w' = w.alloc (.cells #[.string s] 9) := by
  go_enter Tryd.func9, Tryd.ntmps9
  go_wp2
  go_ret
  exact ⟨rfl, rfl⟩
set_option maxRecDepth 100000 in
theorem back_calls (s : ByteArray) (w : World) : Calls Tryd.prog 10 #[.string s] w fun e w' => e = .returned (.func (.func 41) #[] #[.pointer (some ⟨w.heap.size, 0, none⟩)]) ∧ w' = w.alloc (.cells #[.string s] 9) := by
  go_enter Tryd.func10, Tryd.ntmps10
  go_wp2
  go_ret
  exact ⟨rfl, rfl⟩
theorem func_nil (w : World) (f : Fn) (a b : Array Value) : (binOp .eql 24 (.func f a b) .nilFunc).run Tryd.prog w = .ok (.bool false) w := by
  have h : ∀ d, (Op.equalIn (d + 1) 24 (.func f a b) .nilFunc).run Tryd.prog w = .ok false w := fun d => by simp [Op.equalIn, run_underlying Tryd.underlying24]
  simp only [binOp]
  simp [Op.equal, Op.maxDepth, h 9999]
theorem places_pairs (s : ByteArray) : ∀ fuel pos, utfPlaces s fuel pos = (pairsFrom s fuel pos).map (·.1)
  | 0, _ => rfl
  | f + 1, pos => by
    by_cases h : pos < s.size <;> simp [utfPlaces, pairsFrom, h, places_pairs s f]
theorem units_pairs (s : ByteArray) : ∀ fuel pos, utfFrom s fuel pos = (pairsFrom s fuel pos).map (·.2)
  | 0, _ => rfl
  | f + 1, pos => by
    by_cases h : pos < s.size <;> simp [utfFrom, pairsFrom, h, units_pairs s f]
theorem world_gen {F : Fence} {n : Nat} {P : Program} {c : Code} {Q : Exit → Act → World → Prop} {a : Act} {w : World} (h : ∀ W, W = w → c.wpIn F n P Q a W) : c.wpIn F n P Q a w := h w rfl
theorem all_seq (s : ByteArray) (hs : s.size ≤ 16777216) (n Bn n₀ : Nat) (hn : 2 ≤ n) (hBn : Bn < n₀) (w : World) (hn₀ : n₀ ≤ w.heap.size) (hB : w.cell? ⟨Bn, 0, none⟩ = some (.string s)) :
    SeqStopsK Fence.wide n Tryd.prog 39 #[.pointer (some ⟨Bn, 0, none⟩)] (fun x : Int × Int => #[.int .i64 x.1, .int .i32 x.2]) (Kw n₀) (fun xs => xs = pairsFrom s s.size 0) (fun pre => pre <+: pairsFrom s s.size 0) (pairsFrom s s.size 0).length w :=
  fun l J Jx W hb hJ _ hY h0 => all1_in n hn l Bn n₀ hBn s hs J Jx W (Nat.le_trans hn₀ hb.size) hJ hY ((hb.cell (p := ⟨Bn, 0, none⟩) (by show Bn < w.heap.size; omega)).trans hB) h0
theorem back_seq (s : ByteArray) (hs : s.size ≤ 16777216) (n Bn n₀ : Nat) (hn : 2 ≤ n) (hBn : Bn < n₀) (hn2 : 2 ≤ n₀) (w : World) (hn₀ : n₀ ≤ w.heap.size) (hG : Glob w) (hB : w.cell? ⟨Bn, 0, none⟩ = some (.string s)) :
    SeqStopsK Fence.wide n Tryd.prog 41 #[.pointer (some ⟨Bn, 0, none⟩)] (fun x : Int × Int => #[.int .i64 x.1, .int .i32 x.2]) (Kw n₀) (fun xs => xs = (pairsFrom s s.size 0).reverse) (fun pre => pre <+: (pairsFrom s s.size 0).reverse) (pairsFrom s s.size 0).reverse.length w :=
  fun l J Jx W hb hJ _ hY h0 => back1_in n hn l Bn n₀ hBn s hs J Jx W (Nat.le_trans hn₀ hb.size) hn2 (hG.of_cells fun b o v h hb2 => (hb.cell (p := ⟨b, o, none⟩) (by show b < w.heap.size; omega)).trans h) hJ (fun pre x W1 h hl => hY pre x W1 h (by simpa using hl)) ((hb.cell (p := ⟨Bn, 0, none⟩) (by show Bn < w.heap.size; omega)).trans hB) h0
theorem pairs_len (s : ByteArray) : ∀ fuel pos, (pairsFrom s fuel pos).length ≤ fuel
  | 0, _ => by simp [pairsFrom]
  | f + 1, pos => by
    have := pairs_len s f (pos + (Utf8.decode s pos).2)
    by_cases h : pos < s.size
    · simp [pairsFrom, h]; exact this
    · simp [pairsFrom, h]
theorem wrap_pos0 (s : ByteArray) (hs : s.size ≤ 16777216) {k : Nat} (h : k < (pairsFrom s s.size 0).length) : wrap64 (k : Int) = (k : Int) := by
  have := pairs_len s s.size 0
  unfold wrap64; omega
theorem rev_index {n k : Nat} (h : k < n) : ∃ j, n - k = j + 1 ∧ n - (k + 1) = j ∧ j < n ∧ j = n - 1 - k := ⟨n - 1 - k, by omega, by omega, by omega, rfl⟩
theorem add_block_u (a : Addr) (n : Nat) : (a.add n).block = a.block := by unfold Addr.add; split <;> rfl
theorem globCell_ltA {w : World} {p : Addr} {v : Value} (h : w.cell? p = some v) : p.block < w.heap.size := by
  unfold World.cell? at h
  rcases Nat.lt_or_ge p.block w.heap.size with h' | h'
  · exact h'
  · simp [Array.getElem?_eq_none h'] at h
theorem wrap_pos (s : ByteArray) (hs : s.size ≤ 16777216) {k : Nat} (h : k < (pairsFrom s s.size 0).length) : wrap64 ((k : Int) + 1) = (k : Int) + 1 := by
  have := pairs_len s s.size 0
  unfold wrap64; omega
set_option maxHeartbeats 4000000 in
set_option maxRecDepth 100000 in
theorem iters_calls (s : ByteArray) (cut : Int) (hs : s.size ≤ 16777216) (w : World) (hG : Glob w) :
    Calls Tryd.prog 3 #[.string s, .int .i64 cut] w fun e w' => e = .returned (.bool true) ∧ Below w.heap.size w w' := by
  refine (callsIn_wide (n := 5)).1 ?_
  obtain ⟨ka, hka⟩ := ref_all s (by omega)
  have hka1 := hka ka (Nat.le_refl _)
  simp only at hka1
  refine callsIn_of_wp_marks Tryd.func3 rfl trivial ?_ rfl
  simp only [Tryd.ntmps3, List.size_toArray, List.length_cons, List.length_nil, Nat.reduceAdd, Nat.reduceSub, Array.replicate_succ, Array.replicate_zero, List.push_toArray, List.append_toArray, List.nil_append, List.cons_append]
  have hfn := func_nil
  gi_wp2_with (first
    | (refine ⟨trivial, ?_⟩; gi_at_call 8; (with_reducible refine (callsIn_wide.2 (thistlelaw01_awake.calls true _ awake_is)).mono ?_); rintro e w1 ⟨rfl, hb1⟩; have HB1 := Aside0.mk hb1; clear hb1)
    | (refine ⟨trivial, ?_⟩; gi_at_call 9; (with_reducible refine (callsIn_wide.2 (all_calls s _)).mono ?_); rintro e w2 ⟨rfl, rfl⟩)
    | (refine ⟨trivial, ?_⟩; gi_at_call 10; (with_reducible refine (callsIn_wide.2 (back_calls s _)).mono ?_); rintro e w3 ⟨rfl, rfl⟩)
    | (refine ⟨trivial, ?_⟩; gi_at_call 11; (with_reducible refine (callsIn_wide.2 (thistleref01_All.calls ka s (utfPlaces s s.size 0) (utfFrom s s.size 0) _ hka1)).mono ?_); rintro e w5 ⟨v0, v1, rfl, hR0, hR1, hb5⟩; obtain ⟨Ap, cp, rfl, hcp, hCp⟩ := Kd.R_reads hR0; obtain ⟨Au, cu, rfl, hcu, hCu⟩ := Kd.R_reads hR1; have HB5 := Aside0.mk hb5; have HP := Aside0.mk hCp; have HU := Aside0.mk hCu; clear hR0 hR1 hb5 hCp hCu))
  refine world_gen fun W hW => ?_
  have c0 := cell_new_l w (.int .i64 cut) 3
  have c1 := cell_new_l (w.alloc (.cells #[.int .i64 cut] 3)) (.bool false) 4
  have d0 := cell_new_l w1 (.string s) 9
  have d1 := cell_new_l (w1.alloc (.cells #[.string s] 9)) (.string s) 9
  have e0 := cell_new_l w5 (.slice Ap (utfPlaces s s.size 0).length cp) 26
  have e1 := cell_new_l (w5.alloc (.cells #[.slice Ap (utfPlaces s s.size 0).length cp] 26)) (.slice Au (utfFrom s s.size 0).length cu) 27
  have e2 := cell_new_l ((w5.alloc (.cells #[.slice Ap (utfPlaces s s.size 0).length cp] 26)).alloc (.cells #[.slice Au (utfFrom s s.size 0).length cu] 27)) (.int .i64 0) 3
  simp only [World.size_alloc] at c1 d1 e1 e2
  have z1 := HB1.out.size
  have z5 := HB5.out.size
  simp only [World.size_alloc] at z1 z5
  have up5 : ∀ {q : Addr} {v : Value}, w5.cell? q = some v → W.cell? q = some v := fun h => by rw [hW]; exact cell_alloc_l _ (cell_alloc_l _ (cell_alloc_l _ h))
  have up1 : ∀ {q : Addr} {v : Value}, q.block < w1.heap.size + 2 → ((w1.alloc (.cells #[.string s] 9)).alloc (.cells #[.string s] 9)).cell? q = some v → W.cell? q = some v := fun hq h => up5 ((HB5.out.cell (by simp; omega)).trans h)
  have up0 : ∀ {q : Addr} {v : Value}, q.block < w.heap.size + 2 → ((w.alloc (.cells #[.int .i64 cut] 3)).alloc (.cells #[.bool false] 4)).cell? q = some v → W.cell? q = some v := fun hq h => up1 (by omega) (cell_alloc_l _ (cell_alloc_l _ ((HB1.out.cell (by simp; omega)).trans h)))
  have hcut := up0 (q := ⟨w.heap.size, 0, none⟩) (by show w.heap.size < _; omega) (cell_alloc_l _ c0.1)
  have hres := up0 (q := ⟨w.heap.size + 1, 0, none⟩) (by show w.heap.size + 1 < _; omega) c1.1
  have hbx0 := up1 (q := ⟨w1.heap.size, 0, none⟩) (by show w1.heap.size < _; omega) (cell_alloc_l _ d0.1)
  have hbx1 := up1 (q := ⟨w1.heap.size + 1, 0, none⟩) (by show w1.heap.size + 1 < _; omega) d1.1
  have hrf : W.frozen? ⟨w.heap.size + 1, 0, none⟩ = false := by
    have k1 := (HB1.out.cell (p := ⟨w.heap.size + 1, 0, none⟩) (by simp)).trans c1.1
    have k2 := (HB1.out.frozen (p := ⟨w.heap.size + 1, 0, none⟩) (by simp)).trans c1.2
    have k3 := frozen_alloc_l (.cells #[.string s] 9) (cell_alloc_l (.cells #[.string s] 9) k1) (frozen_alloc_l (.cells #[.string s] 9) k1 k2)
    have k4 := (HB5.out.frozen (p := ⟨w.heap.size + 1, 0, none⟩) (by simp; omega)).trans k3
    have k5 := (HB5.out.cell (p := ⟨w.heap.size + 1, 0, none⟩) (by simp; omega)).trans (cell_alloc_l _ (cell_alloc_l _ k1))
    rw [hW]; exact frozen_alloc_l _ (cell_alloc_l _ (cell_alloc_l _ k5)) (frozen_alloc_l _ (cell_alloc_l _ k5) (frozen_alloc_l _ k5 k4))
  have hpl : W.cell? ⟨w5.heap.size, 0, none⟩ = some (.slice Ap (utfPlaces s s.size 0).length cp) := by rw [hW]; exact cell_alloc_l _ (cell_alloc_l _ e0.1)
  have hul : W.cell? ⟨w5.heap.size + 1, 0, none⟩ = some (.slice Au (utfFrom s s.size 0).length cu) := by rw [hW]; exact cell_alloc_l _ e1.1
  have hil : W.cell? ⟨w5.heap.size + 2, 0, none⟩ = some (.int .i64 0) ∧ W.frozen? ⟨w5.heap.size + 2, 0, none⟩ = false := by rw [hW]; exact e2
  have hPl : (utfPlaces s s.size 0).length = (pairsFrom s s.size 0).length := by rw [places_pairs]; simp
  have hUl : (utfFrom s s.size 0).length = (pairsFrom s s.size 0).length := by rw [units_pairs]; simp
  have W5 : Below w5.heap.size w5 W := by rw [hW]; exact (((Below.refl _ _).alloc (Nat.le_refl _) _).alloc (by simp) _).alloc (by simp; omega) _
  have facts : ∀ {Wr : World} {k : Nat} {y : Int × Int}, Below (w5.heap.size + 2) W Wr → (pairsFrom s s.size 0)[k]? = some y → ∃ ad au, Ap = some ad ∧ Au = some au ∧ Wr.cell? (ad.add k) = some (.int .i64 y.1) ∧ Wr.cell? (au.add k) = some (.int .i32 y.2) ∧ ad.block < w5.heap.size ∧ au.block < w5.heap.size := by
    intro Wr k y hb hy
    have b5 : Below w5.heap.size w5 Wr := Below.trans W5 (hb.mono (by omega))
    have hk : k < (pairsFrom s s.size 0).length := (List.getElem?_eq_some_iff.1 hy).1
    obtain ⟨ad, ea, hx1⟩ := Kd.at_int (Kd.C_below HP.out b5) (k : Int) (Int.natCast_nonneg _) (by rw [hPl]; omega)
    obtain ⟨au, eu, hx2⟩ := Kd.at_int (Kd.C_below HU.out b5) (k : Int) (Int.natCast_nonneg _) (by rw [hUl]; omega)
    have hy1 : (utfPlaces s s.size 0).getD k 0 = y.1 := by rw [places_pairs]; simp [List.getD, hy]
    have hy2 : (utfFrom s s.size 0).getD k 0 = y.2 := by rw [units_pairs]; simp [List.getD, hy]
    rw [show rd (utfPlaces s s.size 0) (k : Int) = y.1 by unfold rd; simpa using hy1, Int.toNat_natCast] at hx1
    rw [show rd (utfFrom s s.size 0) (k : Int) = y.2 by unfold rd; simpa using hy2, Int.toNat_natCast] at hx2
    obtain ⟨ad', ea', hx1'⟩ := Kd.at_int HP.out (k : Int) (Int.natCast_nonneg _) (by rw [hPl]; omega)
    obtain ⟨au', eu', hx2'⟩ := Kd.at_int HU.out (k : Int) (Int.natCast_nonneg _) (by rw [hUl]; omega)
    rw [ea] at ea'
    rw [eu] at eu'
    obtain rfl := Option.some.inj ea'
    obtain rfl := Option.some.inj eu'
    exact ⟨ad, au, ea, eu, hx1, hx2, (add_block_u ad _) ▸ globCell_ltA hx1', (add_block_u au _) ▸ globCell_ltA hx2'⟩
  rw [hPl] at hpl
  rw [hUl] at hul
  have cells : ∀ {Wr : World}, Below (w5.heap.size + 2) W Wr → Wr.cell? ⟨w5.heap.size, 0, none⟩ = some (.slice Ap (pairsFrom s s.size 0).length cp) ∧ Wr.cell? ⟨w5.heap.size + 1, 0, none⟩ = some (.slice Au (pairsFrom s s.size 0).length cu) ∧
      Wr.cell? ⟨w.heap.size, 0, none⟩ = some (.int .i64 cut) ∧ Wr.cell? ⟨w.heap.size + 1, 0, none⟩ = some (.bool false) ∧ Wr.frozen? ⟨w.heap.size + 1, 0, none⟩ = false := fun hb =>
    ⟨(hb.cell (p := ⟨w5.heap.size, 0, none⟩) (by show w5.heap.size < _; omega)).trans hpl, (hb.cell (p := ⟨w5.heap.size + 1, 0, none⟩) (by show w5.heap.size + 1 < _; omega)).trans hul,
      (hb.cell (p := ⟨w.heap.size, 0, none⟩) (by show w.heap.size < _; omega)).trans hcut, (hb.cell (p := ⟨w.heap.size + 1, 0, none⟩) (by show w.heap.size + 1 < _; omega)).trans hres, (hb.frozen (p := ⟨w.heap.size + 1, 0, none⟩) (by show w.heap.size + 1 < _; omega)).trans hrf⟩
  have hBw : Below w.heap.size w W := by
    have b1 := below_step (below_alloc (below_alloc (Below.refl _ w) (.cells #[.int .i64 cut] 3)) (.cells #[.bool false] 4)) HB1.out
    have b2 := below_step (below_alloc (below_alloc b1 _) _) HB5.out
    rw [hW]; exact below_alloc (below_alloc (below_alloc b2 _) _) _
  have HBW := Aside0.mk hBw
  have hGW : Glob W := Glob.of_below hG hBw
  have hs1 : w1.heap.size < w5.heap.size + 2 := by omega
  have hs2 : w1.heap.size + 1 < w5.heap.size + 2 := by omega
  have hlt0 : w5.heap.size + 2 < W.heap.size := by rw [hW]; simp
  have HZ := Aside0.mk (And.intro z1 z5)
  clear hW c0 c1 d0 d1 e0 e1 e2 up5 up1 up0 HP HU W5 hPl hUl z1 z5
  refine iter_loop (w5.heap.size + 2) 0 true [] (pairsFrom s s.size 0) (fun k => (k : Int)) (by omega) (gf := 39) (lb := #[.pointer (some ⟨w1.heap.size, 0, none⟩)]) rfl (enters_of Tryd.func39 (by kernel_rfl) rfl)
    (all_seq s hs _ _ _ (by omega) hs1 W (by omega) hbx0) rfl hlt0 (by simp) ⟨hil.1, hil.2, Below.refl _ _, fun D h => by cases h⟩ 36 37 10 11 ?assign ?body ?exit ?key
  case assign =>
    intro l x W K hK
    simp [inRound] at hK
    gi_wp2
    exact hK
  case exit => exact fun _ _ _ h => h
  case body =>
    intro l pre x y Wr hlen hy hI
    obtain ⟨ad, au, rfl, rfl, hx1, hx2, _, _⟩ := facts hI.below hy
    obtain ⟨f1, f2, f5, f6, f7⟩ := cells hI.below
    have f3 := hI.cell
    obtain ⟨z1, z5⟩ := HZ.out
    have f4 := hI.hot
    have g1 := eq_true (show (0 : Int) ≤ (pre.length : Int) by omega)
    have g2 := eq_true (show (pre.length : Int) < ((pairsFrom s s.size 0).length : Int) by omega)
    have g3 := decide_eq_false (show ¬ ((pairsFrom s s.size 0).length : Int) ≤ (pre.length : Int) by omega)
    clear hI hy facts cells hBw hGW hcut hres hbx0 hbx1 hrf hpl hul hil
    simp [inRound]
    gi_wp2
    · refine ⟨fun e => ?_, KeepsOthers.setCell _ _ _⟩
      subst e
      rename_i h
      rcases h with h | h
      · omega
      · simp at h
    · exact ⟨_, rfl⟩
    · rename_i h1 h2 h3
      exact ⟨Prod.ext h1 (by simpa using h2.2), by rw [wrap_pos s hs hlen]⟩
    · refine ⟨fun e => ?_, KeepsOthers.setCell _ _ _⟩
      subst e
      rename_i h
      exact h rfl
  case key =>
    intro D1 v1 W1 hD1 _ hI1
    have hI := hI1.put 0
    have c1 := hI1.cell
    have c2 := hI1.hot
    clear hI1 hil
    gi_wp2
    refine world_gen fun W2 hW2 => ?_
    have e2 : W2 = W1.setCell ⟨w5.heap.size + 2, 0, none⟩ (.int .i64 0) := hW2
    rw [← e2] at hI
    clear e2 hW2 c1 c2
    have HI := Aside0.mk hI
    clear hI
    refine iter_loop (w5.heap.size + 2) 0 false [D1] (pairsFrom s s.size 0) (fun k => (k : Int)) (by omega) (gf := 39) (lb := #[.pointer (some ⟨w1.heap.size, 0, none⟩)]) rfl (enters_of Tryd.func39 (by kernel_rfl) rfl)
      (all_seq s hs _ _ _ (by omega) hs1 W2 (by have := HI.out.below.size; omega) ((HI.out.below.cell (p := ⟨w1.heap.size, 0, none⟩) hs1).trans hbx0)) rfl (by have := HI.out.below.size; omega) ?hds ⟨HI.out.cell, HI.out.hot, Below.refl _ _, HI.out.defs⟩ 64 65 12 13 ?assign ?body ?exit ?key
    case hds => exact fun D hD => (Array.getElem?_eq_some_iff.1 (HI.out.defs D hD)).1
    case assign =>
      intro l x W K hK
      simp [inRound] at hK
      gi_wp2
      exact hK
    case exit => exact fun h => by cases h
    case body =>
      intro l pre x y Wr hlen hy hI
      have hb := HI.out.below.trans hI.below
      obtain ⟨ad, au, rfl, rfl, hx1, hx2, _, _⟩ := facts hb hy
      obtain ⟨f1, f2, f5, f6, f7⟩ := cells hb
      have f3 := hI.cell
      obtain ⟨z1, z5⟩ := HZ.out
      have f4 := hI.hot
      have g1 := eq_true (show (0 : Int) ≤ (pre.length : Int) by omega)
      have g2 := eq_true (show (pre.length : Int) < ((pairsFrom s s.size 0).length : Int) by omega)
      have g3 := decide_eq_false (show ¬ ((pairsFrom s s.size 0).length : Int) ≤ (pre.length : Int) by omega)
      clear hI hy facts cells hBw hGW hcut hres hbx0 hbx1 hrf hpl hul hb
      simp [inRound]
      gi_wp2
      · refine ⟨fun e => ?_, KeepsOthers.setCell _ _ _⟩
        subst e
        rename_i h
        rcases h with h | h
        · omega
        · simp at h
      · rename_i h1 h2
        exact ⟨Prod.ext h1 (by simpa using h2.2), by rw [wrap_pos s hs hlen]⟩
      · refine ⟨fun e => ?_, KeepsOthers.setCell _ _ _⟩
        subst e
        rename_i h
        exact h rfl
    case key =>
      intro D2 v2 W3 hD2 hv2 hI2
      obtain rfl := hv2 rfl
      have hb3 := HI.out.below.trans hI2.below
      have c1 := hI2.cell
      have c2 := hI2.hot
      obtain ⟨f1, f2, f5, f6, f7⟩ := cells hb3
      have g0 : (((pairsFrom s s.size 0).length : Int) != ((pairsFrom s s.size 0).length : Int)) = false := by simp
      have HI2 := Aside0.mk (show InLoop (w5.heap.size + 2) [D2, D1] W ((pairsFrom s s.size 0).length : Int) W3 from ⟨hI2.cell, hI2.hot, hb3, hI2.defs⟩)
      have HDD := Aside0.mk (show D1 < D2 by have := (Array.getElem?_eq_some_iff.1 (HI.out.defs D1 List.mem_cons_self)).1; omega)
      have HD1 := Aside0.mk hD1
      clear hI2 hb3 HI hD2 hD1
      gi_wp2
      clear g0 c1 c2 f1 f2 f5 f6 f7
      refine iter_loop (w5.heap.size + 2) 4 true [D2, D1] (pairsFrom s s.size 0).reverse (fun k => (((pairsFrom s s.size 0).length - k : Nat) : Int)) (by omega) (gf := 41) (lb := #[.pointer (some ⟨w1.heap.size + 1, 0, none⟩)]) rfl (enters_of Tryd.func41 (by kernel_rfl) rfl)
        (back_seq s hs _ _ _ (by omega) hs2 (by omega) W3 (by have := HI2.out.below.size; omega) (hGW.of_cells fun b o v h hb2 => (HI2.out.below.cell (p := ⟨b, o, none⟩) (by show b < w5.heap.size + 2; omega)).trans h) ((HI2.out.below.cell (p := ⟨w1.heap.size + 1, 0, none⟩) hs2).trans hbx1)) rfl (by have := HI2.out.below.size; omega) ?hds ⟨HI2.out.cell, HI2.out.hot, Below.refl _ _, HI2.out.defs⟩ 93 94 14 15 ?assign ?body ?exit ?key
      case hds => exact fun D hD => (Array.getElem?_eq_some_iff.1 (HI2.out.defs D hD)).1
      case assign =>
        intro l x W K hK
        simp [inRound] at hK
        gi_wp2
        exact hK
      case exit => exact fun _ _ _ h => h
      case body =>
        intro l pre x y Wr hlen hy hI
        have hb := HI2.out.below.trans hI.below
        have hlen' : pre.length < (pairsFrom s s.size 0).length := by simpa using hlen
        obtain ⟨j, hj, hj2, hjl, hj3⟩ := rev_index hlen'
        have hyj : (pairsFrom s s.size 0)[j]? = some y := by
          rw [List.getElem?_reverse hlen'] at hy
          rw [hj3]; exact hy
        clear hj3
        obtain ⟨ad, au, rfl, rfl, hx1_, hx2_, hla, hlu⟩ := facts hb hyj
        have hx1 : (Wr.setCell ⟨w5.heap.size + 1 + 1, 0, none⟩ (.int .i64 (j : Int))).cell? (ad.add j) = some (.int .i64 y.1) := (((Below.refl (w5.heap.size + 2) Wr).setCell (p := ⟨w5.heap.size + 1 + 1, 0, none⟩) (Nat.le_refl _) _).cell (p := ad.add j) (by rw [add_block_u]; omega)).trans hx1_
        have hx2 : (Wr.setCell ⟨w5.heap.size + 1 + 1, 0, none⟩ (.int .i64 (j : Int))).cell? (au.add j) = some (.int .i32 y.2) := (((Below.refl (w5.heap.size + 2) Wr).setCell (p := ⟨w5.heap.size + 1 + 1, 0, none⟩) (Nat.le_refl _) _).cell (p := au.add j) (by rw [add_block_u]; omega)).trans hx2_
        clear hx1_ hx2_
        obtain ⟨f1, f2, f5, f6, f7⟩ := cells hb
        have f3 : Wr.cell? ⟨w5.heap.size + 2, 0, none⟩ = some (.int .i64 ((j : Int) + 1)) := by have := hI.cell; simp only [hj] at this; exact this
        obtain ⟨z1, z5⟩ := HZ.out
        have f4 := hI.hot
        have g0 : wrap64 (j : Int) = (j : Int) := wrap_pos0 s hs hjl
        have g1 := eq_true (Int.natCast_nonneg j)
        have g2 := eq_true (Int.ofNat_lt.2 hjl)
        have g3 : decide ((j : Int) < 0) = false := decide_eq_false (Int.not_lt.2 (Int.natCast_nonneg j))
        simp only [hj2]
        clear hI hy hyj facts cells hBw hGW hcut hres hbx0 hbx1 hrf hpl hul hb hj hj2 hlen hlen'
        simp [inRound]
        gi_wp2
        · refine ⟨fun e => ?_, (KeepsOthers.setCell _ _ _).trans (KeepsOthers.setCell _ _ _)⟩
          subst e
          rename_i h1 h
          simp at h
        · exact ⟨_, rfl⟩
        · rename_i h1 h2 h3
          exact Prod.ext h1 (by simpa using h2)
        · refine ⟨fun e => ?_, (KeepsOthers.setCell _ _ _).trans (KeepsOthers.setCell _ _ _)⟩
          subst e
          rename_i h
          exact h rfl
      case key =>
        intro D3 v3 W4 hD3 _ hI3
        have hb4 := HI2.out.below.trans hI3.below
        have hI4 := (show InLoop (w5.heap.size + 2) [D3, D2, D1] W v3 W4 from ⟨hI3.cell, hI3.hot, hb4, hI3.defs⟩).put ((pairsFrom s s.size 0).length : Int)
        have c1 := hI3.cell
        have c2 := hI3.hot
        obtain ⟨f1, f2, f5, f6, f7⟩ := cells hb4
        have HDE := Aside0.mk (show D2 < D3 by have := (Array.getElem?_eq_some_iff.1 (HI2.out.defs D2 List.mem_cons_self)).1; omega)
        clear hI3 hb4 HI2 hD3
        gi_wp2
        refine world_gen fun W5 hW5 => ?_
        have e5 : W5 = W4.setCell ⟨w5.heap.size + 2, 0, none⟩ (.int .i64 ((pairsFrom s s.size 0).length : Int)) := hW5
        rw [← e5] at hI4
        clear e5 hW5 c1 c2 f1 f2 f5 f6 f7
        have HI4 := Aside0.mk hI4
        clear hI4
        refine iter_loop (w5.heap.size + 2) 0 false [D3, D2, D1] (pairsFrom s s.size 0).reverse (fun k => (((pairsFrom s s.size 0).length - k : Nat) : Int)) (by omega) (gf := 41) (lb := #[.pointer (some ⟨w1.heap.size + 1, 0, none⟩)]) rfl (enters_of Tryd.func41 (by kernel_rfl) rfl)
          (back_seq s hs _ _ _ (by omega) hs2 (by omega) W5 (by have := HI4.out.below.size; omega) (hGW.of_cells fun b o v h hb2 => (HI4.out.below.cell (p := ⟨b, o, none⟩) (by show b < w5.heap.size + 2; omega)).trans h) ((HI4.out.below.cell (p := ⟨w1.heap.size + 1, 0, none⟩) hs2).trans hbx1)) rfl (by have := HI4.out.below.size; omega) ?hds ⟨HI4.out.cell, HI4.out.hot, Below.refl _ _, HI4.out.defs⟩ 121 122 16 17 ?assign ?body ?exit ?key
        case hds => exact fun D hD => (Array.getElem?_eq_some_iff.1 (HI4.out.defs D hD)).1
        case assign =>
          intro l x W K hK
          simp [inRound] at hK
          gi_wp2
          exact hK
        case exit => exact fun h => by cases h
        case body =>
          intro l pre x y Wr hlen hy hI
          have hb := HI4.out.below.trans hI.below
          have hlen' : pre.length < (pairsFrom s s.size 0).length := by simpa using hlen
          obtain ⟨j, hj, hj2, hjl, hj3⟩ := rev_index hlen'
          have hyj : (pairsFrom s s.size 0)[j]? = some y := by
            rw [List.getElem?_reverse hlen'] at hy
            rw [hj3]; exact hy
          clear hj3
          obtain ⟨ad, au, rfl, rfl, hx1_, hx2_, hla, hlu⟩ := facts hb hyj
          have hx1 : (Wr.setCell ⟨w5.heap.size + 1 + 1, 0, none⟩ (.int .i64 (j : Int))).cell? (ad.add j) = some (.int .i64 y.1) := (((Below.refl (w5.heap.size + 2) Wr).setCell (p := ⟨w5.heap.size + 1 + 1, 0, none⟩) (Nat.le_refl _) _).cell (p := ad.add j) (by rw [add_block_u]; omega)).trans hx1_
          have hx2 : (Wr.setCell ⟨w5.heap.size + 1 + 1, 0, none⟩ (.int .i64 (j : Int))).cell? (au.add j) = some (.int .i32 y.2) := (((Below.refl (w5.heap.size + 2) Wr).setCell (p := ⟨w5.heap.size + 1 + 1, 0, none⟩) (Nat.le_refl _) _).cell (p := au.add j) (by rw [add_block_u]; omega)).trans hx2_
          clear hx1_ hx2_
          obtain ⟨f1, f2, f5, f6, f7⟩ := cells hb
          have f3 : Wr.cell? ⟨w5.heap.size + 2, 0, none⟩ = some (.int .i64 ((j : Int) + 1)) := by have := hI.cell; simp only [hj] at this; exact this
          obtain ⟨z1, z5⟩ := HZ.out
          have f4 := hI.hot
          have g0 : wrap64 (j : Int) = (j : Int) := wrap_pos0 s hs hjl
          have g1 := eq_true (Int.natCast_nonneg j)
          have g2 := eq_true (Int.ofNat_lt.2 hjl)
          have g3 : decide ((j : Int) < 0) = false := decide_eq_false (Int.not_lt.2 (Int.natCast_nonneg j))
          simp only [hj2]
          clear hI hy hyj facts cells hBw hGW hcut hres hbx0 hbx1 hrf hpl hul hb hj hj2 hlen hlen'
          simp [inRound]
          gi_wp2
          · refine ⟨fun e => ?_, (KeepsOthers.setCell _ _ _).trans (KeepsOthers.setCell _ _ _)⟩
            subst e
            rename_i h1 h
            simp at h
          · rename_i h1 h2
            exact Prod.ext h1 (by simpa using h2)
          · refine ⟨fun e => ?_, (KeepsOthers.setCell _ _ _).trans (KeepsOthers.setCell _ _ _)⟩
            subst e
            rename_i h
            exact h rfl
        case key =>
          intro D4 v4 W6 hD4 hv4 hI5
          obtain rfl := hv4 rfl
          have hb6 := HI4.out.below.trans hI5.below
          have c1 : W6.cell? ⟨w5.heap.size + 2, 0, none⟩ = some (.int .i64 0) := by have := hI5.cell; simpa using this
          obtain ⟨f1, f2, f5, f6, f7⟩ := cells hb6
          have HDF := Aside0.mk (show D3 < D4 by have := (Array.getElem?_eq_some_iff.1 (HI4.out.defs D3 List.mem_cons_self)).1; omega)
          have HDEF := Aside0.mk hI5.defs
          have HB6 := Aside0.mk hb6
          clear hI5 HI4 hD4 hb6
          gi_wp2
          obtain ⟨z1, z5⟩ := HZ.out
          have hd1 := HD1.out
          have hd2 := HDD.out
          have hd3 := HDE.out
          have hd4 := HDF.out
          refine leave_marks (a := ⟨w.heap.size + 1, 0, none⟩) (v := .bool true) (B := w.heap.size) (w0 := w) ?hres (fun W' hb => ⟨rfl, hb⟩) [D4, D3, D2, D1] _ ?nd ?hD (World.cell?_setCell_same' _ _ _ (by rw [f6]; rfl)) ((HBW.out.trans (HB6.out.mono (by omega))).setCell (p := ⟨w.heap.size + 1, 0, none⟩) (by show w.heap.size ≤ w.heap.size + 1; omega) _)
          case hres =>
            intro W hc
            simp [results, Tryd.results3, go_sem, hc]
          case nd => simp; omega
          case hD =>
            intro D hD
            have h := (KeepsOthers.setCell W6 ⟨w.heap.size + 1, 0, none⟩ (.bool true)).same D _ (HDEF.out D hD) rfl
            have hge : W.heap.size ≤ D := by
              simp only [List.mem_cons, List.not_mem_nil, or_false] at hD
              omega
            exact ⟨h, by omega, by show w.heap.size + 1 ≠ D; omega⟩

end Go.Proofs.YtaipokmbgcmciaaDoor.Q
