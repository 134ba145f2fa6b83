/- The law's plain side (SetsPicksW): what the printed functions come to; each theorem states its own conditions. -/
import Derived.Test.YtoggmegpodmfnaaDoorPVx0
import Derived.Test.YtoggmegpodmfnaaDoorPVx3
import Derived.Test.YtoggmegpodmfnaaDoorPVx4
import Derived.Test.YtoggmegpodmfnaaDoorBSetsBand
import Derived.Test.YtoggmegpodmfnaaDoorBGlobSets
import Derived.Test.YtoggmegpodmfnaaDoorBSortK
import Derived.Test.YtoggmegpodmfnaaDoorQSetsRef
import Derived.Test.YtoggmegpodmfnaaDoorQSetsRef2
import Derived.Test.YtoggmegpodmfnaaDoorQSetsRef3
import Derived.Test.YtoggmegpodmfnaaDoorQSetsSize
import Derived.Test.YtoggmegpodmfnaaDoorQSetsPicksP
import Derived.Test.YtoggmegpodmfnaaDoorQSetsPicksA
import Derived.Test.YtoggmegpodmfnaaDoorQSetsPicksL
import Derived.RangeFuncNested
import Derived.RangeFuncBound
import Derived.RangeFuncCalls
import Derived.RangeFuncLeaves
import Derived.RangeFuncFrom
import Derived.Shelf.Abstract
import Derived.Shelf.RegionOpen
import Derived.OwnWalkIn
import Derived.TacticsInMore
import Derived.LoopNIn
import Derived.LoopIn
import Derived.OneCell
import Derived.Deep.QuietTactic
import Derived.BigQuiet
import Derived.Deep.RegionHeld3
namespace Go.Proofs.YtoggmegpodmfnaaDoor.Q
open Go.RowKit Go.Proofs.YtoggmegpodmfnaaDoorW.PrintWords Go.Proofs.YtoggmegpodmfnaaDoorW.PrintLast Go.Proofs.YtoggmegpodmfnaaDoorW.PrintMore Go.Proofs.YtoggmegpodmfnaaDoor.PV Go.Proofs.YtoggmegpodmfnaaDoor.B
set_option linter.unusedVariables false
set_option linter.unusedSimpArgs false
open Go.Shelf
attribute [local go_sem] Oper.semAt_some
theorem func_nil (w : World) (f : Fn) (a b : Array Value) : (binOp .eql 45 (.func f a b) .nilFunc).run Tryd.prog w = .ok (.bool false) w := by
  have h : ∀ d, (Op.equalIn (d + 1) 45 (.func f a b) .nilFunc).run Tryd.prog w = .ok false w := fun d => by simp [Op.equalIn, run_underlying Tryd.underlying45]
  simp only [binOp]
  simp [Op.equal, Op.maxDepth, h 9999]
theorem blk2 (w : World) (x y : Value) (t u : TypeId) : ((w.alloc (.cells #[x] t)).alloc (.cells #[y] u)).heap[w.heap.size]? = some (.cells #[x] t (0, 0)) ∧ ((w.alloc (.cells #[x] t)).alloc (.cells #[y] u)).heap[w.heap.size + 1]? = some (.cells #[y] u (0, 0)) := by
  have h1 := World.alloc_heap_new w (.cells #[x] t)
  have h2 := World.alloc_heap_new (w.alloc (.cells #[x] t)) (.cells #[y] u)
  rw [World.size_alloc] at h2
  exact ⟨(Below.heap_alloc _ _ _ (by simp)).trans h1, h2⟩
theorem blk_on {W W' : World} {b : Nat} {o : Obj} (h : W.heap[b]? = some o) (hb : Below W.heap.size W W') : W'.heap[b]? = some o := (hb.block b (lt_of_block h)).trans h
theorem set_same {W : World} {b : Nat} {v u : Value} {t : TypeId} (h : W.heap[b]? = some (.cells #[v] t (0, 0))) : (W.setCell ⟨b, 0, none⟩ u).cell? ⟨b, 0, none⟩ = some u := cell_of_one (one_setCell h)
set_option maxHeartbeats 4000000 in
set_option maxRecDepth 100000 in
theorem picks_no (A0 : Option Addr) (c0 : Nat) (l0 : List Rg) (v1 : Value) (stop : Int) (hl : l0.length ≤ 1048576) (hup : allUp l0 = false) (w : World) (hr0 : Kd.C k29 w A0 l0.length l0) (hc0 : l0.length ≤ c0) (hG : Glob w) :
    Calls Tryd.prog 4 #[.slice A0 l0.length c0, v1, .int .i64 stop] w fun e w' => e = .returned (.bool true) ∧ Below w.heap.size w w' := by
  refine (callsIn_wide (n := 5)).1 ?_
  obtain ⟨Kw, hkw⟩ := wakes_is
  have hw := hkw Kw (Nat.le_refl _)
  obtain ⟨Km, hkm⟩ := make_no l0 (by omega) hup
  have hm := hkm Km (Nat.le_refl _)
  have HW := Aside0.mk hw
  have HM := Aside0.mk hm
  have HR0 := Aside0.mk hr0
  have HG := Aside0.mk hG
  clear hw hm hkw hkm hr0 hG hup hl
  refine callsIn_of_wp_marks Tryd.func4 rfl trivial ?_ rfl
  refine wpIn_wide.2 ?_
  simp only [Tryd.ntmps4, List.size_toArray, List.length_cons, List.length_nil, Nat.reduceAdd, Nat.reduceSub, Array.replicate_succ, Array.replicate_zero, List.push_toArray, List.append_toArray, List.nil_append, List.cons_append]
  have b0 := below_alloc (below_alloc (Below.refl _ w) (.cells #[.int .i64 stop] 3)) (.cells #[.bool false] 4)
  have B0 := Aside0.mk b0
  have HBX := Aside0.mk (blk2 w (.int .i64 stop) (.bool false) 3 4)
  clear b0
  go_wp2_with (first
    | (go_at_call 8; (with_reducible refine (thistlelaw02_wakes.calls Kw true _ (HG.out.of_below B0.out) HW.out).mono ?_); rintro e w1 ⟨rfl, hb1⟩; have B1 := Aside0.mk (below_step B0.out hb1); have HX1 := Aside0.mk (blk_on HBX.out.1 hb1); have HY1 := Aside0.mk (blk_on HBX.out.2 hb1); clear hb1)
    | (go_at_call 9; (with_reducible refine (sets_Make.calls Km _ _ l0 [] 2 _ (Kd.C_below HR0.out B1.out) hc0 (HG.out.of_below B1.out) HM.out).mono ?_); rintro e w2 ⟨v2, rfl, hR2, hb2⟩; have B2 := Aside0.mk (below_step B1.out hb2); obtain ⟨A2, c2, rfl, _, _⟩ := Kd.R_reads hR2; have hcx := cell_of_one (blk_on HY1.out hb2); have hfx := free_of_one (blk_on HY1.out hb2); have hlt2 := lt_of_block (blk_on HY1.out hb2); have HY2 := Aside0.mk (blk_on HY1.out hb2); clear hb2 hR2))
  refine leave_marks (a := ⟨w.heap.size + 1, 0, none⟩) (v := .bool true) (B := w.heap.size) (w0 := w) ?hres (fun W' hb => ⟨rfl, hb⟩) [] _ (by simp) (by simp) ?hc ?hb
  case hres =>
    intro W hc
    simp [results, Tryd.results4, go_sem, hc]
  case hc => exact cell_of_one (blk_on (one_setCell HY2.out) (below_alloc (Below.refl _ _) _))
  case hb => exact below_alloc (B2.out.setCell (p := ⟨w.heap.size + 1, 0, none⟩) (by show w.heap.size ≤ w.heap.size + 1; omega) _) _
theorem info_i32 : (Tryd.prog.info? 21).map (fun i => (i.zero, i.size, i.bytes)) = some (some (.int .i32 0), 1, 4) := by kernel_rfl
theorem wrap_add1 {i n : Nat} (h : i < n) (hn : n ≤ 1048576) : wrap64 ((i : Int) + 1) = (i : Int) + 1 := by unfold wrap64; omega
theorem meas_up {n i : Nat} {j : Int} (h : i < n) (hj : j = (i : Int) + 1) : n - (intOf (.int .i64 j)).toNat < n - (intOf (.int .i64 (i : Int))).toNat := by subst hj; simp [intOf]; omega
theorem wrap_small {i n : Nat} (h : i < n) (hn : n ≤ 1114368) : wrap64 ((i : Int) + 1) = (i : Int) + 1 := by unfold wrap64; omega
theorem lt_M {i n M : Nat} (h : i < n) (hM : M = n + 40) : (i : Int) < (M : Int) := by omega
theorem cells77 : (Value.agg #[.int .i32 7, .int .i32 7]).cells.toList = [.int .i32 7, .int .i32 7] := by simp [Value.cells]
theorem one77 : ∀ q ∈ [Value.int .i32 7, Value.int .i32 7], q.oneCell' = true := by simp [Value.oneCell']
theorem rangeSize : (Tryd.prog.info? 29).map (·.size) = some 2 := by kernel_rfl
theorem full_put (c : List Value) (hc : c.length = 2) (W : World) (base : Nat) (ok : Nat → Prop) (x : Rg) : k29.M W base ok x (c.take 0 ++ [.int .i32 x.f0, .int .i32 x.f1] ++ c.drop (0 + 2)) := by
  have : c.drop (0 + 2) = [] := List.drop_eq_nil_of_le (by omega)
  rw [this]
  simpa using k29_mkM W base ok x
theorem pick_call {s : List Rg} {K : Nat} {kk r1 r2 : Int} {As : Option Addr} {cs b : Nat} {v x : Value} {a : Addr} {w0 : World} (h : sets_Pick.f K s kk = some (r1, r2)) (hC : Kd.C k29 w0 As s.length s) (hcs : s.length ≤ cs) (hG : Glob w0) (w' : World)
    (hS : w'.cell? ⟨b, 0, none⟩ = some v ∧ w'.cell? a = some x ∧ Below w0.heap.size w0 w') :
    Calls Tryd.prog 21 #[.slice As s.length cs, .int .i64 kk] w' fun e w2 => e = .returned (.tuple #[.int .i32 r1, .int .i64 r2]) ∧ w2.cell? ⟨b, 0, none⟩ = some v ∧ w2.cell? a = some x ∧ Below w0.heap.size w0 w2 :=
  (sets_Pick.calls K As cs s kk r1 r2 w' (Kd.C_below hC hS.2.2) hcs (hG.of_below hS.2.2) h).mono fun e w2 ⟨he, hb⟩ => ⟨he, pw_cell_below hb hS.1, pw_cell_below hb hS.2.1, below_step hS.2.2 hb⟩
set_option maxHeartbeats 8000000 in
set_option maxRecDepth 100000 in
theorem picks_yes (A0 : Option Addr) (c0 : Nat) (l0 : List Rg) (A1 : Option Addr) (c1 : Nat) (ks : List Int) (stop : Int) (hl : l0.length ≤ 1048576) (hl1 : ks.length ≤ 1048576) (hup : allUp l0 = true) (hw1 : ∀ n ∈ ks, n ≤ 9223372036854775807) (w : World)
    (hr0 : Kd.C k29 w A0 l0.length l0) (hc0 : l0.length ≤ c0) (hr1 : Kd.C (Kd.int .i64) w A1 ks.length ks) (hc1 : ks.length ≤ c1) (hG : Glob w) :
    Calls Tryd.prog 4 #[.slice A0 l0.length c0, .slice A1 ks.length c1, .int .i64 stop] w fun e w' => e = .returned (.bool true) ∧ Below w.heap.size w w' := by
  refine (callsIn_wide (n := 5)).1 ?_
  obtain ⟨Kw, hkw⟩ := wakes_is
  have hw := hkw Kw (Nat.le_refl _)
  obtain ⟨s, ⟨Km, hkm⟩, hs, _, _⟩ := make_is l0 (by omega) hup
  have hm := hkm Km (Nat.le_refl _)
  obtain ⟨Kz, hkz⟩ := size_is s hs
  have hz := hkz Kz (Nat.le_refl _)
  have hsl := sound_len hs
  have HW := Aside0.mk hw
  have HM := Aside0.mk hm
  have HZ := Aside0.mk hz
  have HR0 := Aside0.mk hr0
  have HR1 := Aside0.mk hr1
  have HG := Aside0.mk hG
  have HS := Aside0.mk hs
  have HSL := Aside0.mk hsl
  have HW1 := Aside0.mk hw1
  have HK1 := Aside0.mk hl1
  clear hw hm hz hkw hkm hkz hr0 hr1 hG hup hl hl1 hs hsl hw1
  refine callsIn_of_wp_marks Tryd.func4 rfl trivial ?_ rfl
  refine wpIn_wide.2 ?_
  simp only [Tryd.ntmps4, List.size_toArray, List.length_cons, List.length_nil, Nat.reduceAdd, Nat.reduceSub, Array.replicate_succ, Array.replicate_zero, List.push_toArray, List.append_toArray, List.nil_append, List.cons_append]
  have b0 := below_alloc (below_alloc (Below.refl _ w) (.cells #[.int .i64 stop] 3)) (.cells #[.bool false] 4)
  have B0 := Aside0.mk b0
  have HBX := Aside0.mk (blk2 w (.int .i64 stop) (.bool false) 3 4)
  have hfn := func_nil
  clear b0
  go_wp2_with (first
    | (go_at_call 8; (with_reducible refine (thistlelaw02_wakes.calls Kw true _ (HG.out.of_below B0.out) HW.out).mono ?_); rintro e w1 ⟨rfl, hb1⟩; have B1 := Aside0.mk (below_step B0.out hb1); have HX1 := Aside0.mk (blk_on HBX.out.1 hb1); have HY1 := Aside0.mk (blk_on HBX.out.2 hb1); clear hb1)
    | (go_at_call 9; (with_reducible refine (sets_Make.calls Km _ _ l0 s 0 _ (Kd.C_below HR0.out B1.out) hc0 (HG.out.of_below B1.out) HM.out).mono ?_); rintro e w2 ⟨v2, rfl, hR2, hb2⟩; have B2 := Aside0.mk (below_step B1.out hb2); have HX2 := Aside0.mk (blk_on HX1.out hb2); have HY2 := Aside0.mk (blk_on HY1.out hb2); obtain ⟨As, cs, rfl, hcs, hCs⟩ := Kd.R_reads hR2; have HCS := Aside0.mk hCs; clear hb2 hR2 hCs)
    | (go_at_call 18; (with_reducible refine (sets_Size.calls Kz As cs s (sz s) 0 _ (Kd.C_alloc HCS.out _) hcs ((HG.out.of_below B2.out).alloc _) HZ.out).mono ?_); rintro e w3 ⟨rfl, hb3⟩; have B3 := Aside0.mk (below_step (below_alloc B2.out (.cells #[.slice As s.length cs] 22)) hb3); have HX3 := Aside0.mk (blk_on (blk_on HX2.out (below_alloc (Below.refl _ _) (.cells #[.slice As s.length cs] 22))) hb3); have HY3 := Aside0.mk (blk_on (blk_on HY2.out (below_alloc (Below.refl _ _) (.cells #[.slice As s.length cs] 22))) hb3); have HT3 := Aside0.mk (blk_on (World.alloc_heap_new w2 (.cells #[.slice As s.length cs] 22)) hb3); have HCS3 := Aside0.mk (Kd.C_below (Kd.C_alloc HCS.out (.cells #[.slice As s.length cs] 22)) hb3); clear hb3; have hct3 := cell_of_one HT3.out; have hlt3 := lt_of_block HT3.out)
    | (go_at_call 19; (with_reducible refine (roomy_calls As cs s _ HSL.out (Kd.C_alloc HCS3.out _) hcs).mono ?_); rintro e w4 ⟨v4, rfl, hR4, hb4⟩; have k3 := below_alloc (Below.refl _ w3) (.cells #[.int .i64 (sz s)] 3); have B4 := Aside0.mk (below_step (below_alloc B3.out (.cells #[.int .i64 (sz s)] 3)) hb4); have HX4 := Aside0.mk (blk_on (blk_on HX3.out k3) hb4); have HY4 := Aside0.mk (blk_on (blk_on HY3.out k3) hb4); have HT4 := Aside0.mk (blk_on (blk_on HT3.out k3) hb4); have HN4 := Aside0.mk (blk_on (World.alloc_heap_new w3 (.cells #[.int .i64 (sz s)] 3)) hb4); have HB34 := Aside0.mk (below_step (below_alloc (Below.refl w3.heap.size w3) (.cells #[.int .i64 (sz s)] 3)) hb4); have HCS4 := Aside0.mk (Kd.C_below (Kd.C_alloc HCS3.out (.cells #[.int .i64 (sz s)] 3)) hb4); clear k3 hb4 hct3 hlt3; obtain ⟨Af, cf, e4, hcf, hCf⟩ := Kd.R_reads hR4; rw [List.length_append, marks_len] at e4; obtain ⟨M, hMM⟩ : ∃ M, M = s.length + 40 := ⟨_, rfl⟩; rw [← hMM] at e4; have HMM := Aside0.mk hMM; clear hMM; subst e4; have hCk := Kd.C_take hCf (m := s.length) (by rw [List.length_append]; omega); rw [List.take_left] at hCk; have HRF := Aside0.mk hR4; have HCF := Aside0.mk hCk; have hct4 := cell_of_one HT4.out; have hcf2 : s.length ≤ cf := (by rw [List.length_append] at hcf; omega); clear hR4 hCf hCk hcf)
    | (go_at_call 20; (with_reducible refine (each_calls Af cf s _ HS.out HCF.out hcf2 (HG.out.of_below B4.out)).mono ?_); rintro e w5 ⟨Bn, v5, rfl, hBn, hc5, hR5, hb5⟩; have B5 := Aside0.mk (below_step B4.out hb5); have HX5 := Aside0.mk (blk_on HX4.out hb5); have HY5 := Aside0.mk (blk_on HY4.out hb5); have HT5 := Aside0.mk (blk_on HT4.out hb5); have HN5 := Aside0.mk (blk_on HN4.out hb5); have HCS5 := Aside0.mk (Kd.C_below HCS4.out hb5); have HRF5 := Aside0.mk (Kd.R_below HRF.out hb5); have HO5 := Aside0.mk hR5; have HB5 := Aside0.mk hb5; have HBN := Aside0.mk hBn; have HC5 := Aside0.mk hc5; clear hb5 hR5 hBn hc5 hct4))
  obtain ⟨gf, cf', e4, hgb, hglt, _⟩ := Kd.R_form HRF.out (by rw [List.length_append, marks_len]; omega)
  injection e4 with e4a e4b e4c
  clear e4b
  obtain ⟨ad, had⟩ : ∃ ad : Addr, ad = ⟨gf, 0, none⟩ := ⟨_, rfl⟩
  rw [← had] at e4a
  have HAD := Aside0.mk had
  clear had
  subst e4a e4c
  simp only [World.size_alloc] at hgb HRF5
  have hz23 := Aside0.mk (show w2.heap.size < w3.heap.size ∧ w3.heap.size < w4.heap.size ∧ w4.heap.size ≤ w5.heap.size ∧ w.heap.size + 1 < w3.heap.size from ⟨lt_of_block HT3.out, lt_of_block HN4.out, HB5.out.size, lt_of_block HY3.out⟩)
  have HGF := Aside0.mk (And.intro hgb hglt)
  clear hgb hglt hcf2
  go_loopw [12] (fun vi wr => ∃ i : Nat, vi = .int .i64 (i : Int) ∧ i ≤ s.length ∧ Aside0 (∃ fl : List Rg, fl.length = s.length + 40 ∧ Kd.R k29 29 wr (w3.heap.size + 1) (fun _ => True) (.slice (some ad) M cf) fl) ∧ Aside0 (Below (w3.heap.size + 1) w5 wr) ∧ Aside0 (Kept w5 wr (fun k => k = gf))) (fun vi _ => s.length - (intOf vi).toNat)
  case atStart => exact ⟨0, rfl, by omega, ⟨_, by rw [List.length_append, marks_len], HRF5.out⟩, ⟨Below.refl _ _⟩, ⟨Kept.refl _ _⟩⟩
  case round =>
    obtain ⟨i, rfl, hi, HFL, HBR, HKR⟩ := hrel
    have hz := hz23.out
    have hct := cell_of_one ((HBR.out.block w2.heap.size (by omega)).trans HT5.out)
    by_cases hlt : i < s.length
    · have hd1 : decide (i < s.length) = true := decide_eq_true hlt
      have hww := wrap_small hlt HSL.out
      have hp := eq_true (Int.natCast_nonneg i)
      have hq := eq_true (lt_M hlt HMM.out)
      obtain ⟨fl, hfl, hR⟩ := HFL.out
      rw [HAD.out] at hR
      have HR := Aside0.mk hR
      have HFLL := Aside0.mk hfl
      have HLT := Aside0.mk hlt
      clear hR hfl hlt hi hz
      obtain ⟨c, hcl, hcM, hcc, _⟩ := Kd.R_elem HR.out z29 (i : Int) (Int.natCast_nonneg i) (lt_M HLT.out HMM.out)
      have HCL := Aside0.mk hcl
      have HCC := Aside0.mk hcc
      clear hcl hcM hcc
      go_wp2_with (((with_reducible refine gate_store (p := 56) rfl ?_); (refine Kd.R_store k29 (w0 := wr) (w3.heap.size + 1) rfl rfl 29 (.tmp 56) (.tmp 55) rfl 29 (i : Int) 0 fl (⟨7, 7⟩ : Rg) (.agg #[.int .i32 7, .int .i32 7]) [.int .i32 7, .int .i32 7] c (fun _ => True) (fun _ => False) (o' := i * 2) (by show Value.pointer (some (ad.add (i * 2))) = _; rw [HAD.out, add_plain]) (by rw [Int.toNat_natCast]; rfl) rfl cells77 rangeSize one77 HR.out (Int.natCast_nonneg i) (lt_M HLT.out HMM.out) HCL.out HCC.out (by decide) (full_put c HCL.out _ _ _ (⟨7, 7⟩ : Rg)) (fun _ hk => hk.elim) (Below.refl _ _) ?_); intro w6 hR6 hB6 hg6; have HR6 := Aside0.mk hR6; have HB6 := Aside0.mk (HBR.out.trans hB6); have HK6 := Aside0.mk (Kept.of_grown hg6 HKR.out (fun k hk => .inl (by injection hk with hk; exact hk.symm))); clear hR6 hB6 hg6))
      go_roundw
      case rel => exact ⟨i + 1, by rw [hww]; rfl, HLT.out, ⟨_, (List.length_set ..).trans HFLL.out, by rw [HAD.out]; exact HR6.out⟩, HB6, HK6⟩
      case measure => exact meas_up HLT.out hww
    · have hd1 : decide (i < s.length) = false := decide_eq_false hlt
      clear hlt hi HFL
      go_wp2
      clear hct hd1 hz hfn
      have hz := hz23.out
      have hgf := HGF.out
      have hXr := (HBR.out.block w.heap.size (by omega)).trans HX5.out
      have hYr := (HBR.out.block (w.heap.size + 1) (by omega)).trans HY5.out
      have hTr := (HBR.out.block w2.heap.size (by omega)).trans HT5.out
      have hNr := (HBR.out.block w3.heap.size (by omega)).trans HN5.out
      have hbnlt := lt_of_block HC5.out
      have hBr := (HKR.out.2 Bn hbnlt (by have := HBN.out; omega)).trans HC5.out
      obtain ⟨Ao, co, rfl, hco, _⟩ := Kd.R_reads HO5.out
      have hOr : Kd.R k29 29 wr w4.heap.size (fun _ => True) (.slice Ao s.length co) s := Kd.R_mono (Kd.R_step (Kd.R_bound HO5.out) (fun k hk hlt => HKR.out.2 k hlt (by have := hk.2.1; omega))) (fun _ _ => trivial)
      have hCo := (Kd.R_reads' hOr).2.2
      have hB3r : Below w3.heap.size w3 wr := (below_then HB34.out (by omega) HB5.out).trans (HBR.out.mono (by omega))
      have hCSr := Kd.C_below HCS3.out hB3r
      have hBwr : Below w.heap.size w wr := B5.out.trans (HBR.out.mono (by omega))
      have hC1r := Kd.C_below HR1.out hBwr
      have hGr := HG.out.of_below hBwr
      have hszr := HKR.out.1
      have hlts := And.intro (lt_of_block hTr) (And.intro (lt_of_block hNr) (And.intro (lt_of_block hYr) (lt_of_block hBr)))
      have HZ1 := Aside0.mk hlts
      have HXr := Aside0.mk hXr
      have HYr := Aside0.mk hYr
      have HTr := Aside0.mk hTr
      have HNr := Aside0.mk hNr
      have HBr := Aside0.mk hBr
      have HCo := Aside0.mk hCo
      have HCSr := Aside0.mk hCSr
      have HBwr := Aside0.mk hBwr
      have HC1r := Aside0.mk hC1r
      have HGr := Aside0.mk hGr
      have HZ0 := Aside0.mk hz
      clear hz hgf hXr hYr hTr hNr hbnlt hBr hOr hCo hB3r hCSr hBwr hC1r hGr hszr hlts
      obtain ⟨wU, hwU⟩ : ∃ wU, wU = wr.alloc (.cells #[.slice none 0 0] 23) := ⟨_, rfl⟩
      have hbU : wU.heap[wr.heap.size]? = some (.cells #[.slice none 0 0] 23 (0, 0)) := by rw [hwU]; exact World.alloc_heap_new _ _
      have hBU : Below wr.heap.size wr wU := by rw [hwU]; exact below_alloc (Below.refl _ _) _
      have hsU : wU.heap.size = wr.heap.size + 1 := by rw [hwU]; simp
      rw [← hwU]
      have HBU := Aside0.mk hBU
      have HSU := Aside0.mk hsU
      clear hwU hBU hsU
      refine (wpIn_wide (n := 5)).1 ?_
      refine each_loop (n := 5) wr.heap.size 0 (units s) (fun pre W => ∃ v, Us wr.heap.size [] wU W v pre) (fun _ _ => False) (by omega) (gf := 39) (lb := #[.pointer (some ⟨Bn, 0, none⟩)]) rfl (enters_of Tryd.func39 (by kernel_rfl) rfl)
        (each_seq s HS.out _ Bn wr.heap.size Ao co (by omega) HZ1.out.2.2.2 wU wr (by rw [HSU.out]; omega) (Nat.le_refl _) HBU.out HCo.out (cell_of_one (blk_on HBr.out HBU.out))) rfl (by rw [HSU.out]; omega)
        (fun pre A B row ⟨v, h⟩ hg hr => ⟨v, h.grown (by rw [HSU.out]; omega) (fun D hD => by cases hD) hg hr⟩) (fun _ _ _ _ h _ _ => h)
        ⟨_, hbU, own_nil _ _ _ _, Below.refl _ _, fun D hD => by cases hD⟩ 58 14 ?assign ?body ?exit ?key
      case assign =>
        intro l x W K hK
        simp [inRd] at hK
        gi_wp2
        exact hK
      case exit => exact fun ⟨_, _, h⟩ => h.elim
      case body =>
        rintro l pre x W ⟨v, hU⟩ hlen
        obtain ⟨Au, cu, rfl, hrd⟩ := own_reads hU.own
        have hz1 := HZ1.out
        have hsz := hU.below.size
        have cb : ∀ {b : Nat} {o : Obj}, wr.heap[b]? = some o → W.heap[b]? = some o := fun h => (hU.below.block _ (lt_of_block h)).trans (blk_on h HBU.out)
        have hbW : Below wr.heap.size wr W := HBU.out.trans hU.below
        obtain ⟨Kx, hkx⟩ := within_is s (wrap64 x) (Nat.le_trans HSL.out (by decide)) HS.out.r32
        have hk := hkx Kx (Nat.le_refl _)
        have hT := cb HTr.out
        have hY := cb HYr.out
        have hN := cb HNr.out
        have cT := cell_of_one hT
        have cu0 := cell_of_one hU.box
        have HU := Aside0.mk hU
        have HRD := Aside0.mk hrd
        have HK := Aside0.mk hk
        have HT := Aside0.mk hT
        have HY := Aside0.mk hY
        have HN := Aside0.mk hN
        have HCW := Aside0.mk (Kd.C_below HCSr.out hbW)
        have hnx := fun h => units_next HS.out (pre := pre) (x := x) h
        have HNX := Aside0.mk hnx
        clear hU hrd hkx hk hT hY hN cb hbW hnx hsz
        cases hb : mem s (wrap64 x) with
        | false =>
          rw [hb] at HK
          simp [inRd]
          have cY := cell_of_one HY.out
          have fY := free_of_one HY.out
          gi_wp2_with (refine ⟨trivial, ?_⟩; gi_at_call 16; refine (CallsIn.inRound l (callsIn_wide.2 (thistlelaw02_within.calls Kx As cs s (wrap64 x) false _ HCW.out hcs HK.out))).mono ?_; rintro e w6 ⟨rfl, ⟨nd, rfl⟩⟩)
          all_goals first
            | exact ret_post (pw_below_drewN (Below.refl _ _) nd) (fun h => by have := (HNX.out h).1; rw [hb] at this; cases this)
            | (rename_i h1 h2; exact absurd h1 (by simp [undef]))
        | true =>
          rw [hb] at HK
          obtain ⟨i0, hi, hzz⟩ := Option.map_eq_some_iff.1 info_i32
          simp only [Prod.mk.injEq] at hzz
          have HI := Aside0.mk (show Tryd.prog.info? 21 = some i0 ∧ i0.zero = some (.int .i32 0) ∧ i0.size = 1 ∧ i0.bytes = 4 from ⟨hi, hzz⟩)
          have HLE := Aside0.mk (pre_bound HS.out hlen)
          clear hi hzz
          have cN := cell_of_one HN.out
          have cY := cell_of_one HY.out
          have fY := free_of_one HY.out
          have fu0 := free_of_one HU.out.box
          by_cases hp : pre.length = 0
          · have hd0 : decide (0 < pre.length) = false := decide_eq_false (by omega)
            have HP := Aside0.mk hp
            clear hp
            simp [inRd]
            gi_wp2_with (first
              | (refine ⟨trivial, ?_⟩; gi_at_call 16; refine (CallsIn.inRound l (callsIn_wide.2 (thistlelaw02_within.calls Kx As cs s (wrap64 x) true _ HCW.out hcs HK.out))).mono ?_; rintro e w6 ⟨rfl, ⟨nd, rfl⟩⟩; have HBD := Aside0.mk (pw_below_drewN (Below.refl W.heap.size W) nd))
              | (gi_at_builtin; refine wpListIn_append_own _ rfl (.tmp 85) (.tmp 87) 23 rfl (wr.heap.size + 1) 21 i0 (.int .i32 0) 1 4 Tryd.underlying23 HI.out.1 HI.out.2.1 HI.out.2.2.1 HI.out.2.2.2 rfl (by decide) (.slice Au pre.length cu) pre.length (nums .i32 pre) rfl (((HU.out.on HBD.out).own).alloc _) ⟨W.heap.size, 0, none⟩ 1 1 [.int .i32 x] rfl rfl ?_ ?_ ?_ ?_ ?_ ?_; exact World.news_of_block (cs := #[.int .i32 x]) (t := 21) (fr := (0, 0)) (heap_alloc_new (W.drewN nd) _); simp [Value.oneCell']; exact le_max_len HLE.out; exact le_bytes HLE.out; exact us_room HU.out nd _; intro v7 w7 ho7 hg7 _; obtain ⟨A7, c7_, rfl⟩ := own_form_p ho7; have HO7 := Aside0.mk ho7; have HG7 := Aside0.mk hg7; clear ho7 hg7; have hb7 := (HU.out.on HBD.out).box7 HG7.out; have c7 := cell_of_one hb7; have f7 := free_of_one hb7; clear hb7))
            · exact ret_post (pw_below_drewN (Below.refl _ _) nd) (fun h => by have := (HNX.out h).2.2; omega)
            · exact step_post HBD.out HU.out (HU.out.on HBD.out) HO7.out HG7.out
          · obtain ⟨m, hm⟩ : ∃ m, pre.length = m + 1 := ⟨pre.length - 1, by omega⟩
            obtain ⟨au, rfl, hcu⟩ := HRD.out.at_ (m : Int) (Int.natCast_nonneg m) (by omega)
            have hd0 : decide (0 < pre.length) = true := decide_eq_true (by omega)
            have hqi := last_wrap hm (Nat.le_of_succ_le HLE.out)
            have hp0 := eq_true (Int.natCast_nonneg m)
            have hp1 := eq_true (show (m : Int) < (pre.length : Int) by omega)
            rw [Int.toNat_natCast] at hcu
            have HMM2 := Aside0.mk hm
            clear hp hm
            simp [inRd]
            gi_wp2_with (first
              | (refine ⟨trivial, ?_⟩; gi_at_call 16; refine (CallsIn.inRound l (callsIn_wide.2 (thistlelaw02_within.calls Kx As cs s (wrap64 x) true _ HCW.out hcs HK.out))).mono ?_; rintro e w6 ⟨rfl, ⟨nd, rfl⟩⟩; have HBD := Aside0.mk (pw_below_drewN (Below.refl W.heap.size W) nd))
              | (gi_at_builtin; refine wpListIn_append_own _ rfl (.tmp 85) (.tmp 87) 23 rfl (wr.heap.size + 1) 21 i0 (.int .i32 0) 1 4 Tryd.underlying23 HI.out.1 HI.out.2.1 HI.out.2.2.1 HI.out.2.2.2 rfl (by decide) (.slice (some au) pre.length cu) pre.length (nums .i32 pre) rfl (((HU.out.on HBD.out).own).alloc _) ⟨W.heap.size, 0, none⟩ 1 1 [.int .i32 x] rfl rfl ?_ ?_ ?_ ?_ ?_ ?_; exact World.news_of_block (cs := #[.int .i32 x]) (t := 21) (fr := (0, 0)) (heap_alloc_new (W.drewN nd) _); simp [Value.oneCell']; exact le_max_len HLE.out; exact le_bytes HLE.out; exact us_room HU.out nd _; intro v7 w7 ho7 hg7 _; obtain ⟨A7, c7_, rfl⟩ := own_form_p ho7; have HO7 := Aside0.mk ho7; have HG7 := Aside0.mk hg7; clear ho7 hg7; have hb7 := (HU.out.on HBD.out).box7 HG7.out; have c7 := cell_of_one hb7; have f7 := free_of_one hb7; clear hb7))
            all_goals first
              | exact ret_post (pw_below_drewN (Below.refl _ _) nd) (fun h => by have := (HNX.out h).2.1 m HMM2.out; omega)
              | exact ret_post (pw_below_drewN (Below.refl _ _) nd) (fun h => by have := (HNX.out h).2.2; omega)
              | exact step_post HBD.out HU.out (HU.out.on HBD.out) HO7.out HG7.out
      case key =>
        rintro D1 W1 hD1 (⟨v, hU⟩ | ⟨_, hx⟩) hd1
        · obtain ⟨Au, cu, rfl, hrd⟩ := own_reads hU.own
          have hne : (((units s).length : Int) != sz s) = false := by rw [units_len s HS.out]; exact ne_self _
          have cb : ∀ {b : Nat} {o : Obj}, wr.heap[b]? = some o → W1.heap[b]? = some o := fun h => (hU.below.block _ (lt_of_block h)).trans (blk_on h HBU.out)
          have cu0 := cell_of_one hU.box
          have cN := cell_of_one (cb HNr.out)
          have HX1_ := Aside0.mk (cb HXr.out)
          have HY1_ := Aside0.mk (cb HYr.out)
          have HT1_ := Aside0.mk (cb HTr.out)
          have HN1_ := Aside0.mk (cb HNr.out)
          have HU1_ := Aside0.mk hU.box
          have HB1_ := Aside0.mk (cb HBr.out)
          have HBr1 := Aside0.mk (show Below wr.heap.size wr W1 from HBU.out.trans hU.below)
          have HRD := Aside0.mk hrd
          have HD1 := Aside0.mk hd1
          have HW1s := Aside0.mk (show wr.heap.size < W1.heap.size from lt_of_block hU.box)
          have HGE := Aside0.mk (show w.heap.size ≤ D1 by have := HSU.out; have := HZ1.out; omega)
          have HGE2 := Aside0.mk (show w.heap.size + 1 < D1 by have := HSU.out; have := HZ1.out; omega)
          clear hU hrd cb hd1 hD1
          gi_wp2
          go_wp2
          clear cu0 cN hne
          obtain ⟨wK, hwK⟩ : ∃ wK, wK = W1.alloc (.cells #[.int .i64 0] 3) := ⟨_, rfl⟩
          have hbK : wK.heap[W1.heap.size]? = some (.cells #[.int .i64 0] 3 (0, 0)) := by rw [hwK]; exact World.alloc_heap_new _ _
          have hBK : Below W1.heap.size W1 wK := by rw [hwK]; exact below_alloc (Below.refl _ _) _
          have hsK : wK.heap.size = W1.heap.size + 1 := by rw [hwK]; simp
          rw [← hwK]
          have HBK := Aside0.mk hBK
          have HSK := Aside0.mk hsK
          have HBKK := Aside0.mk hbK
          clear hwK hBK hsK hbK
          refine (wpIn_wide (n := 5)).1 ?_
          refine each_loop (n := 5) W1.heap.size 4 (units s) (KI (units s) W1.heap.size D1 wK) (KX stop W1.heap.size D1 wK) (by omega) (gf := 39) (lb := #[.pointer (some ⟨Bn, 0, none⟩)]) rfl (enters_of Tryd.func39 (by kernel_rfl) rfl)
            (each_seq s HS.out _ Bn W1.heap.size Ao co (by omega) (Nat.lt_trans HZ1.out.2.2.2 HW1s.out) wK wr (by rw [HSK.out]; omega) (Nat.le_of_lt HW1s.out) (below_step HBr1.out HBK.out) HCo.out (cell_of_one (blk_on HB1_.out HBK.out))) rfl (by rw [HSK.out]; omega)
            (fun pre A B row h hg hr => ⟨h.1, h.2.grown (by rw [HSK.out]; omega) (by rw [HSK.out]; exact Nat.lt_succ_of_lt (lt_of_block HD1.out)) hg hr⟩) (fun _ A B row h hg hr => h.grown (by rw [HSK.out]; omega) (by rw [HSK.out]; exact Nat.lt_succ_of_lt (lt_of_block HD1.out)) hg hr)
            ⟨List.nil_prefix, HBKK.out, Below.refl _ _, blk_on HD1.out HBK.out⟩ 94 16 ?assign ?body ?exit ?key
          case assign =>
            intro l x W K hK
            simp [inRd] at hK
            gi_wp2
            exact hK
          case exit => exact fun _ _ _ h => h
          case body =>
            intro l pre x W hI hlen
            obtain ⟨y, hy⟩ : ∃ y, (units s)[pre.length]? = some y := ⟨_, List.getElem?_eq_getElem hlen⟩
            have hbW : Below W1.heap.size W1 W := HBK.out.trans hI.2.below
            obtain ⟨au, rfl, hcu⟩ := (HRD.out.below hbW).at_ (pre.length : Int) (Int.natCast_nonneg _) (Int.ofNat_lt.2 hlen)
            rw [Int.toNat_natCast, rd_get hy] at hcu
            have cU := cell_of_one (blk_on HU1_.out hbW)
            have cN := cell_of_one (blk_on HN1_.out hbW)
            have cX := cell_of_one (blk_on HX1_.out hbW)
            have cY := cell_of_one (blk_on HY1_.out hbW)
            have fY := free_of_one (blk_on HY1_.out hbW)
            have cK := cell_of_one hI.2.box
            have fK := free_of_one hI.2.box
            have g1 := eq_true (Int.natCast_nonneg pre.length)
            have g2 := eq_true (Int.ofNat_lt.2 hlen)
            have g3 := lt_sz HS.out hlen
            have hww := wrap_small hlen (units_small HS.out)
            have hlx := lt_of_block (blk_on HX1_.out hbW)
            have hlw := lt_of_block HX1_.out
            have hlw2 := lt_of_block HY1_.out
            have HI_ := Aside0.mk hI
            have HYY := Aside0.mk hy
            clear hI hy hbW hlen
            simp [inRd]
            gi_wp2
            · rename_i h
              exact kret_post HYY.out (fun e => by rw [e] at h; simp at h)
            · rename_i h1 h2
              exact kexit_post HI_.out (by simpa using h2)
            · rename_i h1 h2
              exact knorm_post HI_.out HYY.out (by simpa using h1 : y = x).symm rfl
          case key =>
            intro D2 W2 hD2 hor hd2
            obtain ⟨v, hKb, hv⟩ : ∃ v, Kb W1.heap.size D1 wK W2 v ∧ (v = sz s ∨ v = stop) := by
              rcases hor with h | ⟨_, h⟩
              · exact ⟨_, h.2, .inl (units_len s HS.out)⟩
              · exact ⟨_, h, .inr rfl⟩
            have hbW : Below W1.heap.size W1 W2 := HBK.out.trans hKb.below
            have cN := cell_of_one (blk_on HN1_.out hbW)
            have cX := cell_of_one (blk_on HX1_.out hbW)
            have cK := cell_of_one hKb.box
            have HB2_ := Aside0.mk hbW
            have HX2_ := Aside0.mk (blk_on HX1_.out hbW)
            have HY2_ := Aside0.mk (blk_on HY1_.out hbW)
            have HT2_ := Aside0.mk (blk_on HT1_.out hbW)
            have HN2_ := Aside0.mk (blk_on HN1_.out hbW)
            have HU2_ := Aside0.mk (blk_on HU1_.out hbW)
            have HD1_ := Aside0.mk hKb.mark
            have HD2_ := Aside0.mk hd2
            have HDD := Aside0.mk (show D1 < D2 by have := lt_of_block HD1.out; have := HSK.out; omega)
            have HRD2 := Aside0.mk (HRD.out.below hbW)
            clear hor hKb hbW hd2 hD2
            by_cases hvn : v = sz s
            case' pos => have e1 : (v != sz s) = false := by rw [hvn]; exact ne_self _
            case' neg =>
              have e1 : (v != sz s) = true := bne_of_not hvn
              have e2 : (v != stop) = false := by rw [hv.resolve_left hvn]; exact ne_self _
            all_goals
              clear hv hvn
              gi_wp2
              go_wp2
              clear cN cX cK
              go_loopw [17] (fun vi wr' => ∃ i : Nat, vi = .int .i64 (i : Int) ∧ i ≤ ks.length ∧ Aside0 (Below W2.heap.size W2 wr')) (fun vi _ => ks.length - (intOf vi).toNat)
              case atStart => exact ⟨0, rfl, Nat.zero_le _, ⟨Below.refl _ _⟩⟩
              case round =>
                obtain ⟨i, rfl, hi, HBQ⟩ := hrel
                by_cases hlt : i < ks.length
                · have hbq := below_step (below_step HBr1.out HB2_.out) HBQ.out
                  obtain ⟨ak, ek, hck⟩ := Kd.at_int (Kd.C_below HC1r.out hbq) (i : Int) (Int.natCast_nonneg i) (Int.ofNat_lt.2 hlt)
                  cases ek
                  obtain ⟨kk, hkk⟩ : ∃ kk, kk = rd ks (i : Int) := ⟨_, rfl⟩
                  rw [← hkk, Int.toNat_natCast] at hck
                  have hkb : kk ≤ 9223372036854775807 := by rw [hkk]; exact HW1.out _ (rd_in hlt)
                  obtain ⟨Kp, r1, r2, hKp, hcase⟩ := pick_two HS.out hkb
                  have HCASE := Aside0.mk hcase
                  clear hcase
                  have HKP := Aside0.mk hKp
                  have HCQ := Aside0.mk (Kd.C_below HCSr.out hbq)
                  have HGQ := Aside0.mk (HGr.out.of_below hbq)
                  have cT := cell_of_one (blk_on HT2_.out HBQ.out)
                  have hd1 : decide (i < ks.length) = true := decide_eq_true hlt
                  have hp0 := eq_true (Int.natCast_nonneg i)
                  have hq0 := eq_true (Int.ofNat_lt.2 hlt)
                  have HLT := Aside0.mk hlt
                  clear hbq hkk hkb hKp hlt hi
                  go_wp2
                  go_region_held3 (fun w' => w'.cell? ⟨w2.heap.size, 0, none⟩ = some (.slice As s.length cs) ∧ w'.cell? (ak.add i) = some (.int .i64 kk) ∧ Below wr.heap.size wr w') (first | exact ⟨cT, hck, below_drew (Below.refl _ _)⟩ | assumption | go_keep) (first | (go_at_call 21; refine (pick_call HKP.out HCQ.out hcs HGQ.out _ (by assumption)).mono ?_; rintro e w7 ⟨rfl, hS7⟩))
                  have hb7 := below_step HBQ.out hS7.2.2
                  have hck7 := hS7.2.1
                  have cN7 := cell_of_one (blk_on HN2_.out hb7)
                  have cU7 := cell_of_one (blk_on HU2_.out hb7)
                  have HB7 := Aside0.mk hb7
                  have hww := wrap_add1 HLT.out HK1.out
                  clear hS7 hck cT hd1
                  rcases HCASE.out with ⟨k0, k1, rfl, rfl⟩ | ⟨hno, rfl, rfl⟩
                  · obtain ⟨au, eu, hcu⟩ := (HRD2.out.below hb7).at_ kk k0 (by rw [units_len s HS.out]; exact k1)
                    cases eu
                    have hpk := eq_true k0
                    have hqk := eq_true (show kk < ((units s).length : Int) by rw [units_len s HS.out]; exact k1)
                    have d1 : decide (kk < 0) = false := decide_eq_false (Int.not_lt.2 k0)
                    have d2 : decide (sz s ≤ kk) = false := decide_eq_false (Int.not_le.2 k1)
                    have d3 : decide (kk ≥ sz s) = false := decide_eq_false (Int.not_le.2 k1)
                    have hne2 := ne_self (rd (units s) kk)
                    clear hb7 k0 k1
                    go_wp2
                    go_quiet (fail)
                    go_wp2
                    go_quiet (fail)
                    go_wp2
                    exact ⟨⟨i + 1, by rw [hww]; rfl, HLT.out, ⟨pw_below_drewN HB7.out _⟩⟩, meas_up HLT.out hww⟩
                  · have hz0 := ne_self 0
                    have hz2 := ne_self 2
                    clear hb7 cU7
                    by_cases hk0 : kk < 0
                    · have d1 : decide (kk < 0) = true := decide_eq_true hk0
                      clear hk0 hno
                      go_wp2
                      go_quiet (fail)
                      go_wp2
                      exact ⟨⟨i + 1, by rw [hww]; rfl, HLT.out, ⟨pw_below_drewN HB7.out _⟩⟩, meas_up HLT.out hww⟩
                    · have d1 : decide (kk < 0) = false := decide_eq_false hk0
                      have d2 : decide (sz s ≤ kk) = true := decide_eq_true (Int.not_lt.1 (fun h => hno ⟨Int.not_lt.1 hk0, h⟩))
                      have d3 : decide (kk ≥ sz s) = true := d2
                      clear hk0 hno
                      go_wp2
                      go_quiet (fail)
                      go_wp2
                      exact ⟨⟨i + 1, by rw [hww]; rfl, HLT.out, ⟨pw_below_drewN HB7.out _⟩⟩, meas_up HLT.out hww⟩
                · have hd1 : decide (i < ks.length) = false := decide_eq_false hlt
                  have hY7 := blk_on HY2_.out HBQ.out
                  have cY := cell_of_one hY7
                  have fY := free_of_one hY7
                  have HY7 := Aside0.mk hY7
                  clear hlt hi hY7
                  go_wp2
                  have hdd := HDD.out
                  have hge := HGE2.out
                  refine leave_marks (a := ⟨w.heap.size + 1, 0, none⟩) (v := .bool true) (B := w.heap.size) (w0 := w) ?_ (fun W' hb => ⟨rfl, hb⟩) [D2, D1] _ (two_nodup hdd) ?_ (cell_of_one (one_setCell HY7.out)) ((below_step (below_step (below_step HBwr.out HBr1.out) HB2_.out) HBQ.out).setCell (p := ⟨w.heap.size + 1, 0, none⟩) (Nat.le_succ _) _)
                  · intro W hc
                    simp [results, Tryd.results4, go_sem, hc]
                  · intro D hD
                    rcases List.mem_cons.1 hD with rfl | hD
                    · exact mark_on (blk_on HD2_.out HBQ.out) (Nat.lt_trans hge hdd)
                    · obtain rfl := List.mem_singleton.1 hD
                      exact mark_on (blk_on HD1_.out HBQ.out) hge
        · exact hx.elim
theorem picks_calls (A0 : Option Addr) (c0 : Nat) (l0 : List Rg) (A1 : Option Addr) (c1 : Nat) (ks : List Int) (stop : Int) (hl : l0.length ≤ 1048576) (hl1 : ks.length ≤ 1048576) (_hr : ∀ r ∈ l0, R32 r) (hw1 : ∀ n ∈ ks, (Lit.int .i64 n).wf = true) (w : World)
    (hr0 : Kd.C k29 w A0 l0.length l0) (hc0 : l0.length ≤ c0) (hr1 : Kd.C (Kd.int .i64) w A1 ks.length ks) (hc1 : ks.length ≤ c1) (hG : Glob w) :
    Calls Tryd.prog 4 #[.slice A0 l0.length c0, .slice A1 ks.length c1, .int .i64 stop] w fun e w' => e = .returned (.bool true) ∧ Below w.heap.size w w' := by
  cases hup : allUp l0 with
  | false => exact picks_no A0 c0 l0 _ stop hl hup w hr0 hc0 hG
  | true => exact picks_yes A0 c0 l0 A1 c1 ks stop hl hl1 hup (fun n hn => by have := hw1 n hn; simp [Lit.wf] at this; have m1 : IntKind.i64.max = 9223372036854775807 := rfl; omega) w hr0 hc0 hr1 hc1 hG

end Go.Proofs.YtoggmegpodmfnaaDoor.Q
