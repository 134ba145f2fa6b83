/- Contracts of functions that the law reaches: what each call answers, as a plain function of what it reads; on condition that the function answers there. Printed by this session's own tool. -/
import Derived.Test.YtoggmegpodmfnaaGreatDoorPSx01
import Derived.Test.YtoggmegpodmfnaaGreatDoorPSx3
import Derived.Test.YtoggmegpodmfnaaGreatDoorPSx4
import Derived.Test.YtoggmegpodmfnaaGreatDoorBSq
namespace Go.Proofs.YtoggmegpodmfnaaGreatDoor.PS
open Go.RowKit Go.Proofs.YtoggmegpodmfnaaGreatDoor.B Go.Proofs.YtoggmegpodmfnaaGreatDoorW.PrintWords Go.Proofs.YtoggmegpodmfnaaGreatDoorW.PrintLast Go.Proofs.YtoggmegpodmfnaaGreatDoorW.PrintMore
attribute [local go_sem] max2_int min2_int max_two min_two max_three min_three max_four min_four   -- for this text's walks alone
set_option linter.unusedVariables false
set_option linter.unusedSimpArgs false
def sets_Parts.frm (s : Nat → Value) : Array Value := ((List.range 204).map s).toArray
theorem sets_Parts.frm_of (a : Array Value) (h : a.size = 204) : a = sets_Parts.frm (fun i => a[i]?.getD undef) := by
  unfold sets_Parts.frm; apply Array.ext
  · simp [h]
  · intro i h1 h2
    simp [Array.getElem?_eq_getElem h1]
set_option maxRecDepth 100000 in
theorem sets_Parts.frm_lit (s : Nat → Value) : sets_Parts.frm s = #[s 0, s 1, s 2, s 3, s 4, s 5, s 6, s 7, s 8, s 9, s 10, s 11, s 12, s 13, s 14, s 15, s 16, s 17, s 18, s 19, s 20, s 21, s 22, s 23, s 24, s 25, s 26, s 27, s 28, s 29, s 30, s 31, s 32, s 33, s 34, s 35, s 36, s 37, s 38, s 39, s 40, s 41, s 42, s 43, s 44, s 45, s 46, s 47, s 48, s 49, s 50, s 51, s 52, s 53, s 54, s 55, s 56, s 57, s 58, s 59, s 60, s 61, s 62, s 63, s 64, s 65, s 66, s 67, s 68, s 69, s 70, s 71, s 72, s 73, s 74, s 75, s 76, s 77, s 78, s 79, s 80, s 81, s 82, s 83, s 84, s 85, s 86, s 87, s 88, s 89, s 90, s 91, s 92, s 93, s 94, s 95, s 96, s 97, s 98, s 99, s 100, s 101, s 102, s 103, s 104, s 105, s 106, s 107, s 108, s 109, s 110, s 111, s 112, s 113, s 114, s 115, s 116, s 117, s 118, s 119, s 120, s 121, s 122, s 123, s 124, s 125, s 126, s 127, s 128, s 129, s 130, s 131, s 132, s 133, s 134, s 135, s 136, s 137, s 138, s 139, s 140, s 141, s 142, s 143, s 144, s 145, s 146, s 147, s 148, s 149, s 150, s 151, s 152, s 153, s 154, s 155, s 156, s 157, s 158, s 159, s 160, s 161, s 162, s 163, s 164, s 165, s 166, s 167, s 168, s 169, s 170, s 171, s 172, s 173, s 174, s 175, s 176, s 177, s 178, s 179, s 180, s 181, s 182, s 183, s 184, s 185, s 186, s 187, s 188, s 189, s 190, s 191, s 192, s 193, s 194, s 195, s 196, s 197, s 198, s 199, s 200, s 201, s 202, s 203] := rfl
def sets_Parts.cdrop : Nat → Code → Code
  | 0, c => c
  | n + 1, .seq _ b => sets_Parts.cdrop n b
  | _ + 1, _ => .skip
def sets_Parts.chead : Code → Code
  | .seq a _ => a
  | c => c
noncomputable def sets_Parts.body : Code := Tryz.f33.body.getD .skip
noncomputable def sets_Parts.at_ (n : Nat) : Code := sets_Parts.chead (sets_Parts.cdrop n sets_Parts.body)
theorem sets_Parts.leave {Q : Exit → Act → World → Prop} {a : Array Value} {w : World} (h : a.size = 204) (k : Q .normal ⟨sets_Parts.frm (fun i => a[i]?.getD undef), []⟩ w) : Q .normal ⟨a, []⟩ w := by
  rw [← sets_Parts.frm_of a h] at k; exact k
def sets_Parts.beg1 (r : S41) : List Int := r.f0 :: (if 0 ≤ bandOf (r.f1 + 1) then [r.f1 + 1] else [])
def sets_Parts.begS (l : List S41) : List Int := l.flatMap sets_Parts.beg1
def sets_Parts.begins (l0 : List (List S41)) : List Int := [0, 57344, 1114240] ++ l0.flatMap sets_Parts.begS
theorem sets_Parts.beg1_len (r : S41) : (sets_Parts.beg1 r).length ≤ 2 := by unfold sets_Parts.beg1; split <;> simp
theorem sets_Parts.begS_len (l : List S41) : (sets_Parts.begS l).length ≤ 2 * l.length := by
  induction l with
  | nil => simp [sets_Parts.begS]
  | cons r l ih => simp only [sets_Parts.begS, List.flatMap_cons, List.length_append, List.length_cons] at ih ⊢; have := sets_Parts.beg1_len r; omega
def sets_Parts.tot (l0 : List (List S41)) : Nat := (l0.map List.length).sum
theorem sets_Parts.begF_len (l0 : List (List S41)) : (l0.flatMap sets_Parts.begS).length ≤ 2 * sets_Parts.tot l0 := by
  induction l0 with
  | nil => simp
  | cons l l0 ih => simp only [sets_Parts.tot, List.flatMap_cons, List.length_append, List.map_cons, List.sum_cons] at ih ⊢; have := sets_Parts.begS_len l; omega
theorem sets_Parts.tot_take (l0 : List (List S41)) (i : Nat) : sets_Parts.tot (l0.take i) ≤ sets_Parts.tot l0 := by
  induction l0 generalizing i with
  | nil => simp [sets_Parts.tot]
  | cons l l0 ih => cases i with
    | zero => simp [sets_Parts.tot]
    | succ i => have := ih i; simp only [sets_Parts.tot, List.take_succ_cons, List.map_cons, List.sum_cons] at this ⊢; omega
theorem sets_Parts.wrapN (i : Nat) (h : i ≤ 1073741824) : wrap64 ((i : Int) + 1) = ((i + 1 : Nat) : Int) := by unfold wrap64; omega
theorem sets_Parts.info : (Tryz.prog.info? 21).map (fun i => (i.zero, i.size, i.bytes)) = some (some (.int .i32 0), 1, 4) := by kernel_rfl
set_option maxHeartbeats 4000000 in
set_option maxRecDepth 100000 in
theorem sets_Parts.ph1 (w : World) (hG : Glob w) (s : Nat → Value) (h5 : s 5 = .slice none 0 0) (Q : Exit → Act → World → Prop)
    (hQ : ∀ (s' : Nat → Value) (w' : World) (A : Option Addr) (c : Nat), s' 0 = s 0 → s' 5 = .slice A 3 c → Kd.R (Kd.int .i32) 21 w' w.heap.size (fun _ => True) (s' 5) [0, 57344, 1114240] → Below w.heap.size w w' → Q .normal ⟨sets_Parts.frm s', []⟩ w') :
    Code.wp Tryz.prog (sets_Parts.at_ 3) Q ⟨sets_Parts.frm s, []⟩ w := by
  have HG := Aside0.mk hG; have HQ := Aside0.mk hQ; clear hG hQ; have c0 := HG.out 0 (by omega); have c1 := HG.out 1 (by omega); have c2 := HG.out 2 (by omega); have c3 := HG.out 3 (by omega); have c4 := HG.out 4 (by omega); have c5 := HG.out 5 (by omega); simp only [bandCells, List.getD_cons_zero, List.getD_cons_succ] at c0 c1 c2 c3 c4 c5
  conv => arg 2; whnf
  rw [sets_Parts.frm_lit, h5]; have hu23 := Tryz.underlying26; have hix0 := bandIx0; have hix1 := bandIx1; have hix2 := bandIx2
  go_wp2
  go_loopw [5, 33] (fun v5 v33 wr => ∃ (i : Int) (xs : List Int), v33 = .int .i64 i ∧ 0 ≤ i ∧ i ≤ 3 ∧ Aside0 (Kd.R (Kd.int .i32) 21 wr w.heap.size (fun _ => True) v5 xs) ∧ Aside0 (Below w.heap.size w wr) ∧ Aside0 (xs = [0, 57344, 1114240].take i.toNat)) (fun _ v33 _ => 3 - (intOf v33).toNat)
  case atStart => exact ⟨0, [], rfl, by omega, by omega, ⟨Kd.R_nil _ _ _ _ _⟩, ⟨Below.refl _ w⟩, ⟨rfl⟩⟩
  case round =>
    obtain ⟨i, xs, rfl, hi0, hi3, HO, HB, HX⟩ := hrel; obtain ⟨Ao, co, hv⟩ := Kd.R_slice HO.out; subst hv
    rcases (show i = 0 ∨ i = 1 ∨ i = 2 ∨ i = 3 by omega) with rfl | rfl | rfl | rfl
    · go_wp2_with (first | ((with_reducible refine gate_builtin (b := .append) (xs := #[.tmp 36, .tmp 39]) rfl ?_); at_builtin; refine Kd.R_append (Kd.int .i32) (w0 := w) w.heap.size rfl (.tmp 36) (.tmp 39) 26 21 (.int .i32 0) 4 rfl Tryz.underlying26 sets_Parts.info rfl (by decide) (by omega) (.slice Ao xs.length co) xs (0 : Int) [.int .i32 (0)] (fun _ => True) (fun _ => False) rfl (show Value.slice (some ⟨wr.heap.size + 1, 0, none⟩) 1 1 = Value.slice (some ⟨(wr.alloc (.cells #[.int .i32 0, .int .i32 55295] 41)).heap.size, 0, none⟩) 1 1 by simp) rfl (fun _ hk => hk.elim) (fun _ _ => trivial) (Kd.R_alloc HO.out _) (below_alloc HB.out _) (below_size (below_alloc HB.out _)) (by rw [HX.out]; simp) ?_; intro v1 w1 ho hb hg hat; have H1 := Aside0.mk ho; have H2 := Aside0.mk hb; clear ho hb hg hat))
      exact ⟨⟨1, xs ++ [0], rfl, by omega, by omega, H1, H2, ⟨by rw [HX.out]; rfl⟩⟩, by simp [intOf]⟩
    · go_wp2_with (first | ((with_reducible refine gate_builtin (b := .append) (xs := #[.tmp 36, .tmp 39]) rfl ?_); at_builtin; refine Kd.R_append (Kd.int .i32) (w0 := w) w.heap.size rfl (.tmp 36) (.tmp 39) 26 21 (.int .i32 0) 4 rfl Tryz.underlying26 sets_Parts.info rfl (by decide) (by omega) (.slice Ao xs.length co) xs (57344 : Int) [.int .i32 (57344)] (fun _ => True) (fun _ => False) rfl (show Value.slice (some ⟨wr.heap.size + 1, 0, none⟩) 1 1 = Value.slice (some ⟨(wr.alloc (.cells #[.int .i32 57344, .int .i32 1114111] 41)).heap.size, 0, none⟩) 1 1 by simp) rfl (fun _ hk => hk.elim) (fun _ _ => trivial) (Kd.R_alloc HO.out _) (below_alloc HB.out _) (below_size (below_alloc HB.out _)) (by rw [HX.out]; simp) ?_; intro v1 w1 ho hb hg hat; have H1 := Aside0.mk ho; have H2 := Aside0.mk hb; clear ho hb hg hat))
      exact ⟨⟨2, xs ++ [57344], rfl, by omega, by omega, H1, H2, ⟨by rw [HX.out]; rfl⟩⟩, by simp [intOf]⟩
    · go_wp2_with (first | ((with_reducible refine gate_builtin (b := .append) (xs := #[.tmp 36, .tmp 39]) rfl ?_); at_builtin; refine Kd.R_append (Kd.int .i32) (w0 := w) w.heap.size rfl (.tmp 36) (.tmp 39) 26 21 (.int .i32 0) 4 rfl Tryz.underlying26 sets_Parts.info rfl (by decide) (by omega) (.slice Ao xs.length co) xs (1114240 : Int) [.int .i32 (1114240)] (fun _ => True) (fun _ => False) rfl (show Value.slice (some ⟨wr.heap.size + 1, 0, none⟩) 1 1 = Value.slice (some ⟨(wr.alloc (.cells #[.int .i32 1114240, .int .i32 1114367] 41)).heap.size, 0, none⟩) 1 1 by simp) rfl (fun _ hk => hk.elim) (fun _ _ => trivial) (Kd.R_alloc HO.out _) (below_alloc HB.out _) (below_size (below_alloc HB.out _)) (by rw [HX.out]; simp) ?_; intro v1 w1 ho hb hg hat; have H1 := Aside0.mk ho; have H2 := Aside0.mk hb; clear ho hb hg hat))
      exact ⟨⟨3, xs ++ [1114240], rfl, by omega, by omega, H1, H2, ⟨by rw [HX.out]; rfl⟩⟩, by simp [intOf]⟩
    · go_wp2
      have hx : xs = [0, 57344, 1114240] := HX.out; subst hx; exact sets_Parts.leave rfl (HQ.out _ _ Ao co rfl rfl HO.out HB.out)
theorem sets_Parts.box_far {wr w1 : World} {base : Nat} {ok : Nat → Prop} {v : Value} {xs : List Int} {cs : Array Value} (hR : Kd.R (Kd.int .i32) 21 wr base ok v xs) (hg : (wr.alloc (.cells cs 41)).grownBy w1 v.ownBlock) (i : Nat) (u : Value) (hu : cs[i]? = some u) : w1.cell? ⟨wr.heap.size, i, none⟩ = some u :=
  hg.cell ((blk_cell (heap_alloc_new wr (.cells cs 41)) i).trans hu) (Kd.R_ne (t := 41) (Kd.R_alloc hR (.cells cs 41)) (heap_alloc_new wr (.cells cs 41)) (by decide))
theorem sets_Parts.meas (k n : Nat) (h : k < n) : n - (intOf (.int .i64 ((k : Int) + 1))).toNat < n - (intOf (.int .i64 (k : Int))).toNat := by simp only [intOf]; omega
theorem sets_Parts.num (k : Nat) : Value.int .i64 ((k : Int) + 1) = .int .i64 ((k + 1 : Nat) : Int) := by simp
theorem sets_Parts.begS_take (l : List S41) (j : Nat) (hj : j < l.length) : sets_Parts.begS (l.take (j + 1)) = sets_Parts.begS (l.take j) ++ sets_Parts.beg1 (rd_T41 l (j : Int)) := by
  have e : rd_T41 l (j : Int) = l[j] := by simp [rd_T41, hj]
  rw [e, List.take_succ_eq_append_getElem hj, sets_Parts.begS, List.flatMap_append, List.flatMap_cons, List.flatMap_nil, List.append_nil]; rfl
theorem sets_Parts.begF_take (l : List (List S41)) (j : Nat) (hj : j < l.length) : (l.take (j + 1)).flatMap sets_Parts.begS = (l.take j).flatMap sets_Parts.begS ++ sets_Parts.begS (rd_L4 l (j : Int)) := by
  have e : rd_L4 l (j : Int) = l[j] := by simp [rd_L4, hj]
  rw [e, List.take_succ_eq_append_getElem hj, List.flatMap_append, List.flatMap_cons, List.flatMap_nil, List.append_nil]
theorem sets_Parts.tot_get (l : List (List S41)) (j : Nat) (hj : j < l.length) : sets_Parts.tot (l.take j) + (rd_L4 l (j : Int)).length ≤ sets_Parts.tot l := by
  have e : rd_L4 l (j : Int) = l[j] := by simp [rd_L4, hj]
  have h := sets_Parts.tot_take l (j + 1); rw [List.take_succ_eq_append_getElem hj] at h; rw [e]; simp only [sets_Parts.tot, List.map_append, List.sum_append, List.map_cons, List.map_nil, List.sum_cons, List.sum_nil] at h ⊢; omega
def sets_Parts.okR (l0 : List (List S41)) : Prop := ∀ l ∈ l0, ∀ r ∈ l, 0 ≤ r.f0 ∧ r.f0 ≤ 1114367 ∧ 0 ≤ r.f1 ∧ r.f1 ≤ 1114367
theorem sets_Parts.okR_get {l0 : List (List S41)} (h : sets_Parts.okR l0) {i j : Nat} (hi : i < l0.length) (hj : j < (rd_L4 l0 (i : Int)).length) : 0 ≤ (rd_T41 (rd_L4 l0 (i : Int)) (j : Int)).f0 ∧ (rd_T41 (rd_L4 l0 (i : Int)) (j : Int)).f0 ≤ 1114367 ∧ 0 ≤ (rd_T41 (rd_L4 l0 (i : Int)) (j : Int)).f1 ∧ (rd_T41 (rd_L4 l0 (i : Int)) (j : Int)).f1 ≤ 1114367 := by
  have e : rd_L4 l0 (i : Int) = l0[i] := by simp [rd_L4, hi]
  rw [e] at hj ⊢
  have e2 : rd_T41 l0[i] (j : Int) = l0[i][j] := by simp [rd_T41, hj]
  rw [e2]; exact h _ (List.getElem_mem hi) _ (List.getElem_mem hj)
set_option maxHeartbeats 4000000 in
set_option maxRecDepth 100000 in
theorem sets_Parts.ph2 (w w1 : World) (hG : Glob w) (A0 : Option Addr) (c0 : Nat) (l0 : List (List S41)) (hr0 : Kd.C (Kd.slice 41 k41) w A0 l0.length l0) (hl : l0.length ≤ 16777216) (ht : sets_Parts.tot l0 ≤ 16777216) (hok : sets_Parts.okR l0)
    (s : Nat → Value) (h0 : s 0 = .slice A0 l0.length c0) (A5 : Option Addr) (c5 : Nat) (h5 : s 5 = .slice A5 3 c5) (hR : Kd.R (Kd.int .i32) 21 w1 w.heap.size (fun _ => True) (s 5) [0, 57344, 1114240]) (hB : Below w.heap.size w w1) (Q : Exit → Act → World → Prop)
    (hQ : ∀ (s' : Nat → Value) (w' : World), s' 0 = s 0 → Kd.R (Kd.int .i32) 21 w' w.heap.size (fun _ => True) (s' 5) (sets_Parts.begins l0) → Below w.heap.size w w' → Q .normal ⟨sets_Parts.frm s', []⟩ w') :
    Code.wp Tryz.prog (sets_Parts.at_ 4) Q ⟨sets_Parts.frm s, []⟩ w1 := by
  have HG := Aside0.mk hG; have HQ := Aside0.mk hQ; have HC := Aside0.mk hr0; have HOK := Aside0.mk hok; have HT := Aside0.mk ht; have HL := Aside0.mk hl; rw [h5] at hR; have HR := Aside0.mk hR; have HB0 := Aside0.mk hB; clear hG hQ hr0 hok ht hR hB
  conv => arg 2; whnf
  rw [sets_Parts.frm_lit, h5, h0]; have hu23 := Tryz.underlying26
  go_wp2
  go_loopw [5, 44] (fun v5 v44 wr => ∃ (i : Nat) (xs : List Int), v44 = .int .i64 (i : Int) ∧ i ≤ l0.length ∧ Aside0 (Kd.R (Kd.int .i32) 21 wr w.heap.size (fun _ => True) v5 xs) ∧ Aside0 (Below w.heap.size w wr) ∧ Aside0 (xs = [0, 57344, 1114240] ++ (l0.take i).flatMap sets_Parts.begS)) (fun _ v44 _ => l0.length - (intOf v44).toNat)
  case atStart => exact ⟨0, [0, 57344, 1114240], rfl, Nat.zero_le _, HR, HB0, ⟨by simp⟩⟩
  case round =>
    obtain ⟨i, ys, rfl, hi, HO1, HB1, HX1⟩ := hrel; obtain ⟨Ay, cy, hv⟩ := Kd.R_slice HO1.out; subst hv
    by_cases hlt : i < l0.length
    · have hd1 : decide (i < l0.length) = true := decide_eq_true hlt
      have HLT := Aside0.mk hlt; obtain ⟨ad, A1, c1, e, hcl, hcc, hC1⟩ := at_L4 HC.out (i : Int) (by omega) (by omega)
      cases e
      replace hcl := (HB1.out.cell (World.block_lt_of_cell? w _ hcl)).trans hcl; obtain ⟨l, hl_⟩ : ∃ x, x = rd_L4 l0 (i : Int) := ⟨_, rfl⟩; rw [← hl_] at hcl hcc hC1; have HCL := Aside0.mk hC1; have HLE := Aside0.mk hl_; have HTL := Aside0.mk (by rw [hl_]; exact sets_Parts.tot_get l0 i hlt : sets_Parts.tot (l0.take i) + l.length ≤ sets_Parts.tot l0); have HYL := Aside0.mk (by have h1 := sets_Parts.begF_len (l0.take i); rw [HX1.out]; simp only [List.length_append, List.length_cons, List.length_nil]; omega : ys.length ≤ 3 + 2 * sets_Parts.tot (l0.take i)); have hp := eq_true (show (0 : Int) ≤ (i : Int) by omega); have hq := eq_true (show (i : Int) < (l0.length : Int) from Int.ofNat_lt.2 hlt)
      have hib : (i : Int) ≤ 16777216 := by omega
      simp only [Int.toNat_natCast] at hcl; clear hl_ hC1 hcc hlt
      go_wp2
      obtain ⟨wo, rfl⟩ : ∃ wo : World, wo = wr := ⟨_, rfl⟩
      go_loopw [5, 50] (fun v5 v50 wr => ∃ (j : Nat) (xs : List Int), v50 = .int .i64 (j : Int) ∧ j ≤ l.length ∧ Aside0 (Kd.R (Kd.int .i32) 21 wr w.heap.size (fun _ => True) v5 xs) ∧ Aside0 (Below w.heap.size w wr) ∧ Aside0 (xs = ys ++ sets_Parts.begS (l.take j))) (fun _ v50 _ => l.length - (intOf v50).toNat)
      case atStart => exact ⟨0, ys, rfl, Nat.zero_le _, HO1, HB1, ⟨by simp [sets_Parts.begS]⟩⟩
      case round =>
        obtain ⟨j, xs, rfl, hj, HO, HB, HX⟩ := hrel; obtain ⟨Ao, co, hv⟩ := Kd.R_slice HO.out; subst hv
        by_cases hjl : j < l.length
        · have hd2 : decide (j < l.length) = true := decide_eq_true hjl
          have HJL := Aside0.mk hjl; obtain ⟨ad2, e, hx0, hx1⟩ := at_T41 HCL.out (j : Int) (by omega) (by omega)
          cases e
          replace hx0 := (HB.out.cell (World.block_lt_of_cell? w _ hx0)).trans hx0; replace hx1 := (HB.out.cell (World.block_lt_of_cell? w _ hx1)).trans hx1; obtain ⟨re, hre⟩ : ∃ x, x = rd_T41 l (j : Int) := ⟨_, rfl⟩; rw [← hre] at hx0 hx1; have HRE := Aside0.mk hre
          have hbd : 0 ≤ re.f0 ∧ re.f0 ≤ 1114367 ∧ 0 ≤ re.f1 ∧ re.f1 ≤ 1114367 := by rw [hre, HLE.out]; exact sets_Parts.okR_get HOK.out HLT.out (by rw [← HLE.out]; exact hjl)
          obtain ⟨_, _, hb1, hb2⟩ := hbd; have HXL := Aside0.mk (by have h1 := sets_Parts.begS_len (l.take j); have h2 := HYL.out; have h3 := HTL.out; have h4 := HT.out; rw [HX.out, List.length_append]; have h5 : (l.take j).length ≤ l.length := List.length_take_le' _ _; omega : xs.length ≤ 67108864); simp only [Int.toNat_natCast] at hx0 hx1; have hp2 := eq_true (show (0 : Int) ≤ (j : Int) by omega); have hq2 := eq_true (show (j : Int) < (l.length : Int) from Int.ofNat_lt.2 hjl)
          have hjb : (j : Int) ≤ 16777216 := by have := HTL.out; have := HT.out; omega
          obtain ⟨bv, hbv⟩ : ∃ x, x = bandOf (re.f1 + 1) := ⟨_, rfl⟩; have HBV := Aside0.mk hbv; have BC := Aside0.mk (fun (W : World) (hW : Glob W) => by rw [hbv]; exact bandCalls (re.f1 + 1) W hW : ∀ W : World, Glob W → Calls Tryz.prog 50 #[.int .i32 (re.f1 + 1)] W fun e w' => e = .returned (.int .i64 bv) ∧ Below W.heap.size W w'); have HST := Aside0.mk (by rw [HRE.out]; exact sets_Parts.begS_take l j hjl : sets_Parts.begS (l.take (j + 1)) = sets_Parts.begS (l.take j) ++ sets_Parts.beg1 re); clear hre hjl hbv
          by_cases hbg : 0 ≤ bv
          · have hd3 : decide (bv ≥ 0) = true := decide_eq_true hbg
            have HBG := Aside0.mk (by rw [HST.out]; unfold sets_Parts.beg1; rw [← HBV.out, if_pos hbg] : sets_Parts.begS (l.take (j + 1)) = sets_Parts.begS (l.take j) ++ (re.f0 :: [re.f1 + 1])); clear hbg
            go_wp2_with (first | ((with_reducible refine gate_builtin (b := .append) (xs := #[.tmp 54, .tmp 57]) rfl ?_); at_builtin; refine Kd.R_append (Kd.int .i32) (w0 := w) w.heap.size rfl (.tmp 54) (.tmp 57) 26 21 (.int .i32 0) 4 rfl Tryz.underlying26 sets_Parts.info rfl (by decide) (by omega) (.slice Ao xs.length co) xs (re.f0 : Int) [.int .i32 (re.f0)] (fun _ => True) (fun _ => False) rfl (show Value.slice (some ⟨wr.heap.size + 1, 0, none⟩) 1 1 = Value.slice (some ⟨(wr.alloc (.cells #[.int .i32 re.f0, .int .i32 re.f1] 41)).heap.size, 0, none⟩) 1 1 by simp) rfl (fun _ hk => hk.elim) (fun _ _ => trivial) (Kd.R_alloc HO.out _) (below_alloc HB.out _) (below_size (below_alloc HB.out _)) (by have := HXL.out; omega) ?_; intro v1 w1 ho hb hg hat; obtain ⟨xs2, hxs2⟩ : ∃ z, z = xs ++ [re.f0] := ⟨_, rfl⟩; rw [← hxs2] at ho; have HX2 := Aside0.mk hxs2; clear hxs2; have H1 := Aside0.mk ho; have H2 := Aside0.mk hb; obtain ⟨Ap, cp, hvp⟩ := Kd.R_slice H1.out; subst hvp; have x1 : w1.cell? ⟨wr.heap.size, 1, none⟩ = some (.int .i32 re.f1) := sets_Parts.box_far HO.out hg 1 _ rfl; clear ho hb hg hat) | ((with_reducible refine gate_builtin (b := .append) (xs := #[.tmp 64, .tmp 68]) rfl ?_); at_builtin; refine Kd.R_append (Kd.int .i32) (w0 := w) w.heap.size rfl (.tmp 64) (.tmp 68) 26 21 (.int .i32 0) 4 rfl Tryz.underlying26 sets_Parts.info rfl (by decide) (by omega) (.slice Ap xs2.length cp) xs2 (re.f1 + 1 : Int) [.int .i32 (re.f1 + 1)] (fun _ => True) (fun _ => False) rfl rfl rfl (fun _ hk => hk.elim) (fun _ _ => trivial) HO3.out H3.out (below_size H3.out) (by have := HXL.out; rw [HX2.out, List.length_append]; simp; omega) ?_; intro v1 w1 ho hb hg hat; have H4 := Aside0.mk ho; have H5 := Aside0.mk hb; clear ho hb hg hat) | (at_builtin; refine Aside0.out ?_) | (go_at_call 50; refine (BC.out _ (HG.out.of_below H2.out)).mono ?_; rintro e w3 ⟨rfl, hb3⟩; have H3 := Aside0.mk (below_step H2.out hb3); have HO3 := Aside0.mk (Kd.R_below H1.out hb3); have x1' := (hb3.cell (World.block_lt_of_cell? _ _ x1)).trans x1; clear hb3))
            exact ⟨⟨j + 1, xs2 ++ [re.f1 + 1], by first | exact sets_Parts.num j | rfl, HJL.out, H4, H5, ⟨by rw [HBG.out, HX2.out, HX.out]; simp⟩⟩, sets_Parts.meas _ _ HJL.out⟩
          · have hd3 : decide (bv ≥ 0) = false := decide_eq_false hbg
            have HBG := Aside0.mk (by rw [HST.out]; unfold sets_Parts.beg1; rw [← HBV.out, if_neg hbg] : sets_Parts.begS (l.take (j + 1)) = sets_Parts.begS (l.take j) ++ [re.f0]); clear hbg
            go_wp2_with (first | ((with_reducible refine gate_builtin (b := .append) (xs := #[.tmp 54, .tmp 57]) rfl ?_); at_builtin; refine Kd.R_append (Kd.int .i32) (w0 := w) w.heap.size rfl (.tmp 54) (.tmp 57) 26 21 (.int .i32 0) 4 rfl Tryz.underlying26 sets_Parts.info rfl (by decide) (by omega) (.slice Ao xs.length co) xs (re.f0 : Int) [.int .i32 (re.f0)] (fun _ => True) (fun _ => False) rfl (show Value.slice (some ⟨wr.heap.size + 1, 0, none⟩) 1 1 = Value.slice (some ⟨(wr.alloc (.cells #[.int .i32 re.f0, .int .i32 re.f1] 41)).heap.size, 0, none⟩) 1 1 by simp) rfl (fun _ hk => hk.elim) (fun _ _ => trivial) (Kd.R_alloc HO.out _) (below_alloc HB.out _) (below_size (below_alloc HB.out _)) (by have := HXL.out; omega) ?_; intro v1 w1 ho hb hg hat; obtain ⟨xs2, hxs2⟩ : ∃ z, z = xs ++ [re.f0] := ⟨_, rfl⟩; rw [← hxs2] at ho; have HX2 := Aside0.mk hxs2; clear hxs2; have H1 := Aside0.mk ho; have H2 := Aside0.mk hb; obtain ⟨Ap, cp, hvp⟩ := Kd.R_slice H1.out; subst hvp; have x1 : w1.cell? ⟨wr.heap.size, 1, none⟩ = some (.int .i32 re.f1) := sets_Parts.box_far HO.out hg 1 _ rfl; clear ho hb hg hat) | (at_builtin; refine Aside0.out ?_) | (go_at_call 50; refine (BC.out _ (HG.out.of_below H2.out)).mono ?_; rintro e w3 ⟨rfl, hb3⟩; have H3 := Aside0.mk (below_step H2.out hb3); have HO3 := Aside0.mk (Kd.R_below H1.out hb3); clear hb3))
            exact ⟨⟨j + 1, xs2, by first | exact sets_Parts.num j | rfl, HJL.out, HO3, H3, ⟨by rw [HBG.out, HX2.out, HX.out]; simp⟩⟩, sets_Parts.meas _ _ HJL.out⟩
        · have hd2 : decide (j < l.length) = false := decide_eq_false hjl
          obtain rfl : j = l.length := Nat.le_antisymm hj (Nat.not_lt.1 hjl); clear hjl hj
          go_wp2
          exact ⟨⟨i + 1, xs, by first | exact sets_Parts.num i | rfl, HLT.out, HO, HB, ⟨by rw [HX.out, HX1.out, sets_Parts.begF_take l0 i HLT.out, ← HLE.out, List.take_of_length_le (Nat.le_refl _), List.append_assoc]⟩⟩, sets_Parts.meas _ _ HLT.out⟩
    · have hd1 : decide (i < l0.length) = false := decide_eq_false hlt
      obtain rfl : i = l0.length := Nat.le_antisymm hi (Nat.not_lt.1 hlt)
      have hx : ys = sets_Parts.begins l0 := by rw [HX1.out, List.take_of_length_le (Nat.le_refl _)]; rfl
      subst hx; clear hlt hi
      go_wp2
      exact sets_Parts.leave rfl (HQ.out _ _ h0.symm HO1.out HB1.out)
theorem sets_Parts.encs_eq (xs : List Int) : encs (Value.int .i32) xs = xs.map encR := rfl
theorem sets_Parts.holds {W : World} {B : Nat} {ok : Nat → Prop} {v : Value} {xs : List Int} (hR : Kd.R (Kd.int .i32) 21 W B ok v xs) (hne : xs ≠ []) :
    ∃ g cap, v = .slice (some ⟨g, 0, none⟩) xs.length cap ∧ B ≤ g ∧ g < W.heap.size ∧ xs.length ≤ cap ∧ Go.Sort.Holds encR W g 0 xs.toArray ∧ W.ownsRow B 21 1 (.slice (some ⟨g, 0, none⟩) xs.length cap) xs.length (xs.map encR) := by
  have ho := Kd.own_of_R hR; rw [sets_Parts.encs_eq] at ho
  have hv : v ≠ .slice none 0 0 := by
    rintro rfl
    rcases ho.2 with ⟨_, h0⟩ | ⟨g, cap, cur, e, _⟩
    · exact hne (List.length_eq_zero_iff.1 h0)
    · cases e
  obtain ⟨g, cap, rfl, h1, h2, h3, _, _, h6⟩ := Lib.holds_of_ownsRow ho hv; exact ⟨g, cap, rfl, h1, h2, h3, h6, ho⟩
theorem sets_Parts.R_put {W : World} {B g n cap q k : Nat} {xs ys : List Int} {os : Array Obj} (h : W.ownsRow B 21 1 (.slice (some ⟨g, 0, none⟩) n cap) n (xs.map encR)) (hy : ys.length = n) (hk : k ≤ n) (hg : g < W.heap.size) :
    Kd.R (Kd.int .i32) 21 (Go.Sort.grow (Go.Sort.putRow encR (Go.Sort.ahead W q) g 0 ys.toArray) os) B (fun _ => True) (.slice (some ⟨g, 0, none⟩) k cap) (ys.take k) := by
  have h1 := Lib.ownsRow_putRow (q := q) h hy hk
  have h2 : (Go.Sort.grow (Go.Sort.putRow encR (Go.Sort.ahead W q) g 0 ys.toArray) os).ownsRow B 21 1 (.slice (some ⟨g, 0, none⟩) k cap) k ((ys.take k).map encR) :=
    own_move h1 (fun b hb => by
      have : b = g := by simpa [Value.ownBlock] using hb.symm
      subst this
      exact Go.Sort.heap_grow_old _ _ (by simpa using hg))
  have hl : k = (ys.take k).length := by simp; omega
  have h3 : (Go.Sort.grow (Go.Sort.putRow encR (Go.Sort.ahead W q) g 0 ys.toArray) os).ownsRow B 21 1 (.slice (some ⟨g, 0, none⟩) k cap) (ys.take k).length (encs (Value.int .i32) (ys.take k)) := by rw [← hl]; exact h2
  exact Kd.R_of_own (h1 := fun _ => rfl) (enc := Value.int .i32) h3 (fun _ _ => trivial)
theorem sets_Parts.below_grow {B : Nat} {w W : World} {os : Array Obj} (h : Below B w W) (hB : B ≤ W.heap.size) : Below B w (Go.Sort.grow W os) :=
  h.trans ⟨rfl, rfl, rfl, by simp [Go.Sort.grow], fun k hk => Go.Sort.heap_grow_old W os (Nat.lt_of_lt_of_le hk hB)⟩
def sets_Parts.sorted (xs : List Int) : List Int := xs.mergeSort fun x y => decide (x ≤ y)
theorem sets_Parts.sorted_len (xs : List Int) : (sets_Parts.sorted xs).length = xs.length := by simp [sets_Parts.sorted]
set_option maxHeartbeats 4000000 in
set_option maxRecDepth 100000 in
theorem sets_Parts.ph5 (w w1 : World) (s : Nat → Value) (xs : List Int) (hne : xs ≠ []) (hl : xs.length ≤ 67108864) (hR : Kd.R (Kd.int .i32) 21 w1 w.heap.size (fun _ => True) (s 5) xs) (hB : Below w.heap.size w w1) (Q : Exit → Act → World → Prop)
    (hQ : ∀ (s' : Nat → Value) (w' : World), s' 0 = s 0 → Kd.R (Kd.int .i32) 21 w' w.heap.size (fun _ => True) (s' 5) (sets_Parts.sorted xs) → Below w.heap.size w w' → Q .normal ⟨sets_Parts.frm s', []⟩ w') :
    Code.wp Tryz.prog (sets_Parts.at_ 5) Q ⟨sets_Parts.frm s, []⟩ w1 := by
  obtain ⟨g, cap, h5, h1, h2, h3, h6, h7⟩ := sets_Parts.holds hR hne; have HS := Aside0.mk (sortRunes g 0 cap xs w1 h6 h2 (by omega)); have HQ := Aside0.mk hQ; have H7 := Aside0.mk (fun n os => sets_Parts.R_put (q := n) (k := xs.length) (os := os) h7 (sets_Parts.sorted_len xs) (Nat.le_refl _) h2); have HB := Aside0.mk (fun n os => sets_Parts.below_grow (os := os) (Lib.below_putRow (q := n) (enc := encR) (d := (sets_Parts.sorted xs).toArray) hB h1) (by have := hB.size; simpa using this)); clear hQ hR h6 h7 hB h2 h3 h1
  conv => arg 2; whnf
  rw [sets_Parts.frm_lit, h5]
  go_wp2_with (go_at_call 55; refine HS.out.mono ?_; rintro e w2 ⟨rfl, n, os, rfl⟩)
  refine sets_Parts.leave rfl (HQ.out _ _ rfl ?_ (HB.out n os)); have := H7.out n os; rw [List.take_of_length_le (Nat.le_of_eq (sets_Parts.sorted_len xs))] at this; exact this
def sets_Parts.once (xs : List Int) : List Int := Go.Lib.compactUpTo xs.toArray xs.toArray.size
theorem sets_Parts.once_len (xs : List Int) : (sets_Parts.once xs).length ≤ xs.length := Go.Lib.compact_length_le xs
set_option maxHeartbeats 4000000 in
set_option maxRecDepth 100000 in
theorem sets_Parts.ph6 (w w1 : World) (s : Nat → Value) (xs : List Int) (hne : xs ≠ []) (hl : xs.length ≤ 67108864) (hR : Kd.R (Kd.int .i32) 21 w1 w.heap.size (fun _ => True) (s 5) xs) (hB : Below w.heap.size w w1) (Q : Exit → Act → World → Prop)
    (hQ : ∀ (s' : Nat → Value) (w' : World), s' 0 = s 0 → Kd.R (Kd.int .i32) 21 w' w.heap.size (fun _ => True) (s' 5) (sets_Parts.once xs) → Below w.heap.size w w' → Q .normal ⟨sets_Parts.frm s', []⟩ w') :
    Code.wp Tryz.prog (sets_Parts.at_ 6) Q ⟨sets_Parts.frm s, []⟩ w1 := by
  obtain ⟨g, cap, h5, h1, h2, h3, h6, h7⟩ := sets_Parts.holds hR hne; have hc := AnyE.slices_Compact Tryz.compactR (Value.int .i32) (fun _ => rfl) (EqlAt.intD _ _ .i32) (NeqAt.intD _ _ .i32) 0 Tryz.zeroValue21 g 0 cap xs.toArray w1 h6 (by simp; omega) (by simpa using h3)
  change Calls Tryz.prog 56 _ _ _ at hc
  have hol := sets_Parts.once_len xs
  have hlen : (sets_Parts.once xs ++ List.replicate (xs.length - (sets_Parts.once xs).length) (0 : Int)).length = xs.length := by simp; omega
  have H7 := Aside0.mk (fun n => sets_Parts.R_put (q := n) (k := (sets_Parts.once xs).length) (os := #[]) h7 hlen hol h2); have HB := Aside0.mk (fun n => Lib.below_putRow (q := n) (enc := encR) (d := (sets_Parts.once xs ++ List.replicate (xs.length - (sets_Parts.once xs).length) (0 : Int)).toArray) hB h1); have HC := Aside0.mk hc; have HQ := Aside0.mk hQ; have hsz : xs.toArray.size = xs.length := rfl; clear hQ hR h6 h7 hB h2 h3 h1 hc hlen
  conv => arg 2; whnf
  rw [sets_Parts.frm_lit, h5]
  go_wp2_with (go_at_call 56; refine HC.out.mono ?_; rintro e w2 ⟨rfl, n, rfl⟩)
  refine sets_Parts.leave rfl (HQ.out _ _ rfl ?_ (HB.out n)); have := H7.out n; rw [List.take_left' rfl] at this; rw [Go.Sort.grow_empty] at this; exact this
theorem appStr_at {P : Program} (w : World) (base : Nat) (t u ty e : TypeId) (i : TypeInfo) (ht : P.underlying t = some (.slice e)) (hu : P.underlying u = some .string) (hi : P.info? e = some i) (hz : i.zero = some (.int .u8 0))
    (hsize : i.size = 1) (hby : i.bytes = 1) (v : Value) (n : Nat) (xs : List Value) (hown : w.ownsRow base e 1 v n xs) (s : ByteArray)
    (h63 : n + s.size ≤ maxLen) (hbytes : n + s.size ≤ 140737488355328) (hbase : base ≤ w.heap.size) :
    ∃ v' w', (Builtin.append_ #[t, u] ty #[v, .string s]).run P w = .ok v' w' ∧ w'.ownsRow base e 1 v' (n + s.size) (xs ++ Lib.strCells s) ∧ w.grownBy w' v.ownBlock ∧ (v'.ownBlock = v.ownBlock ∨ v'.ownBlock = some w.heap.size) := by
  have hsmall : n + s.size ≤ 9223372036854775807 := by simp only [maxLen] at h63; omega
  obtain ⟨v', w', hr, h2, h3, _⟩ := Lib.run_append_own_string (P := P) w base t u ty e i ht hu hi hz hsize hby v n xs hown s h63 hbytes hbase; refine ⟨v', w', hr, h2, h3, ?_⟩
  have hxl : xs.length = n := by simpa using hown.1
  rcases hown.2 with ⟨rfl, rfl⟩ | ⟨g, cap, cur, rfl, hbg, hg, hnc, hcm, hcs, htake⟩
  · by_cases hm : s.size = 0
    · rcases h2.2 with ⟨rfl, _⟩ | ⟨g, cap, cur, rfl, _⟩
      · left; rfl
      · exfalso
        have hn : Lib.strCells s = [] := List.eq_nil_of_length_eq_zero (by rw [Lib.strCells_length]; exact hm); have hf := Lib.run_firstCells_string (P := P) w 1 s; rw [hm] at hf
        simp [Builtin.append_, run_underlying ht, run_underlying hu, sizeOf, typeInfo, hi, hsize, Builtin.lenOf, hm, hf] at hr
    · have hr2 := run_append_nil_string (P := P) w t u ty e i (.int .u8 0) ht hu hi hz s (by omega) (by omega) (by rw [hby]; omega); rw [hr2] at hr; injection hr with e1 e2; right; rw [← e1]; rfl
  · by_cases hroom : n + s.size ≤ cap
    · have hcs' : cur.size = cap := by simpa using hcs
      have hr2 := Lib.run_append_room_string (P := P) w t u ty e i ht hu hi hsize g n cap cur hg s hroom (by omega); rw [hr2] at hr; injection hr with e1 e2; left; rw [← e1]; rfl
    · have holds : ∀ j u, xs[j]? = some u → w.cell? ((⟨g, 0, none⟩ : Addr).add j) = some u := hown.cells (g := g) rfl; have hr2 := Lib.run_append_grow_string (P := P) w t u ty e i (.int .u8 0) ht hu hi hz ⟨g, 0, none⟩ n cap xs (by rw [hsize]; simpa using hxl) holds s (by omega) (by omega) (by rw [hby]; exact growslice_fits (by omega) (by omega)); rw [hr2] at hr; injection hr with e1 e2; right; rw [← e1]; rfl
theorem wpList_appStr_at {P : Program} {w : World} {ops : Array Oper} {rest : List Oper} {o : Oper} {a : Act} {Q : Exit → Act → World → Prop} (hgd : o.guard = none) (sl x : Operand) (t u : TypeId)
    (ho : o.op = .call { callee := .builtin .append, args := #[sl, x], argTypes := #[t, u] })
    (base : Nat) (e : TypeId) (i : TypeInfo) (ht : P.underlying t = some (.slice e)) (hu : P.underlying u = some .string) (hi : P.info? e = some i) (hz : i.zero = some (.int .u8 0))
    (hsize : i.size = 1) (hby : i.bytes = 1) (v : Value) (n : Nat) (xs : List Value) (hs : a.eval sl = v) (hown : w.ownsRow base e 1 v n xs) (s : ByteArray) (hx : a.eval x = .string s)
    (h63 : n + s.size ≤ maxLen) (hbytes : n + s.size ≤ 140737488355328) (hbase : base ≤ w.heap.size)
    (h : ∀ v' w', w'.ownsRow base e 1 v' (n + s.size) (xs ++ Lib.strCells s) → w.grownBy w' v.ownBlock → (v'.ownBlock = v.ownBlock ∨ v'.ownBlock = some w.heap.size) → wpList P ops Q rest (a.put o.dst v') w') : wpList P ops Q (o :: rest) a w := by
  refine wpList_plain hgd fun K hK => ?_; obtain ⟨v', w', hr, h2, h3, h4⟩ := appStr_at (P := P) w base t u o.type e i ht hu hi hz hsize hby v n xs hown s h63 hbytes hbase; unfold Oper.wp execOp; simp only [ho, resolve, invoke, builtin, Sem.run_bind, Sem.run_pure, Result.andThen_ok, List.map_toArray, List.map_cons, List.map_nil, hs, hx, hr]; exact hK _ _ (h v' w' h2 h3 h4)
theorem bldRow_lies (n i : Nat) (hi : i < n) : liesAt Tryz.prog Tryz.prog.depth 99 (2 * n / Tryz.prog.cellsOf 99) (2 * i) 99 1 = true := by
  have hc : Tryz.prog.cellsOf 99 = 2 := by kernel_rfl
  obtain ⟨d, hd⟩ : ∃ d, Tryz.prog.depth = d + 1 := ⟨Tryz.prog.depth - 1, (Nat.sub_add_cancel (show 1 ≤ Tryz.prog.depth by decide +kernel)).symm⟩
  have hs : sameLayout Tryz.prog Tryz.prog.depth 99 99 = true := by kernel_rfl
  rw [hd] at hs ⊢; unfold liesAt; rw [hd]; unfold rowAt
  have h1 : 2 * i % 2 = 0 := by omega
  have h2 : 2 * i / 2 + 1 ≤ 2 * n / 2 := by omega
  simp [hc, hs, h1, h2]
  omega
theorem bldSize : (Tryz.prog.info? 99).map (·.size) = some 2 := by kernel_rfl
set_option maxHeartbeats 1000000 in
set_option maxRecDepth 100000 in
theorem bldCheck_usedAt (b o : Nat) (w : World) (h0 : w.cell? ⟨b, o, none⟩ = some (.pointer (some ⟨b, o, none⟩))) :
    Calls Tryz.prog 86 #[.pointer (some ⟨b, o, none⟩)] w fun e w' => e = .returned (.tuple #[]) ∧ w' = w := by
  obtain ⟨j, hj, _⟩ := Option.map_eq_some_iff.1 bldSize; go_enter Tryz.func86, Tryz.ntmps86
  go_wp2
  rw [Lib.run_neq_ptr_same w _ Tryz.underlying96 hj]
  go_wp2
  go_end0
  exact ⟨rfl, rfl⟩
set_option maxHeartbeats 1000000 in
set_option maxRecDepth 100000 in
theorem bldCheck_freshAt (b i n : Nat) (w : World) (hi : i < n) (h0 : w.cell? ⟨b, 2 * i, none⟩ = some (.pointer none)) (hsh : w.shape? b = some (99, 2 * n)) (hfz : w.frozen? ⟨b, 2 * i, none⟩ = false) :
    Calls Tryz.prog 86 #[.pointer (some ⟨b, 2 * i, none⟩)] w fun e w' => e = .returned (.tuple #[]) ∧ w' = w.setCell ⟨b, 2 * i, none⟩ (.pointer (some ⟨b, 2 * i, none⟩)) := by
  obtain ⟨j, hj, hjs⟩ := Option.map_eq_some_iff.1 bldSize; have hl := bldRow_lies n i hi
  have hlt : 2 * i < 2 * n := by omega
  obtain ⟨o, ho⟩ : ∃ o, o = 2 * i := ⟨_, rfl⟩; rw [← ho] at h0 hfz hl hlt ⊢; clear ho; go_enter Tryz.func86, Tryz.ntmps86
  go_wp2
  rw [Lib.run_to_unsafe w ⟨b, o, none⟩ Tryz.underlying96 Tryz.underlying163 hj (by rw [hjs]; decide) hsh hlt]; simp only [Result.andThen]; rw [Oper.upon_value]
  go_wp2
  rw [run_callFunc_extern Tryz.func105 (by kernel_rfl) (by kernel_rfl) (by kernel_rfl) (e := Extern.AbiNoEscape.same) (by kernel_rfl)]; rw [Lib.run_noEscape]; simp only [Result.andThen]; rw [Oper.upon_value]
  go_wp2
  rw [Lib.run_from_unsafe w ⟨b, o, none⟩ Tryz.underlying163 Tryz.underlying96 hj hsh hl]; simp only [Result.andThen]; rw [Oper.upon_value]
  go_wp2
  go_end0
  exact ⟨rfl, rfl⟩
theorem bldShape {W : World} {M n : Nat} {cs : Array Value} (hM : W.heap[M]? = some (.cells cs 99 (0, 0))) (hn : cs.size = 2 * n) : W.shape? M = some (99, 2 * n) := by simp [World.shape?, hM, hn]
theorem bldSet {W : World} {M o : Nat} {cs : Array Value} {t : Nat} (hM : W.heap[M]? = some (.cells cs t (0, 0))) (v : Value) : (W.setCell ⟨M, o, none⟩ v).heap[M]? = some (.cells (cs.setIfInBounds o v) t (0, 0)) := by
  simp [World.setCell, Array.getElem?_modify, hM]
theorem bldGrown (W : World) (M o : Nat) (v : Value) : W.grownBy (W.setCell ⟨M, o, none⟩ v) (some M) :=
  ⟨rfl, rfl, rfl, by simp [World.setCell], fun k _ hk => Below.heap_setCell _ _ _ _ (fun e => hk (by rw [e]))⟩
theorem bldCheckAt (M i n : Nat) (cs : Array Value) (p : Value) (W : World) (hM : W.heap[M]? = some (.cells cs 99 (0, 0))) (hn : cs.size = 2 * n) (hi : i < n) (h0 : cs[2 * i]? = some p) (hp : p = .pointer none ∨ p = .pointer (some ⟨M, 2 * i, none⟩)) :
    Calls Tryz.prog 86 #[.pointer (some ⟨M, 2 * i, none⟩)] W fun e w' => e = .returned (.tuple #[]) ∧ w'.heap[M]? = some (.cells (cs.setIfInBounds (2 * i) (.pointer (some ⟨M, 2 * i, none⟩))) 99 (0, 0)) ∧ W.grownBy w' (some M) := by
  have hc : W.cell? ⟨M, 2 * i, none⟩ = some p := (blk_cell hM _).trans h0
  rcases hp with rfl | rfl
  · refine (bldCheck_freshAt M i n W hi hc (bldShape hM hn) (blk_frozen hM _)).mono ?_; rintro e w' ⟨rfl, rfl⟩; exact ⟨rfl, bldSet hM _, bldGrown _ _ _ _⟩
  · refine (bldCheck_usedAt M (2 * i) W hc).mono ?_
    rintro e w' ⟨rfl, rfl⟩
    have e1 : cs.setIfInBounds (2 * i) (.pointer (some ⟨M, 2 * i, none⟩)) = cs := by
      apply Array.ext_getElem?; intro k; rw [Array.getElem?_setIfInBounds]
      by_cases hk : 2 * i = k
      · subst hk
        rw [h0]
        simp
        omega
      · simp [hk]
    rw [e1]; exact ⟨rfl, hM, ⟨rfl, rfl, rfl, Nat.le_refl _, fun _ _ _ => rfl⟩⟩
theorem bldForm {W : World} {B n : Nat} {v : Value} {xs : List Value} (h : W.ownsRow B 5 1 v n xs) : ∃ A c, v = .slice A n c := by
  rcases h.2 with ⟨hv, h0⟩ | ⟨g, cap, cur, hv, _⟩
  (· exact ⟨none, 0, by rw [hv, h0]⟩); (· exact ⟨_, _, hv⟩)
set_option maxHeartbeats 1000000 in
set_option maxRecDepth 100000 in
theorem bldWriteAt (B M i n : Nat) (cs : Array Value) (p v : Value) (l : List Value) (sb : ByteArray) (W : World) (hM : W.heap[M]? = some (.cells cs 99 (0, 0))) (hn : cs.size = 2 * n) (hi : i < n) (h0 : cs[2 * i]? = some p) (hp : p = .pointer none ∨ p = .pointer (some ⟨M, 2 * i, none⟩))
    (h1 : cs[2 * i + 1]? = some v) (hown : W.ownsRow B 5 1 v l.length l) (hB : B ≤ W.heap.size) (hsz : l.length + sb.size ≤ 1099511627776) :
    Calls Tryz.prog 57 #[.pointer (some ⟨M, 2 * i, none⟩), .string sb] W fun e w' => e = .returned (.tuple #[.int .i64 (sb.size : Int), .nilIface]) ∧ ∃ v' : Value, w'.ownsRow B 5 1 v' (l.length + sb.size) (l ++ Lib.strCells sb) ∧
      w'.heap[M]? = some (.cells ((cs.setIfInBounds (2 * i) (.pointer (some ⟨M, 2 * i, none⟩))).setIfInBounds (2 * i + 1) v') 99 (0, 0)) ∧ (v'.ownBlock = v.ownBlock ∨ ∃ b, v'.ownBlock = some b ∧ W.heap.size ≤ b) ∧
      W.heap.size ≤ w'.heap.size ∧ (w'.os = W.os ∧ w'.tape = W.tape ∧ w'.output = W.output) ∧ ∀ k, k < W.heap.size → k ≠ M → some k ≠ v.ownBlock → w'.heap[k]? = W.heap[k]? := by
  obtain ⟨A, c, hv⟩ := bldForm hown; subst hv; have HC := Aside0.mk (bldCheckAt M i n cs p W hM hn hi h0 hp); obtain ⟨i1, hi1, hzz⟩ := Option.map_eq_some_iff.1 (show (Tryz.prog.info? 5).map (fun i => (i.zero, i.size, i.bytes)) = some (some (.int .u8 0), 1, 1) by kernel_rfl); simp only [Prod.mk.injEq] at hzz; have hMlt : M < W.heap.size := blk_lt hM
  have hvM : (Value.slice A l.length c).ownBlock ≠ some M := fun e => by
    obtain ⟨cells, hc⟩ := own_typed hown M e; rw [hM] at hc; injection hc with hc; injection hc with _ hc; exact absurd hc (by decide)
  have HI := Aside0.mk (And.intro hi1 hzz); have HO := Aside0.mk hown; have HM := Aside0.mk hM; have HV := Aside0.mk hvM; have HL := Aside0.mk hMlt; have HN := Aside0.mk (show 2 * i + 1 < cs.size by omega); have H1 := Aside0.mk h1; clear hi1 hzz hown hM hvM hMlt h1 hn hi h0 hp; obtain ⟨o, ho⟩ : ∃ o, o = 2 * i := ⟨_, rfl⟩; rw [← ho] at HC HN H1 ⊢; clear ho; go_enter Tryz.func57, Tryz.ntmps57; have HBS := Aside0.mk hB; have HSZ := Aside0.mk hsz; clear hB hsz
  go_wp2_with (first
    | (go_at_call 86; refine HC.out.mono ?_; rintro e w1 ⟨rfl, hm1, hg1⟩; have x1 : w1.cell? ⟨M, o + 1, none⟩ = some (.slice A l.length c) := (blk_cell hm1 _).trans (by rw [Array.getElem?_setIfInBounds_ne (by omega)]; exact H1.out); have hf1 := blk_frozen hm1 (o + 1); have HM1 := Aside0.mk hm1; have HG1 := Aside0.mk hg1; have HO1 := Aside0.mk (own_move HO.out (fun b hb => hg1.block b (own_lt HO.out b hb) (fun e => HV.out (hb.trans e)))); clear hm1 hg1)
    | (at_builtin; refine wpList_appStr_at rfl (.tmp 12) (.tmp 13) 97 9 rfl B 5 i1 Tryz.underlying97 Tryz.underlying9 HI.out.1 HI.out.2.1 HI.out.2.2.1 HI.out.2.2.2 (.slice A l.length c) l.length l rfl HO1.out sb rfl (by have := HSZ.out; unfold maxLen; omega) (by have := HSZ.out; omega) (Nat.le_trans HBS.out HG1.out.size) ?_; intro v2 w2 ho2 hg2 hat2; have hm2 : w2.heap[M]? = some (.cells (cs.setIfInBounds o (.pointer (some ⟨M, o, none⟩))) 99 (0, 0)) := (hg2.block M (blk_lt HM1.out) (fun e => HV.out e.symm)).trans HM1.out; have x2 : w2.cell? ⟨M, o + 1, none⟩ = some (.slice A l.length c) := (blk_cell hm2 _).trans (by rw [Array.getElem?_setIfInBounds_ne (by omega)]; exact H1.out); have hf2 := blk_frozen hm2 (o + 1); obtain ⟨A2, c2, hv2⟩ := bldForm ho2; subst hv2; have HO2 := Aside0.mk ho2; have HG2 := Aside0.mk hg2; have HAT := Aside0.mk hat2; have HM2 := Aside0.mk hm2; clear ho2 hg2 hat2 hm2))
  go_ret2; refine ⟨rfl, _, own_move HO2.out (fun b hb => ?_), bldSet HM2.out _, ?_, ?_, ⟨HG2.out.os.trans HG1.out.os, HG2.out.tape.trans HG1.out.tape, HG2.out.output.trans HG1.out.output⟩, fun k hk hkM hkv => ?_⟩; (· refine Below.heap_setCell _ _ _ _ (fun e => ?_); have e' : b = M := e; subst e'; obtain ⟨cells, hc⟩ := own_typed HO2.out _ hb; rw [HM2.out] at hc; injection hc with hc; injection hc with _ hc; exact absurd hc (by decide))
  · rcases HAT.out with h | h
    (· exact .inl h); (· exact .inr ⟨_, h, HG1.out.size⟩)
  · have h2 := HG2.out.size
    have h1 := HG1.out.size
    simp [World.setCell]
    omega
  · have h3 : (w2.setCell ⟨M, o + 1, none⟩ (.slice A2 (l.length + sb.size) c2)).heap[k]? = w2.heap[k]? := Below.heap_setCell _ _ _ _ hkM; rw [h3, HG2.out.block k (Nat.lt_of_lt_of_le hk HG1.out.size) hkv, HG1.out.block k hk (fun e => hkM (by injection e))]
theorem bldByte1 : Tryz.prog.cellsOf 5 = 1 := by kernel_rfl
set_option maxHeartbeats 2000000 in
set_option maxRecDepth 100000 in
theorem bldStringAt (M o g cap B : Nat) (cs : Array Value) (l : List UInt8) (W : World) (hM : W.heap[M]? = some (.cells cs 99 (0, 0))) (h1 : cs[o + 1]? = some (.slice (some ⟨g, 0, none⟩) l.length cap)) (hown : W.ownsRow B 5 1 (.slice (some ⟨g, 0, none⟩) l.length cap) l.length (Lib.byteCells l)) (hl : l ≠ []) :
    Calls Tryz.prog 59 #[.pointer (some ⟨M, o, none⟩)] W fun e w' => e = .returned (.string ⟨l.toArray⟩) ∧ w' = W.drew.freeze ⟨g, 0, none⟩ l.length := by
  have hl0 : l.length ≠ 0 := by simpa using hl
  obtain ⟨cur, hbg, hg, hnc, hcm, hcs, htake⟩ : ∃ cur, B ≤ g ∧ W.heap[g]? = some (.cells cur 5 (0, 0)) ∧ l.length ≤ cap ∧ cap ≤ maxLen ∧ cur.size = cap * 1 ∧ cur.toList.take (l.length * 1) = Lib.byteCells l := by
    rcases hown.2 with ⟨_, hz⟩ | ⟨g', cap', cur, hv, hb, hh, r⟩
    (· exact absurd hz hl0); (· injection hv with e1 _ e3; injection e1 with e1; injection e1 with e1; subst e1; subst e3; exact ⟨cur, hb, hh, r⟩)
  have c1 : W.drew.cell? ⟨M, o + 1, none⟩ = some (.slice (some ⟨g, 0, none⟩) l.length cap) := (blk_cell (w := W.drew) hM (o + 1)).trans h1
  have hSD : (Builtin.unsafeSliceData_ #[97] 134 #[.slice (some ⟨g, 0, none⟩) l.length cap]).run Tryz.prog W.drew = .ok (.pointer (some ⟨g, 0, none⟩)) W.drew :=
    Lib.run_unsafeSliceData_row _ _ _ _ _ _ (by omega)
  have hUS : (Builtin.unsafeString_ #[134, 3] 9 #[.pointer (some ⟨g, 0, none⟩), .int .i64 l.length]).run Tryz.prog W.drew = .ok (.string ⟨l.toArray⟩) (W.drew.freeze ⟨g, 0, none⟩ l.length) := by
    refine Lib.run_unsafeString_row W.drew 134 3 9 5 Tryz.underlying134 bldByte1 g cur.size (by have hg' : W.drew.heap[g]? = some (.cells cur 5 (0, 0)) := hg; simp [World.shape?, hg']) l hl (by omega) (by unfold maxLen at hcm; omega) ?_; intro j x hx; exact hown.cells (g := g) rfl j (.int .u8 x.toNat) (by simp [Lib.byteCells, hx])
  clear hown hg hM hnc hcs htake h1; go_enter Tryz.func59, Tryz.ntmps59
  go_wp2
  go_region
  all_goals (go_wp2; go_ret; exact ⟨rfl, rfl⟩)
set_option maxHeartbeats 2000000 in
set_option maxRecDepth 100000 in
theorem bldStringNil (M o : Nat) (cs : Array Value) (W : World) (hM : W.heap[M]? = some (.cells cs 99 (0, 0))) (h1 : cs[o + 1]? = some (.slice none 0 0)) :
    Calls Tryz.prog 59 #[.pointer (some ⟨M, o, none⟩)] W fun e w' => e = .returned (.string ⟨#[]⟩) ∧ w' = W.drew := by
  have hUS : ∀ (W : World) (q : Option Addr), (Builtin.unsafeString_ #[134, 3] 9 #[.pointer q, .int .i64 0]).run Tryz.prog W = .ok (.string .empty) W := fun W q => Lib.run_unsafeString_none W _ _ _ q; have c1 : W.drew.cell? ⟨M, o + 1, none⟩ = some (.slice none 0 0) := (blk_cell (w := W.drew) hM (o + 1)).trans h1; have hSD : (Builtin.unsafeSliceData_ #[97] 134 #[.slice none 0 0]).run Tryz.prog W.drew = .ok (.pointer none) W.drew := rfl; clear hM h1; go_enter Tryz.func59, Tryz.ntmps59
  go_wp2
  go_region
  all_goals (go_wp2; go_ret; exact ⟨rfl, rfl⟩)
structure BldRow (B M k : Nat) (ms : List (List UInt8)) (W : World) : Prop where
  base : B ≤ M
  ex : ∃ (cs : Array Value) (f : Nat → Nat), W.heap[M]? = some (.cells cs 99 (0, 0)) ∧ cs.size = 2 * ms.length ∧ ∀ i l, k ≤ i → ms[i]? = some l → ∃ p v, cs[2 * i]? = some p ∧ cs[2 * i + 1]? = some v ∧ (p = .pointer none ∨ p = .pointer (some ⟨M, 2 * i, none⟩)) ∧
    W.ownsRow B 5 1 v l.length (Lib.byteCells l) ∧ (l = [] → v = .slice none 0 0) ∧ ∀ b, v.ownBlock = some b → f b = i
def Stays (ts : List Nat) (W w' : World) : Prop := ∀ (b : Nat) (o : Obj), W.heap[b]? = some o → (∀ cells t fr, o = .cells cells t fr → t ∉ ts) → w'.heap[b]? = some o
theorem Stays.of_below {ts : List Nat} {W w' : World} (h : Below W.heap.size W w') : Stays ts W w' := fun b _ hb _ => (h.block b (blk_lt hb)).trans hb
theorem Stays.trans {ts : List Nat} {W w' w'' : World} (h : Stays ts W w') (k : Stays ts w' w'') : Stays ts W w'' := fun b o hb hn => k b o (h b o hb hn) hn
theorem Stays.cells {ts : List Nat} {W w' : World} (h : Stays ts W w') {b t : Nat} {cells : Array Value} {fr : Nat × Nat} (hb : W.heap[b]? = some (.cells cells t fr)) (ht : t ∉ ts) : w'.heap[b]? = some (.cells cells t fr) :=
  h b _ hb (fun _ _ _ e => by injection e with _ e _; rw [← e]; exact ht)
theorem Stays.own {ts : List Nat} {W w' : World} (h : Stays ts W w') {base e size n : Nat} {v : Value} {xs : List Value} (ho : W.ownsRow base e size v n xs) (ht : e ∉ ts) : w'.ownsRow base e size v n xs :=
  own_move ho (fun b hb => by obtain ⟨cells, hc⟩ := own_typed ho b hb; rw [hc]; exact h.cells hc ht)
theorem Stays.kd {α : Type} {d : Kd α} {ts : List Nat} {W w' : World} (h : Stays ts W w') {B e : Nat} {ok : Nat → Prop} {v : Value} {xs : List α} (hR : d.R e W B ok v xs) (ht : ∀ q, q ∈ e :: d.E → q ∉ ts) : d.R e w' B ok v xs :=
  Kd.R_mono (Kd.R_move (Kd.R_bound hR) (fun k hk => by
    obtain ⟨_, _, _, q, hq, cells, hc⟩ := hk; rw [hc]
    exact h.cells hc (ht q hq))) (fun _ hk => hk.1)
theorem Stays.R {W w' : World} {B : Nat} {ok : Nat → Prop} {v : Value} {xs : List Int} (h : Stays [99, 5] W w') (hR : Kd.R (Kd.int .i32) 21 W B ok v xs) : Kd.R (Kd.int .i32) 21 w' B ok v xs :=
  h.kd hR (fun q hq => by have : q = 21 := (by simpa [Kd.int, Kd.scalar] using hq); rw [this]; decide)
theorem BldRow.lt {B M k : Nat} {ms : List (List UInt8)} {W : World} (h : BldRow B M k ms W) : M < W.heap.size := by
  obtain ⟨cs, f, hM, _⟩ := h.ex; exact blk_lt hM
theorem BldRow.below {B M k : Nat} {ms : List (List UInt8)} {W W' : World} (h : BldRow B M k ms W) (hb : Below W.heap.size W W') : BldRow B M k ms W' := by
  obtain ⟨cs, f, hM, hn, hr⟩ := h.ex; refine ⟨h.base, cs, f, (hb.block M (blk_lt hM)).trans hM, hn, fun i l hk hi => ?_⟩; obtain ⟨p, v, h0, h1, hp, ho, hv, hf⟩ := hr i l hk hi; exact ⟨p, v, h0, h1, hp, own_move ho (fun b hbb => hb.block b (own_lt ho b hbb)), hv, hf⟩
theorem bld_cells_app (l : List UInt8) (sb : ByteArray) : Lib.byteCells (l ++ sb.data.toList) = Lib.byteCells l ++ Lib.strCells sb := by simp [Lib.byteCells, Lib.strCells]
theorem BldRow.write {B M : Nat} {ms : List (List UInt8)} {W : World} (h : BldRow B M 0 ms W) {i : Nat} {l : List UInt8} (hi : ms[i]? = some l) (sb : ByteArray) (hs0 : sb.size ≠ 0) (hsz : l.length + sb.size ≤ 1099511627776) :
    Calls Tryz.prog 57 #[.pointer (some ⟨M, 2 * i, none⟩), .string sb] W fun e w' => e = .returned (.tuple #[.int .i64 (sb.size : Int), .nilIface]) ∧ BldRow B M 0 (ms.set i (l ++ sb.data.toList)) w' ∧ Below B W w' ∧ Stays [99, 5] W w' := by
  obtain ⟨cs, f, hM, hn, hr⟩ := h.ex; obtain ⟨p, v, h0, h1, hp, ho, hv, hf⟩ := hr i l (Nat.zero_le _) hi; have hil : i < ms.length := (List.getElem?_eq_some_iff.1 hi).1; have hMlt := blk_lt hM; have hB : B ≤ W.heap.size := Nat.le_trans h.base (Nat.le_of_lt hMlt); have hol : (Lib.byteCells l).length = l.length := Lib.byteCells_length l; have hu8 : ∀ b, v.ownBlock = some b → ∃ cells, W.heap[b]? = some (.cells cells 5 (0, 0)) := fun b hb => own_typed ho b hb; refine (bldWriteAt B M i ms.length cs p v (Lib.byteCells l) sb W hM hn hil h0 hp h1 (by rw [hol]; exact ho) hB (by rw [hol]; exact hsz)).mono ?_; rintro e w' ⟨he, v', ho', hM', hat, hsize, ⟨hos, htp, hout⟩, hk⟩; rw [hol] at ho'; refine ⟨he, ⟨h.base, _, fun b => if v'.ownBlock = some b then i else f b, hM', by simp [hn], fun j lj _ hj => ?_⟩, ⟨hos, htp, hout, hsize, fun b hb => hk b (by omega) (by have := h.base; omega) (fun e => by have := own_base ho b e.symm; omega)⟩, fun b o hb hno => (hk b (blk_lt hb) (fun e => ?_) (fun e => ?_)).trans hb⟩
  · by_cases hij : j = i
    · subst hij
      rw [List.getElem?_set_self hil] at hj; obtain rfl := Option.some.inj hj; refine ⟨.pointer (some ⟨M, 2 * j, none⟩), v', ?_, ?_, .inr rfl, ?_, fun h0 => ?_, fun b hb => by simp [hb]⟩
      · rw [Array.getElem?_setIfInBounds_ne (by omega), Array.getElem?_setIfInBounds_self]
        simp; omega
      · rw [Array.getElem?_setIfInBounds_self]
        simp; omega
      · rw [bld_cells_app, List.length_append]
        have : sb.data.toList.length = sb.size := by rw [Array.length_toList]; rfl
        rw [this]; exact ho'
      · exfalso
        have h4 := List.append_eq_nil_iff.1 h0
        have : sb.data.toList.length = sb.size := by rw [Array.length_toList]; rfl
        rw [h4.2] at this; exact hs0 this.symm
    · rw [List.getElem?_set_ne (Ne.symm hij)] at hj
      obtain ⟨pj, vj, g0, g1, gp, go, gv, gf⟩ := hr j lj (Nat.zero_le _) hj; have hjl : j < ms.length := (List.getElem?_eq_some_iff.1 hj).1; have hneb : ∀ b, vj.ownBlock = some b → some b ≠ v.ownBlock := fun b hb e => hij ((gf b hb).symm.trans (hf b e.symm))
      have hvM : ∀ b, vj.ownBlock = some b → b ≠ M := by
        rintro b hb rfl; obtain ⟨cells, hc⟩ := own_typed go b hb; rw [hM] at hc; injection hc with hc; injection hc with _ hc; exact absurd hc (by decide)
      refine ⟨pj, vj, ?_, ?_, gp, own_move go (fun b hb => hk b (own_lt go b hb) (hvM b hb) (hneb b hb)), gv, fun b hb => ?_⟩; (· rw [Array.getElem?_setIfInBounds_ne (by omega), Array.getElem?_setIfInBounds_ne (by omega)]; exact g0); (· rw [Array.getElem?_setIfInBounds_ne (by omega), Array.getElem?_setIfInBounds_ne (by omega)]; exact g1)
      · have : v'.ownBlock ≠ some b := by
          intro e
          rcases hat with hat | ⟨b', hb', hle⟩
          (· exact hneb b hb (e.symm.trans hat)); (· rw [hb'] at e; injection e with e; have := own_lt go b hb; omega)
        show (if v'.ownBlock = some b then i else f b) = j; rw [if_neg this]; exact gf b hb
  (· rw [e, hM] at hb; exact hno _ _ _ (Option.some.inj hb).symm (by decide)); (· obtain ⟨cells', hc⟩ := hu8 b e.symm; rw [hb] at hc; exact hno _ _ _ (Option.some.inj hc) (by decide))
theorem BldRow.made (W : World) (B n : Nat) (cs : Array Value) (hB : B ≤ W.heap.size) (hn : cs.size = 2 * n) (hc : ∀ i, i < n → cs[2 * i]? = some (.pointer none) ∧ cs[2 * i + 1]? = some (.slice none 0 0)) : BldRow B W.heap.size 0 (List.replicate n []) (W.alloc (.cells cs 99)) := by
  refine ⟨hB, cs, fun _ => 0, heap_alloc_new _ _, by simp [hn], fun i l _ hi => ?_⟩; obtain ⟨hil, rfl⟩ := List.getElem?_eq_some_iff.1 hi
  simp at hil
  obtain ⟨h0, h1⟩ := hc i hil; refine ⟨_, _, h0, h1, .inl rfl, ?_, fun _ => rfl, fun b hb => by simp [Value.ownBlock] at hb⟩
  simp [Lib.byteCells]
  exact World.ownsRow_nil _ _ _ _
theorem sets_Parts.bldCells (W : World) (n : Nat) (hn : n ≤ 67108864) : ∃ cs : Array Value, cs.size = 2 * n ∧ (∀ i, i < n → cs[2 * i]? = some (.pointer none) ∧ cs[2 * i + 1]? = some (.slice none 0 0)) ∧ ∀ W, (Instr.makeSlice 92 (.int .i64 (n : Int)) (.int .i64 (n : Int))).run Tryz.prog W = .ok (.slice (some ⟨W.heap.size, 0, none⟩) n n) (W.alloc (.cells cs 99)) := by
  obtain ⟨i0, hi, hzz⟩ := Option.map_eq_some_iff.1 (show (Tryz.prog.info? 99).map (fun i => (i.zero, i.size, i.bytes)) = some (some (.agg #[.pointer none, .slice none 0 0]), 2, 32) by kernel_rfl); simp only [Prod.mk.injEq] at hzz; obtain ⟨hz0, hz1, hz2⟩ := hzz; refine ⟨madeCells (Value.agg #[.pointer none, .slice none 0 0]).cells (n * 2), by rw [size_madeCells]; omega, fun i hi => ?_, fun W => ?_⟩
  · have e : (Value.agg #[.pointer none, .slice none 0 0]).cells = #[.pointer none, .slice none 0 0] := rfl
    rw [e]; unfold madeCells
    have h1 : 2 * i < n * 2 := by omega
    have h2 : 2 * i + 1 < n * 2 := by omega
    have h3 : 2 * i % 2 = 0 := by omega
    have h4 : (2 * i + 1) % 2 = 1 := by omega
    constructor
    · simp [h1, h3]
    · simp [h2, h4]
  · have := run_make (P := Tryz.prog) W 92 99 i0 _ Tryz.underlying92 hi hz0 .i64 .i64 (n : Int) (n : Int) (by omega) (by omega) (by rw [hz2]; omega) (by omega); rw [this, hz1, Int.toNat_natCast]
set_option maxHeartbeats 4000000 in
set_option maxRecDepth 100000 in
theorem sets_Parts.ph7 (w w1 : World) (s : Nat → Value) (xs : List Int) (hl : xs.length ≤ 67108864) (hR : Kd.R (Kd.int .i32) 21 w1 w.heap.size (fun _ => True) (s 5) xs) (hB : Below w.heap.size w w1) (Q : Exit → Act → World → Prop)
    (hQ : ∀ (s' : Nat → Value) (w' : World) (M : Nat), s' 0 = s 0 → s' 5 = s 5 → s' 12 = .slice (some ⟨M, 0, none⟩) xs.length xs.length → Kd.R (Kd.int .i32) 21 w' w.heap.size (fun _ => True) (s' 5) xs → BldRow w.heap.size M 0 (List.replicate xs.length []) w' → Below w.heap.size w w' → Q .normal ⟨sets_Parts.frm s', []⟩ w') :
    Code.wp Tryz.prog (sets_Parts.at_ 7) Q ⟨sets_Parts.frm s, []⟩ w1 := by
  obtain ⟨A, c, h5⟩ := Kd.R_slice hR; obtain ⟨cs, hcs, hcc, hmk⟩ := sets_Parts.bldCells w1 xs.length hl; have HQ := Aside0.mk hQ; have HR := Aside0.mk hR; have HB := Aside0.mk hB; have HC := Aside0.mk (And.intro hcs hcc); clear hQ hR hB hcs hcc
  conv => arg 2; whnf
  rw [sets_Parts.frm_lit, h5]
  go_wp2
  exact sets_Parts.leave rfl (HQ.out _ _ w1.heap.size rfl h5.symm rfl (by have := Kd.R_alloc HR.out (.cells cs 99); rw [h5] at this; exact this) (BldRow.made w1 w.heap.size xs.length cs (below_size HB.out) HC.out.1 HC.out.2) (below_alloc HB.out _))
def sets_Parts.inS (l : List S41) (u : Int) : Bool := l.any fun r => decide (r.f0 ≤ u ∧ u ≤ r.f1)
def sets_Parts.keyB (n : Nat) : List UInt8 := Lib.itoa (n : Int) ++ [44]
def sets_Parts.keyN (l0 : List (List S41)) (u : Int) (n : Nat) : List UInt8 := (List.range n).flatMap fun (j : Nat) => if sets_Parts.inS (rd_L4 l0 (j : Int)) u then sets_Parts.keyB j else []
theorem sets_Parts.keyN_succ (l0 : List (List S41)) (u : Int) (n : Nat) : sets_Parts.keyN l0 u (n + 1) = sets_Parts.keyN l0 u n ++ (if sets_Parts.inS (rd_L4 l0 (n : Int)) u then sets_Parts.keyB n else []) := by
  unfold sets_Parts.keyN; rw [List.range_succ, List.flatMap_append, List.flatMap_cons, List.flatMap_nil, List.append_nil]
theorem sets_Parts.keyB_len (n : Nat) (h : n ≤ 1073741824) : (sets_Parts.keyB n).length ≤ 22 := by
  have := Lib.itoa_length_le (n : Int) (by omega) (by omega)
  simp [sets_Parts.keyB]
  omega
theorem sets_Parts.keyN_len (l0 : List (List S41)) (u : Int) (n : Nat) (h : n ≤ 1073741824) : (sets_Parts.keyN l0 u n).length ≤ 22 * n := by
  induction n with
  | zero => simp [sets_Parts.keyN]
  | succ n ih =>
    rw [sets_Parts.keyN_succ, List.length_append]; have h1 := ih (by omega); have h2 := sets_Parts.keyB_len n (by omega)
    split
    · omega
    · simp; omega
def sets_Parts.marks (l0 : List (List S41)) (cs : List Int) (n i : Nat) : List (List UInt8) := (List.range cs.length).map fun t => sets_Parts.keyN l0 (cs.getD t 0) (if t < i then n + 1 else n)
theorem sets_Parts.marks_at (l0 : List (List S41)) (cs : List Int) (n i t : Nat) (ht : t < cs.length) : (sets_Parts.marks l0 cs n i)[t]? = some (sets_Parts.keyN l0 (cs.getD t 0) (if t < i then n + 1 else n)) := by simp [sets_Parts.marks, ht]
theorem sets_Parts.marks_start (l0 : List (List S41)) (cs : List Int) : sets_Parts.marks l0 cs 0 0 = List.replicate cs.length [] := by
  apply List.ext_getElem?; intro t
  by_cases ht : t < cs.length
  (· rw [sets_Parts.marks_at _ _ _ _ _ ht]; simp [sets_Parts.keyN, ht]); (· rw [List.getElem?_eq_none (by simp [sets_Parts.marks]; omega), List.getElem?_eq_none (by simp; omega)])
theorem sets_Parts.marks_next (l0 : List (List S41)) (cs : List Int) (n : Nat) : sets_Parts.marks l0 cs n cs.length = sets_Parts.marks l0 cs (n + 1) 0 := by
  apply List.ext_getElem?; intro t
  by_cases ht : t < cs.length
  (· rw [sets_Parts.marks_at _ _ _ _ _ ht, sets_Parts.marks_at _ _ _ _ _ ht, if_pos ht, if_neg (Nat.not_lt_zero _)]); (· rw [List.getElem?_eq_none (by simp [sets_Parts.marks]; omega), List.getElem?_eq_none (by simp [sets_Parts.marks]; omega)])
theorem sets_Parts.marks_end (l0 : List (List S41)) (cs : List Int) (n : Nat) : sets_Parts.marks l0 cs n 0 = cs.map fun u => sets_Parts.keyN l0 u n := by
  apply List.ext_getElem?; intro t
  by_cases ht : t < cs.length
  (· rw [sets_Parts.marks_at _ _ _ _ _ ht, if_neg (Nat.not_lt_zero _)]; simp [ht]); (· rw [List.getElem?_eq_none (by simp [sets_Parts.marks]; omega), List.getElem?_eq_none (by simp; omega)])
theorem sets_Parts.marks_yes (l0 : List (List S41)) (cs : List Int) (n i : Nat) (hi : i < cs.length) (h : sets_Parts.inS (rd_L4 l0 (n : Int)) (cs.getD i 0) = true) : (sets_Parts.marks l0 cs n i).set i (sets_Parts.keyN l0 (cs.getD i 0) n ++ sets_Parts.keyB n) = sets_Parts.marks l0 cs n (i + 1) := by
  apply List.ext_getElem?; intro t
  by_cases ht : t < cs.length
  · by_cases hti : t = i
    · subst hti; rw [List.getElem?_set_self (by simp [sets_Parts.marks]; exact hi), sets_Parts.marks_at _ _ _ _ _ ht, if_pos (Nat.lt_succ_self _), sets_Parts.keyN_succ, if_pos h]
    · rw [List.getElem?_set_ne (Ne.symm hti), sets_Parts.marks_at _ _ _ _ _ ht, sets_Parts.marks_at _ _ _ _ _ ht]
      by_cases h2 : t < i
      (· rw [if_pos h2, if_pos (by omega)]); (· rw [if_neg h2, if_neg (by omega)])
  · rw [List.getElem?_eq_none (by simp [sets_Parts.marks]; omega), List.getElem?_eq_none (by simp [sets_Parts.marks]; omega)]
theorem sets_Parts.marks_no (l0 : List (List S41)) (cs : List Int) (n i : Nat) (hi : i < cs.length) (h : sets_Parts.inS (rd_L4 l0 (n : Int)) (cs.getD i 0) = false) : sets_Parts.marks l0 cs n i = sets_Parts.marks l0 cs n (i + 1) := by
  apply List.ext_getElem?; intro t
  by_cases ht : t < cs.length
  · rw [sets_Parts.marks_at _ _ _ _ _ ht, sets_Parts.marks_at _ _ _ _ _ ht]
    by_cases hti : t = i
    · subst hti; rw [if_neg (Nat.lt_irrefl _), if_pos (Nat.lt_succ_self _), sets_Parts.keyN_succ, h]; simp
    · by_cases h2 : t < i
      (· rw [if_pos h2, if_pos (by omega)]); (· rw [if_neg h2, if_neg (by omega)])
  · rw [List.getElem?_eq_none (by simp [sets_Parts.marks]; omega), List.getElem?_eq_none (by simp [sets_Parts.marks]; omega)]
theorem sets_Parts.inS_at {l : List S41} {u : Int} {k : Nat} (hs : l.Pairwise (fun a b => a.f1 + 1 < b.f0)) (hf : ∀ r ∈ l, r.f0 ≤ r.f1) (hlow : ∀ j, j < k → (rd_T41 l (j : Int)).f1 < u) (hk : k ≤ l.length) (hstop : k < l.length → u ≤ (rd_T41 l (k : Int)).f1) :
    sets_Parts.inS l u = (decide (k < l.length) && decide ((rd_T41 l (k : Int)).f0 ≤ u)) := by
  have hrd : ∀ j (h : j < l.length), rd_T41 l (j : Int) = l[j] := fun j h => by simp [rd_T41, h]
  rw [Bool.eq_iff_iff]; simp only [sets_Parts.inS, List.any_eq_true, decide_eq_true_eq, Bool.and_eq_true]; constructor
  · rintro ⟨r, hr, h1, h2⟩
    obtain ⟨j, hj, rfl⟩ := List.getElem_of_mem hr
    have hjk : k ≤ j := by
      rcases Nat.lt_or_ge j k with h | h
      (· have := hlow j h; rw [hrd j hj] at this; omega); (· exact h)
    have hkl : k < l.length := by omega
    refine ⟨hkl, ?_⟩; rw [hrd k hkl]
    rcases Nat.lt_or_ge k j with h | h
    · have h3 := List.pairwise_iff_getElem.1 hs k j hkl hj h; have h4 := hf _ (List.getElem_mem hkl); omega
    · have : j = k := by omega
      subst this; exact h1
  · rintro ⟨hkl, h1⟩; have h2 := hstop hkl; rw [hrd k hkl] at h1 h2; exact ⟨_, List.getElem_mem hkl, h1, h2⟩
theorem sets_Parts.itoaCalls (n : Nat) (hn : n ≤ 1073741824) (W : World) (hT : Lib.TabIs Tryz.prog W "internal/strconv.uint64pow10" .u64 Lib.pow10Tab) :
    Calls Tryz.prog 58 #[.int .i64 (n : Int)] W fun e w' => e = .returned (.string ⟨(Lib.itoa (n : Int)).toArray⟩) ∧ Below W.heap.size W w' := by
  refine (Any.strconv_Itoa Tryz.itoa171 (n : Int) (by omega) (by omega) W hT).mono ?_; rintro e w' ⟨rfl, k, os, rfl⟩; exact ⟨rfl, sets_Parts.below_grow (pw_below_drewN (Below.refl _ _) _) (Nat.le_refl _)⟩
theorem sets_Parts.keyB_str (n : Nat) : ((⟨(Lib.itoa (n : Int)).toArray⟩ : ByteArray) ++ ⟨#[44]⟩).data.toList = sets_Parts.keyB n := by
  rw [ByteArray.data_append]
  simp [sets_Parts.keyB]
theorem sets_Parts.keyB_size (n : Nat) : ((⟨(Lib.itoa (n : Int)).toArray⟩ : ByteArray) ++ ⟨#[44]⟩).size = (sets_Parts.keyB n).length := by
  rw [← sets_Parts.keyB_str]; rw [Array.length_toList]; rfl
theorem sets_Parts.rdI (cs : List Int) (i : Nat) (hi : i < cs.length) : cs[i]? = some (cs.getD i 0) := by simp [hi]
theorem sets_Parts.asc_get {cs : List Int} (h : cs.Pairwise (fun a b => a < b)) {i t : Nat} (hi : i < cs.length) (ht : t < cs.length) (hit : i ≤ t) : cs.getD i 0 ≤ cs.getD t 0 := by
  have e1 : cs.getD i 0 = cs[i] := by simp [hi]
  have e2 : cs.getD t 0 = cs[t] := by simp [ht]
  rw [e1, e2]
  rcases Nat.lt_or_ge i t with h1 | h1
  · exact Int.le_of_lt (List.pairwise_iff_getElem.1 h i t hi ht h1)
  · have : i = t := by omega
    subst this; exact Int.le_refl _
set_option maxHeartbeats 8000000 in
set_option maxRecDepth 100000 in
theorem sets_Parts.ph8 (w w1 : World) (hT : Lib.TabBelow Tryz.prog w.heap.size w "internal/strconv.uint64pow10" .u64 Lib.pow10Tab) (A0 : Option Addr) (c0 : Nat) (l0 : List (List S41)) (hr0 : Kd.C (Kd.slice 41 k41) w A0 l0.length l0) (hl : l0.length ≤ 16777216) (ht : sets_Parts.tot l0 ≤ 16777216)
    (hsd : ∀ l ∈ l0, l.Pairwise (fun a b => a.f1 + 1 < b.f0) ∧ ∀ r ∈ l, r.f0 ≤ r.f1)
    (s : Nat → Value) (h0 : s 0 = .slice A0 l0.length c0) (cs : List Int) (hcl : cs.length ≤ 67108864) (hne : cs ≠ []) (hasc : cs.Pairwise (fun a b => a < b)) (hR : Kd.R (Kd.int .i32) 21 w1 w.heap.size (fun _ => True) (s 5) cs) (M : Nat) (h12 : s 12 = .slice (some ⟨M, 0, none⟩) cs.length cs.length)
    (hBR : BldRow w.heap.size M 0 (List.replicate cs.length []) w1) (hB : Below w.heap.size w w1) (Q : Exit → Act → World → Prop)
    (hQ : ∀ (s' : Nat → Value) (w' : World), s' 0 = s 0 → s' 5 = s 5 → s' 12 = s 12 → Kd.R (Kd.int .i32) 21 w' w.heap.size (fun _ => True) (s' 5) cs → BldRow w.heap.size M 0 (cs.map fun u => sets_Parts.keyN l0 u l0.length) w' → Below w.heap.size w w' → Q .normal ⟨sets_Parts.frm s', []⟩ w') :
    Code.wp Tryz.prog (sets_Parts.at_ 8) Q ⟨sets_Parts.frm s, []⟩ w1 := by
  obtain ⟨g, cap, h5, hg1, hg2, hg3, hg6, hg7⟩ := sets_Parts.holds hR hne; have HT := Aside0.mk hT; have HQ := Aside0.mk hQ; have HC := Aside0.mk hr0; have HSD := Aside0.mk hsd; have HASC := Aside0.mk hasc; have HTT := Aside0.mk ht; rw [h5] at hR; have HR := Aside0.mk hR; have HB0 := Aside0.mk hB; rw [← sets_Parts.marks_start l0 cs] at hBR; have HBR := Aside0.mk hBR; clear hT hQ hr0 hsd hasc ht hR hB hBR hg1 hg2 hg3 hg6 hg7 hne
  conv => arg 2; whnf
  rw [sets_Parts.frm_lit, h5, h0, h12]; obtain ⟨ga, hga⟩ : ∃ ga : Addr, ga = ⟨g, 0, none⟩ := ⟨_, rfl⟩; rw [← hga] at h5 HR ⊢; obtain ⟨ma, hma⟩ : ∃ ma : Addr, ma = ⟨M, 0, none⟩ := ⟨_, rfl⟩; rw [← hma] at h12 ⊢; have HGA := Aside0.mk hga; have HMA := Aside0.mk hma; clear hga hma
  go_wp2
  go_loopw [81] (fun v81 wr => ∃ n : Nat, v81 = .int .i64 (n : Int) ∧ n ≤ l0.length ∧ Aside0 (BldRow w.heap.size M 0 (sets_Parts.marks l0 cs n 0) wr) ∧ Aside0 (Below w.heap.size w wr) ∧ Aside0 (Kd.R (Kd.int .i32) 21 wr w.heap.size (fun _ => True) (.slice (some ga) cs.length cap) cs)) (fun v81 _ => l0.length - (intOf v81).toNat)
  case atStart => exact ⟨0, rfl, Nat.zero_le _, HBR, HB0, HR⟩
  case round =>
    obtain ⟨n, rfl, hn, HM1, HB1, HR1⟩ := hrel
    by_cases hlt : n < l0.length
    · have hd1 : decide (n < l0.length) = true := decide_eq_true hlt
      have HLT := Aside0.mk hlt; obtain ⟨ad, A1, c1, e, hcl1, hcc, hC1⟩ := at_L4 HC.out (n : Int) (by omega) (by omega)
      cases e
      replace hcl1 := (HB1.out.cell (World.block_lt_of_cell? w _ hcl1)).trans hcl1; obtain ⟨l, hl_⟩ : ∃ x, x = rd_L4 l0 (n : Int) := ⟨_, rfl⟩; rw [← hl_] at hcl1 hcc hC1; have HCL := Aside0.mk hC1; have HLE := Aside0.mk hl_; have HLL := Aside0.mk (by have h1 := sets_Parts.tot_get l0 n hlt; have h2 := HTT.out; rw [hl_]; omega : l.length ≤ 16777216); have HS := Aside0.mk (by rw [hl_]; have e : rd_L4 l0 (n : Int) = l0[n] := (by simp [rd_L4, hlt]); rw [e]; exact HSD.out _ (List.getElem_mem hlt) : l.Pairwise (fun a b => a.f1 + 1 < b.f0) ∧ ∀ r ∈ l, r.f0 ≤ r.f1); have hp := eq_true (show (0 : Int) ≤ (n : Int) by omega); have hq := eq_true (show (n : Int) < (l0.length : Int) from Int.ofNat_lt.2 hlt)
      have hnb : (n : Int) ≤ 16777216 := by omega
      simp only [Int.toNat_natCast] at hcl1; clear hl_ hC1 hcc hlt
      go_wp2
      obtain ⟨wo, rfl⟩ : ∃ wo : World, wo = wr := ⟨_, rfl⟩
      go_loopw [15, 88] (fun v15 v88 wr => ∃ i k : Nat, v88 = .int .i64 (i : Int) ∧ i ≤ cs.length ∧ v15 = .int .i64 (k : Int) ∧ k ≤ l.length ∧ Aside0 (∀ j, j < k → ∀ t, i ≤ t → t < cs.length → (rd_T41 l (j : Int)).f1 < cs.getD t 0) ∧ Aside0 (BldRow w.heap.size M 0 (sets_Parts.marks l0 cs n i) wr) ∧ Aside0 (Below w.heap.size w wr) ∧ Aside0 (Kd.R (Kd.int .i32) 21 wr w.heap.size (fun _ => True) (.slice (some ga) cs.length cap) cs)) (fun _ v88 _ => cs.length - (intOf v88).toNat)
      case atStart => exact ⟨0, 0, rfl, Nat.zero_le _, rfl, Nat.zero_le _, ⟨fun j hj => absurd hj (Nat.not_lt_zero _)⟩, HM1, HB1, HR1⟩
      case round =>
        obtain ⟨i, k, rfl, hi, rfl, hk, HLOW, HM2, HB2, HR2⟩ := hrel
        by_cases hil : i < cs.length
        · have hd2 : decide (i < cs.length) = true := decide_eq_true hil
          have HIL := Aside0.mk hil; obtain ⟨u, hu⟩ : ∃ u, u = cs.getD i 0 := ⟨_, rfl⟩
          have hcu : wr.cell? (ga.add i) = some (.int .i32 u) := by
            have h1 := Kd.own_of_R HR2.out; rw [sets_Parts.encs_eq, HGA.out] at h1; have h2 := h1.cells (g := g) rfl i (.int .i32 u) (by rw [List.getElem?_map, sets_Parts.rdI cs i hil, hu]; rfl); rw [HGA.out]; exact h2
          have HU := Aside0.mk hu; have hp2 := eq_true (show (0 : Int) ≤ (i : Int) by omega); have hq2 := eq_true (show (i : Int) < (cs.length : Int) from Int.ofNat_lt.2 hil)
          have hib : (i : Int) ≤ 67108864 := by omega
          have HLOWu := Aside0.mk (fun j hj => by rw [hu]; exact HLOW.out j hj i (Nat.le_refl _) hil : ∀ j, j < k → (rd_T41 l (j : Int)).f1 < u); clear hu hil
          go_wp2
          go_loop [15] (fun v15 => ∃ k1 : Nat, v15 = .int .i64 (k1 : Int) ∧ k1 ≤ l.length ∧ Aside0 (∀ j, j < k1 → (rd_T41 l (j : Int)).f1 < u)) (fun v15 => l.length - (intOf v15).toNat)
          case atStart => exact ⟨k, rfl, hk, HLOWu⟩
          case round =>
            obtain ⟨k1, rfl, hk1, HLOW1⟩ := hrel
            by_cases hkl : k1 < l.length
            · have hd3 : decide (k1 < l.length) = true := decide_eq_true hkl
              have HKL := Aside0.mk hkl; obtain ⟨ad2, e, hx0, hx1⟩ := at_T41 HCL.out (k1 : Int) (by omega) (by omega)
              cases e
              replace hx0 := (HB2.out.cell (World.block_lt_of_cell? w _ hx0)).trans hx0; replace hx1 := (HB2.out.cell (World.block_lt_of_cell? w _ hx1)).trans hx1; obtain ⟨re, hre⟩ : ∃ x, x = rd_T41 l (k1 : Int) := ⟨_, rfl⟩; rw [← hre] at hx0 hx1; have HRE := Aside0.mk hre; simp only [Int.toNat_natCast] at hx0 hx1; have hp3 := eq_true (show (0 : Int) ≤ (k1 : Int) by omega); have hq3 := eq_true (show (k1 : Int) < (l.length : Int) from Int.ofNat_lt.2 hkl)
              have hkb : (k1 : Int) ≤ 16777216 := by have := HLL.out; omega
              clear hre hkl
              by_cases hfu : re.f1 < u
              · have hd4 : decide (re.f1 < u) = true := decide_eq_true hfu
                have HFU := Aside0.mk hfu; clear hfu
                go_wp2
                exact ⟨⟨k1 + 1, by first | exact sets_Parts.num k1 | rfl, HKL.out, ⟨fun j hj => by rcases Nat.lt_or_ge j k1 with h | h; exact HLOW1.out j h; (have e : j = k1 := (by omega)); rw [e, ← HRE.out]; exact HFU.out⟩⟩, sets_Parts.meas _ _ HKL.out⟩
              · have hd4 : decide (re.f1 < u) = false := decide_eq_false hfu
                have HIN := Aside0.mk (by have h := sets_Parts.inS_at (u := u) HS.out.1 HS.out.2 HLOW1.out hk1 (fun _ => by rw [← HRE.out]; omega); rw [← HRE.out, hd3, Bool.true_and] at h; exact h : sets_Parts.inS l u = decide (re.f0 ≤ u)); clear hfu
                by_cases hfo : re.f0 ≤ u
                · have hd5 : decide (re.f0 ≤ u) = true := decide_eq_true hfo
                  clear hfo
                  go_wp2
                  have HMA2 := Aside0.mk (by rw [HMA.out, add_plain, Nat.mul_comm] : ma.add (i * 2) = ⟨M, 2 * i, none⟩); have HNL := Aside0.mk (show n ≤ 16777216 by omega); rw [hd5] at HIN; have hat := sets_Parts.marks_at l0 cs n i i HIL.out; rw [if_neg (Nat.lt_irrefl _)] at hat; have HAT := Aside0.mk hat; clear hat; obtain ⟨ib, hib⟩ : ∃ ib : ByteArray, ib = ⟨(Lib.itoa (n : Int)).toArray⟩ := ⟨_, rfl⟩; obtain ⟨sb, hsb⟩ : ∃ sb : ByteArray, sb = ib ++ ⟨#[44]⟩ := ⟨_, rfl⟩
                  have hss : sb.size = (sets_Parts.keyB n).length := by rw [hsb, hib]; exact sets_Parts.keyB_size n
                  have hsl : sb.data.toList = sets_Parts.keyB n := by rw [hsb, hib]; exact sets_Parts.keyB_str n
                  have hia : ((ib.size : Int) ≤ 8388608) := by have h2 := Lib.itoa_length_le (n : Int) (by omega) (by have := HNL.out; omega); rw [hib]; simp [ByteArray.size]; omega
                  have hcat : ∀ W : World, (Op.stringOp .add ib ⟨#[44]⟩).run Tryz.prog W = .ok (.string sb) W := fun W => by rw [run_string_add W ib ⟨#[44]⟩ hia (by decide), hsb]
                  have hcat2 : ∀ W : World, (binOp .add 9 (.string ib) (.string ⟨#[44]⟩)).run Tryz.prog W = .ok (.string sb) W := fun W => by rw [binOp_string_add]; exact hcat W
                  have HIT := Aside0.mk (fun W hW => by rw [hib]; exact sets_Parts.itoaCalls n (Nat.le_trans HNL.out (by decide)) W hW : ∀ W, Lib.TabIs Tryz.prog W "internal/strconv.uint64pow10" .u64 Lib.pow10Tab → Calls Tryz.prog 58 #[.int .i64 (n : Int)] W fun e w' => e = .returned (.string ib) ∧ Below W.heap.size W w'); have HSS := Aside0.mk hss; have HSL := Aside0.mk hsl; clear hib hsb hss hsl
                  go_region_held3 (fun _ => True) (trivial) (first
                    | (go_at_call 58; refine (HIT.out _ (HT.out _ HB2.out.drew)).mono ?_; rintro e w3 ⟨rfl, hb3⟩; have H3 := Aside0.mk (below_step HB2.out.drew hb3); have HM3 := Aside0.mk ((HM2.out.below (Below.refl _ _).drew).below hb3); have HR3 := Aside0.mk (Kd.R_below (Kd.R_drew HR2.out) hb3); clear hb3)
                    | (go_at_call 57; rw [HMA2.out]; refine (HM3.out.write HAT.out sb (by rw [HSS.out]; simp [sets_Parts.keyB]) (by rw [HSS.out]; have h1 := sets_Parts.keyN_len l0 (cs.getD i 0) n (Nat.le_trans HNL.out (by decide)); have h2 := sets_Parts.keyB_len n (Nat.le_trans HNL.out (by decide)); have h3 := HNL.out; omega)).mono ?_; rintro e w4 ⟨rfl, hm4, hb4, ho4⟩; rw [HSL.out, sets_Parts.marks_yes l0 cs n i HIL.out (by rw [← HU.out, ← HLE.out]; exact HIN.out)] at hm4; have HM4 := Aside0.mk hm4; have H4 := Aside0.mk (H3.out.trans hb4); have HR4 := Aside0.mk (ho4.R HR3.out); clear hm4 hb4 ho4))
                  go_wp2
                  exact ⟨⟨i + 1, k1, by first | exact sets_Parts.num i | rfl, HIL.out, rfl, hk1, ⟨fun j hj t ht1 ht2 => by have h1 := HLOW1.out j hj; have h2 := sets_Parts.asc_get HASC.out HIL.out ht2 (show i ≤ t by omega); rw [← HU.out] at h2; omega⟩, HM4, H4, HR4⟩, sets_Parts.meas _ _ HIL.out⟩
                · have hd5 : decide (re.f0 ≤ u) = false := decide_eq_false hfo
                  rw [hd5] at HIN; clear hfo
                  go_wp2
                  exact ⟨⟨i + 1, k1, by first | exact sets_Parts.num i | rfl, HIL.out, rfl, hk1, ⟨fun j hj t ht1 ht2 => by have h1 := HLOW1.out j hj; have h2 := sets_Parts.asc_get HASC.out HIL.out ht2 (show i ≤ t by omega); rw [← HU.out] at h2; omega⟩, ⟨by rw [← sets_Parts.marks_no l0 cs n i HIL.out (by rw [← HU.out, ← HLE.out]; exact HIN.out)]; exact HM2.out⟩, HB2, HR2⟩, sets_Parts.meas _ _ HIL.out⟩
            · have hd3 : decide (k1 < l.length) = false := decide_eq_false hkl
              have HIN := Aside0.mk (by have h := sets_Parts.inS_at (u := u) HS.out.1 HS.out.2 HLOW1.out hk1 (fun h => absurd h hkl); rw [hd3, Bool.false_and] at h; exact h : sets_Parts.inS l u = false); clear hkl
              go_wp2
              exact ⟨⟨i + 1, k1, by first | exact sets_Parts.num i | rfl, HIL.out, rfl, hk1, ⟨fun j hj t ht1 ht2 => by have h1 := HLOW1.out j hj; have h2 := sets_Parts.asc_get HASC.out HIL.out ht2 (show i ≤ t by omega); rw [← HU.out] at h2; omega⟩, ⟨by rw [← sets_Parts.marks_no l0 cs n i HIL.out (by rw [← HU.out, ← HLE.out]; exact HIN.out)]; exact HM2.out⟩, HB2, HR2⟩, sets_Parts.meas _ _ HIL.out⟩
        · have hd2 : decide (i < cs.length) = false := decide_eq_false hil
          obtain rfl : i = cs.length := Nat.le_antisymm hi (Nat.not_lt.1 hil); clear hil hi
          go_wp2
          exact ⟨⟨n + 1, by first | exact sets_Parts.num n | rfl, HLT.out, ⟨by rw [← sets_Parts.marks_next]; exact HM2.out⟩, HB2, HR2⟩, sets_Parts.meas _ _ HLT.out⟩
    · have hd1 : decide (n < l0.length) = false := decide_eq_false hlt
      obtain rfl : n = l0.length := Nat.le_antisymm hn (Nat.not_lt.1 hlt); have hm := HM1.out; rw [sets_Parts.marks_end] at hm; have HMx := Aside0.mk hm; clear hm hlt hn
      go_wp2
      exact sets_Parts.leave rfl (HQ.out _ _ h0.symm h5.symm h12.symm HR1.out HMx.out HB1.out)
theorem Stays.freeze {W : World} {g n : Nat} {cur : Array Value} {t : Nat} {fr : Nat × Nat} (hg : W.heap[g]? = some (.cells cur t fr)) : Stays [t] W (W.freeze ⟨g, 0, none⟩ n) := by
  intro b o hb hn; unfold World.freeze
  split
  · exact hb
  · simp only [Array.getElem?_modify]
    by_cases e : g = b
    (· subst e; rw [hg] at hb; exact absurd (by simp) (hn _ _ _ (Option.some.inj hb).symm)); (· rw [if_neg e]; exact hb)
theorem frozen_other {W : World} {g n b : Nat} (h : b ≠ g) : (W.freeze ⟨g, 0, none⟩ n).heap[b]? = W.heap[b]? := by
  unfold World.freeze
  split
  (· rfl); (· simp only [Array.getElem?_modify]; rw [if_neg (fun e => h e.symm)])
theorem BldRow.str {B M k : Nat} {ms : List (List UInt8)} {W : World} (h : BldRow B M k ms W) {l : List UInt8} (hi : ms[k]? = some l) :
    Calls Tryz.prog 59 #[.pointer (some ⟨M, 2 * k, none⟩)] W fun e w' => e = .returned (.string ⟨l.toArray⟩) ∧ BldRow B M (k + 1) ms w' ∧ Below B W w' ∧ Stays [99, 5] W w' := by
  obtain ⟨cs, f, hM, hn, hr⟩ := h.ex; obtain ⟨p, v, h0, h1, hp, ho, hv, hf⟩ := hr k l (Nat.le_refl _) hi
  by_cases hl : l = []
  · have hv0 := hv hl; subst hl; subst hv0; refine (bldStringNil M (2 * k) cs W hM h1).mono ?_; rintro e w' ⟨he, rfl⟩; exact ⟨he, ⟨h.base, cs, f, hM, hn, fun i l hk hi => hr i l (by omega) hi⟩, (Below.refl _ _).drew, fun b o hb _ => hb⟩
  · have hl0 : l.length ≠ 0 := by simpa using hl
    obtain ⟨g, cap, rfl⟩ : ∃ g cap, v = .slice (some ⟨g, 0, none⟩) l.length cap := by
      rcases ho.2 with ⟨_, hz⟩ | ⟨g, cap, cur, hv, _⟩
      (· exact absurd hz hl0); (· exact ⟨g, cap, hv⟩)
    obtain ⟨cur, hgc⟩ := own_typed ho g rfl; have hBg := own_base ho g rfl; refine (bldStringAt M (2 * k) g cap B cs l W hM h1 ho hl).mono ?_; rintro e w' ⟨he, rfl⟩
    have hMg : M ≠ g := by
      rintro rfl; rw [hM] at hgc; injection hgc with hgc; injection hgc with _ hgc; exact absurd hgc (by decide)
    refine ⟨he, ⟨h.base, cs, f, (frozen_other hMg).trans hM, hn, fun i li hk hi => ?_⟩, Lib.below_freeze (Below.drew (Below.refl B W)) (p := ⟨g, 0, none⟩) hBg _, fun b o hb hno => ?_⟩; (· obtain ⟨pi, vi, g0, g1, gp, go, gv, gf⟩ := hr i li (by omega) hi; refine ⟨pi, vi, g0, g1, gp, own_move go (fun b hb => frozen_other (fun e => ?_)), gv, gf⟩; have e1 := gf b hb; rw [e] at e1; have e2 := hf g rfl; omega); (· refine (frozen_other (fun e => ?_)).trans hb; rw [e, hgc] at hb; exact hno _ _ _ (Option.some.inj hb).symm (by decide))
def sets_Parts.idxG {α : Type} : List (List UInt8 × α) → List UInt8 → Option Nat
  | [], _ => none
  | (k, _) :: r, key => if k = key then some 0 else (sets_Parts.idxG r key).map (· + 1)
def sets_Parts.placeG : List (List UInt8 × List S41) → List UInt8 → S41 → List (List UInt8 × List S41)
  | [], key, p => [(key, [p])]
  | (k, l) :: r, key, p => if k = key then (k, l ++ [p]) :: r else (k, l) :: sets_Parts.placeG r key p
theorem sets_Parts.idxG_get {α : Type} : ∀ (gs : List (List UInt8 × α)) (key : List UInt8) (j : Nat), sets_Parts.idxG gs key = some j → ∃ l, gs[j]? = some (key, l)
  | [], _, _, h => by simp [sets_Parts.idxG] at h
  | (k, l) :: r, key, j, h => by
    unfold sets_Parts.idxG at h
    by_cases e : k = key
    (· rw [if_pos e] at h; obtain rfl := Option.some.inj h; exact ⟨l, by rw [← e]; rfl⟩); (· rw [if_neg e] at h; obtain ⟨i, hi, rfl⟩ := Option.map_eq_some_iff.1 h; obtain ⟨l', hl'⟩ := sets_Parts.idxG_get r key i hi; exact ⟨l', by simpa using hl'⟩)
theorem sets_Parts.placeG_none : ∀ (gs : List (List UInt8 × List S41)) (key : List UInt8) (p : S41), sets_Parts.idxG gs key = none → sets_Parts.placeG gs key p = gs ++ [(key, [p])]
  | [], _, _, _ => rfl
  | (k, l) :: r, key, p, h => by
    unfold sets_Parts.idxG at h
    by_cases e : k = key
    (· rw [if_pos e] at h; cases h); (· rw [if_neg e] at h; unfold sets_Parts.placeG; rw [if_neg e, sets_Parts.placeG_none r key p (by simpa using h)]; rfl)
theorem sets_Parts.placeG_some : ∀ (gs : List (List UInt8 × List S41)) (key : List UInt8) (p : S41) (j : Nat) (l : List S41), sets_Parts.idxG gs key = some j → gs[j]? = some (key, l) → sets_Parts.placeG gs key p = gs.set j (key, l ++ [p])
  | [], _, _, _, _, h, _ => by simp [sets_Parts.idxG] at h
  | (k, l') :: r, key, p, j, l, h, hg => by
    unfold sets_Parts.idxG at h; unfold sets_Parts.placeG
    by_cases e : k = key
    (· rw [if_pos e] at h; obtain rfl := Option.some.inj h; simp only [List.getElem?_cons_zero, Option.some.injEq, Prod.mk.injEq] at hg; rw [if_pos e, hg.2, e]; rfl); (· rw [if_neg e] at h; obtain ⟨i, hi, rfl⟩ := Option.map_eq_some_iff.1 h; rw [if_neg e, sets_Parts.placeG_some r key p i l hi (by simpa using hg)]; rfl)
theorem sets_Parts.idxG_snoc {α : Type} : ∀ (gs : List (List UInt8 × α)) (key : List UInt8) (x : α) (key' : List UInt8), sets_Parts.idxG (gs ++ [(key, x)]) key' = match sets_Parts.idxG gs key' with | some j => some j | none => if key = key' then some gs.length else none
  | [], key, x, key' => by
    simp [sets_Parts.idxG]
  | (k, l) :: r, key, x, key' => by
    rw [List.cons_append]; unfold sets_Parts.idxG
    by_cases e : k = key'
    · rw [if_pos e, if_pos e]
    · rw [if_neg e, if_neg e, sets_Parts.idxG_snoc r key x key']
      cases h : sets_Parts.idxG r key' with
      | some j => simp
      | none =>
        by_cases e2 : key = key'
        · simp [e2]
        · simp [e2]
theorem sets_Parts.idxG_set {α : Type} : ∀ (gs : List (List UInt8 × α)) (j : Nat) (key : List UInt8) (x y : α) (key' : List UInt8), gs[j]? = some (key, x) → sets_Parts.idxG (gs.set j (key, y)) key' = sets_Parts.idxG gs key'
  | [], _, _, _, _, _, h => by simp at h
  | (k, l) :: r, 0, key, x, y, key', h => by
    simp only [List.getElem?_cons_zero, Option.some.injEq, Prod.mk.injEq] at h; rw [List.set_cons_zero]; unfold sets_Parts.idxG; rw [h.1]
  | (k, l) :: r, j + 1, key, x, y, key', h => by
    rw [List.set_cons_succ]; unfold sets_Parts.idxG; rw [sets_Parts.idxG_set r j key x y key' (by simpa using h)]
theorem sets_Parts.idxG_lt {α : Type} (gs : List (List UInt8 × α)) (key : List UInt8) (j : Nat) (h : sets_Parts.idxG gs key = some j) : j < gs.length := by
  obtain ⟨l, hl⟩ := sets_Parts.idxG_get gs key j h; exact (List.getElem?_eq_some_iff.1 hl).1
theorem sets_Parts.placeG_len (gs : List (List UInt8 × List S41)) (key : List UInt8) (p : S41) : (sets_Parts.placeG gs key p).length ≤ gs.length + 1 := by
  cases h : sets_Parts.idxG gs key with
  | none => rw [sets_Parts.placeG_none gs key p h]; simp
  | some j =>
    obtain ⟨l, hl⟩ := sets_Parts.idxG_get gs key j h; rw [sets_Parts.placeG_some gs key p j l h hl]; simp
structure GrpRow (B : Nat) (W : World) (v : Value) (ls : List (List S41)) : Prop where
  ex : ∃ (vs : List Value) (f : Nat → Nat), W.ownsRow B 24 1 v ls.length vs ∧ ∀ j l, ls[j]? = some l → ∃ u, vs[j]? = some u ∧ Kd.R k41 41 W B (fun _ => True) u l ∧ ∀ b, u.ownBlock = some b → f b = j
theorem GrpRow.stays {B : Nat} {W W' : World} {v : Value} {ls : List (List S41)} {ts : List Nat} (h : GrpRow B W v ls) (hs : Stays ts W W') (h1 : 24 ∉ ts) (h2 : 41 ∉ ts) : GrpRow B W' v ls := by
  obtain ⟨vs, f, ho, hr⟩ := h.ex; refine ⟨vs, f, hs.own ho h1, fun j l hj => ?_⟩; obtain ⟨u, hu, hR, hf⟩ := hr j l hj; exact ⟨u, hu, hs.kd hR (fun q hq => by have : q = 41 := (by simpa [k41, Kd.iso, Kd.pair, Kd.int, Kd.scalar] using hq); rw [this]; exact h2), hf⟩
theorem GrpRow.nil (B : Nat) (W : World) : GrpRow B W (.slice none 0 0) [] := ⟨[], fun _ => 0, World.ownsRow_nil _ _ _ _, fun j l hj => by simp at hj⟩
theorem GrpRow.form {B : Nat} {W : World} {v : Value} {ls : List (List S41)} (h : GrpRow B W v ls) : ∃ A c, v = .slice A ls.length c := by
  obtain ⟨vs, f, ho, hr⟩ := h.ex
  rcases ho.2 with ⟨hv, h0⟩ | ⟨g, cap, cur, hv, _⟩
  (· exact ⟨none, 0, by rw [hv, h0]⟩); (· exact ⟨_, _, hv⟩)
theorem grp_own_ne {B : Nat} {W : World} {v : Value} {n e size : Nat} {vs : List Value} (ho : W.ownsRow B e size v n vs) {b : Nat} {o : Obj} (hb : W.heap[b]? = some o) (hno : ∀ cells t fr, o = .cells cells t fr → t ≠ e) : some b ≠ v.ownBlock := by
  intro h; obtain ⟨cells, hc⟩ := own_typed ho b h.symm; rw [hb] at hc; exact hno _ _ _ (Option.some.inj hc) rfl
theorem GrpRow.snoc {B : Nat} {W w2 : World} {v v2 : Value} {ls : List (List S41)} {vs : List Value} {f : Nat → Nat} {o : Obj} (ho : W.ownsRow B 24 1 v ls.length vs)
    (hr : ∀ j l, ls[j]? = some l → ∃ u, vs[j]? = some u ∧ Kd.R k41 41 W B (fun _ => True) u l ∧ ∀ b, u.ownBlock = some b → f b = j)
    (ho2 : w2.ownsRow B 24 1 v2 (ls.length + 1) (vs ++ [.slice none 0 0])) (hg2 : (W.alloc o).grownBy w2 v.ownBlock) (hB : B ≤ W.heap.size) :
    GrpRow B w2 v2 (ls ++ [[]]) ∧ Stays [24] W w2 ∧ Below B W w2 := by
  have hs : Stays [24] W w2 := fun b o' hb hno => by
    have hlt := blk_lt hb
    have h1 : (W.alloc o).heap[b]? = some o' := by rw [heap_alloc_old W o hlt]; exact hb
    exact (hg2.block b (by simp; omega) (grp_own_ne ho hb (fun c t fr e => by have := hno c t fr e; simpa using this))).trans h1
  have hlen : vs.length = ls.length := by simpa using ho.1
  have hsz := hg2.size
  simp at hsz
  refine ⟨⟨vs ++ [.slice none 0 0], f, by rw [List.length_append]; exact ho2, fun j l hj => ?_⟩, hs, ⟨hg2.os, hg2.tape, hg2.output, by omega, fun b hb => ?_⟩⟩
  · by_cases hjl : j < ls.length
    · rw [List.getElem?_append_left hjl] at hj; obtain ⟨u, hu, hR, hf⟩ := hr j l hj; exact ⟨u, by rw [List.getElem?_append_left (by omega)]; exact hu, hs.kd hR (fun q hq => by have : q = 41 := (by simpa [k41, Kd.iso, Kd.pair, Kd.int, Kd.scalar] using hq); rw [this]; decide), hf⟩
    · have hje : j = ls.length := by
        have := (List.getElem?_eq_some_iff.1 hj).1
        simp at this
        omega
      subst hje; rw [List.getElem?_append_right (Nat.le_refl _), Nat.sub_self] at hj; obtain rfl := Option.some.inj hj; exact ⟨.slice none 0 0, by rw [List.getElem?_append_right (by omega), hlen, Nat.sub_self]; rfl, Kd.R_nil _ _ _ _ _, fun b hb => by simp [Value.ownBlock] at hb⟩
  · rw [hg2.block b (by simp; omega) (fun e => by have := own_base ho b e.symm; omega)]; exact heap_alloc_old W o (by omega)
theorem sets_Parts.R_moveV {W w1 : World} {B : Nat} {ok ok' : Nat → Prop} {v : Value} {l : List S41} (h : Kd.R k41 41 W B ok v l) (hm : ∀ b, v.ownBlock = some b → w1.heap[b]? = W.heap[b]?) (hok : ∀ b, v.ownBlock = some b → ok' b := by intros; trivial) : Kd.R k41 41 w1 B ok' v l := by
  obtain ⟨h0, inner, ho, hr⟩ := h; exact ⟨hok, inner, own_move ho hm, ⟨hr.1, fun j p hj => by rw [k41_openM (hr.2 j p hj)]; exact k41_mkM _ _ _ p⟩⟩
theorem GrpRow.put {B : Nat} {W w1 : World} {go cap n : Nat} {ls : List (List S41)} {vs : List Value} {f : Nat → Nat} {l l' : List S41} {u v1 : Value} (ho : W.ownsRow B 24 1 (.slice (some ⟨go, 0, none⟩) ls.length cap) ls.length vs)
    (hr : ∀ j l, ls[j]? = some l → ∃ u, vs[j]? = some u ∧ Kd.R k41 41 W B (fun _ => True) u l ∧ ∀ b, u.ownBlock = some b → f b = j)
    (hn : ls[n]? = some l) (hu : vs[n]? = some u) (hR1 : Kd.R k41 41 w1 B (fun _ => True) v1 l') (hb1 : Below B W w1) (hg : ∀ b, b < W.heap.size → some b ≠ u.ownBlock → w1.heap[b]? = W.heap[b]?) (hat : v1.ownBlock = u.ownBlock ∨ v1.ownBlock = none ∨ ∃ b, v1.ownBlock = some b ∧ W.heap.size ≤ b) :
    GrpRow B (w1.setCell ⟨go, n, none⟩ v1) (.slice (some ⟨go, 0, none⟩) ls.length cap) (ls.set n l') ∧ Stays [24, 41] W (w1.setCell ⟨go, n, none⟩ v1) ∧ Below B W (w1.setCell ⟨go, n, none⟩ v1) := by
  obtain ⟨u', hu', hRu, hfu⟩ := hr n l hn
  have huu : u' = u := by rw [hu] at hu'; exact (Option.some.inj hu').symm
  subst huu; obtain ⟨inner, hou⟩ := Kd.R_own hRu; obtain ⟨curo, hgo⟩ := own_typed ho go rfl; have hgoB := own_base ho go rfl; have hgolt := own_lt ho go rfl; have hgou : some go ≠ u'.ownBlock := grp_own_ne hou hgo (fun c t fr e => by injection e with _ e _; rw [← e]; decide)
  have ho1 : w1.ownsRow B 24 1 (.slice (some ⟨go, 0, none⟩) ls.length cap) ls.length vs := own_move ho (fun b hb => by
    have : b = go := by simpa [Value.ownBlock] using hb.symm
    subst this
    exact hg b hgolt hgou)
  obtain ⟨cur1, hgo1⟩ := own_typed ho1 go rfl; have hst := ho1.stored n v1; have hnl : n < ls.length := (List.getElem?_eq_some_iff.1 hn).1
  have hlen : vs.length = ls.length := by simpa using ho.1
  have hs : Stays [24, 41] W (w1.setCell ⟨go, n, none⟩ v1) := fun b o hb hno => by
    have h1 : b ≠ go := by
      rintro rfl; rw [hgo] at hb; exact hno _ _ _ (Option.some.inj hb).symm (by simp)
    rw [Below.heap_setCell _ _ _ _ h1, hg b (blk_lt hb) (grp_own_ne hou hb (fun c t fr e => by have := hno c t fr e; simp at this; exact this.2))]; exact hb
  have far : ∀ (x : Value) (xs : List S41) (W1 : World), Kd.R k41 41 w1 B (fun _ => True) x xs → Kd.R k41 41 (w1.setCell ⟨go, n, none⟩ v1) B (fun _ => True) x xs := fun x xs _ hx =>
    Kd.R_set hx hgo1 (fun q hq => by have : q = 41 := (by simpa [k41, Kd.iso, Kd.pair, Kd.int, Kd.scalar] using hq); rw [this]; decide) n v1
  refine ⟨⟨vs.set n v1, fun b => if v1.ownBlock = some b then n else f b, by rw [List.length_set]; exact hst.1, fun j lj hj => ?_⟩, hs, hb1.setCell (p := ⟨go, n, none⟩) hgoB v1⟩
  by_cases hjn : j = n
  · subst hjn; rw [List.getElem?_set_self hnl] at hj; obtain rfl := Option.some.inj hj; exact ⟨v1, by rw [List.getElem?_set_self (by omega)], far _ _ w1 hR1, fun b hb => by simp [hb]⟩
  · rw [List.getElem?_set_ne (Ne.symm hjn)] at hj
    obtain ⟨x, hx, hRx, hfx⟩ := hr j lj hj; obtain ⟨inx, hox⟩ := Kd.R_own hRx; have hxu : ∀ b, x.ownBlock = some b → some b ≠ u'.ownBlock := fun b hb e => hjn ((hfx b hb).symm.trans (hfu b e.symm)); refine ⟨x, by rw [List.getElem?_set_ne (Ne.symm hjn)]; exact hx, far _ _ w1 (sets_Parts.R_moveV hRx (fun b hb => hg b (own_lt hox b hb) (hxu b hb))), fun b hb => ?_⟩
    have : v1.ownBlock ≠ some b := by
      intro e
      rcases hat with hat | hat | ⟨b', hb', hle⟩
      (· exact hxu b hb (e.symm.trans hat)); (· rw [hat] at e; cases e); (· rw [hb'] at e; injection e with e; have := own_lt hox b hb; omega)
    show (if v1.ownBlock = some b then n else f b) = j; rw [if_neg this]; exact hfx b hb
theorem sets_Parts.klaw : Go.Maps.Keyed Tryz.prog 9 := Go.Maps.string_keyed Tryz.underlying9
theorem sets_Parts.kzero (w : World) : (zeroValue 3).run Tryz.prog w = .ok (.int .i64 0) w := by kernel_rfl
def MapG (W : World) (Mb n : Nat) (gs : List (List UInt8 × List S41)) : Prop := ∃ D : DataW Unit, W.ownsMap Tryz.prog 9 (Go.plainElem Tryz.prog 3) Mb n D ∧ Go.Maps.IsMap D ∧
  ∀ key : List UInt8, Go.Maps.has D (.string key) = (sets_Parts.idxG gs key).isSome ∧ ∀ j, sets_Parts.idxG gs key = some j → D.atKey (.string key) (.lit (.int .i64 0)) = .lit (.int .i64 (j : Int))
theorem MapG.move {W W' : World} {Mb n : Nat} {gs : List (List UInt8 × List S41)} (h : MapG W Mb n gs) (hm : W'.heap[Mb]? = W.heap[Mb]?) : MapG W' Mb n gs := by
  obtain ⟨D, ⟨es, clock, hb, F, hs, hD⟩, h2, h3⟩ := h; exact ⟨D, ⟨es, clock, hm.trans hb, F, hs, hD⟩, h2, h3⟩
theorem MapG.obj {W : World} {Mb n : Nat} {gs : List (List UInt8 × List S41)} (h : MapG W Mb n gs) : ∃ es clock, W.heap[Mb]? = some (.map es clock) := by
  obtain ⟨D, ⟨es, clock, hb, _⟩, _⟩ := h; exact ⟨es, clock, hb⟩
theorem MapG.stays {W W' : World} {Mb n : Nat} {ts : List Nat} {gs : List (List UInt8 × List S41)} (h : MapG W Mb n gs) (hs : Stays ts W W') : MapG W' Mb n gs := by
  obtain ⟨es, clock, hb⟩ := h.obj; exact h.move ((hs Mb _ hb (fun _ _ _ e => by cases e)).trans hb.symm)
theorem MapG.made (W : World) : MapG (W.alloc (.map #[] 0)) W.heap.size 0 [] :=
  ⟨.map [], World.ownsMap_made _ _ _ _, Go.Maps.isMap_empty, fun key => ⟨rfl, fun j hj => by simp [sets_Parts.idxG] at hj⟩⟩
theorem MapG.put {W : World} {Mb n : Nat} {gs : List (List UInt8 × List S41)} {D : DataW Unit} {key : List UInt8} {x : List S41} {W' : World} (h2 : Go.Maps.IsMap D)
    (h3 : ∀ key : List UInt8, Go.Maps.has D (.string key) = (sets_Parts.idxG gs key).isSome ∧ ∀ j, sets_Parts.idxG gs key = some j → D.atKey (.string key) (.lit (.int .i64 0)) = .lit (.int .i64 (j : Int)))
    (hn : sets_Parts.idxG gs key = none) (ho : W'.ownsMap Tryz.prog 9 (Go.plainElem Tryz.prog 3) Mb (n + 1) (D.put (.string key) (.lit (.int .i64 (gs.length : Int))))) : MapG W' Mb (n + 1) (gs ++ [(key, x)]) := by
  refine ⟨_, ho, h2.put _ _, fun key' => ?_⟩; rw [sets_Parts.idxG_snoc]
  by_cases e : key' = key
  · subst e; rw [hn]; simp only [if_true]; refine ⟨by rw [Go.Maps.has_put_same h2 (show Go.WideAt.IsKeyLit (.string key') from True.intro)]; rfl, fun j hj => ?_⟩; obtain rfl := Option.some.inj hj; rw [Go.Maps.atKey_put_same h2 (show Go.WideAt.IsKeyLit (.string key') from True.intro)]
  · have hne : (Lit.string key') ≠ Lit.string key := fun h => e (by injection h)
    obtain ⟨h4, h5⟩ := h3 key'; rw [Go.Maps.has_put_other hne, Go.Maps.atKey_put_other hne]
    cases hi : sets_Parts.idxG gs key' with
    | some j => rw [hi] at h4 h5; exact ⟨h4, fun j' hj' => h5 j' hj'⟩
    | none =>
      rw [hi] at h4; simp only; rw [if_neg (fun h => e h.symm)]; exact ⟨h4, fun j' hj' => by cases hj'⟩
theorem MapG.set {W : World} {Mb n : Nat} {gs : List (List UInt8 × List S41)} {j : Nat} {key : List UInt8} {x y : List S41} (h : MapG W Mb n gs) (hj : gs[j]? = some (key, x)) : MapG W Mb n (gs.set j (key, y)) := by
  obtain ⟨D, h1, h2, h3⟩ := h; exact ⟨D, h1, h2, fun key' => by rw [sets_Parts.idxG_set gs j key x y key' hj]; exact h3 key'⟩
def sets_Parts.bandHi (u : Int) : Int := if bandOf u = 0 then 55295 else if bandOf u = 1 then 1114111 else 1114367
def sets_Parts.pc (cs : List Int) (i : Nat) : S41 := ⟨cs.getD i 0, if i + 1 < cs.length then mn (sets_Parts.bandHi (cs.getD i 0)) (cs.getD (i + 1) 0 - 1) else sets_Parts.bandHi (cs.getD i 0)⟩
def sets_Parts.grpN (cs : List Int) (key : Int → List UInt8) (n : Nat) : List (List UInt8 × List S41) := (List.range n).foldl (fun gs i => sets_Parts.placeG gs (key (cs.getD i 0)) (sets_Parts.pc cs i)) []
theorem sets_Parts.grpN_succ (cs : List Int) (key : Int → List UInt8) (n : Nat) : sets_Parts.grpN cs key (n + 1) = sets_Parts.placeG (sets_Parts.grpN cs key n) (key (cs.getD n 0)) (sets_Parts.pc cs n) := by
  unfold sets_Parts.grpN; rw [List.range_succ, List.foldl_append]; rfl
theorem sets_Parts.grpN_len (cs : List Int) (key : Int → List UInt8) (n : Nat) : (sets_Parts.grpN cs key n).length ≤ n := by
  induction n with
  | zero => simp [sets_Parts.grpN]
  | succ n ih => rw [sets_Parts.grpN_succ]; have := sets_Parts.placeG_len (sets_Parts.grpN cs key n) (key (cs.getD n 0)) (sets_Parts.pc cs n); omega
theorem sets_Parts.placeG_in : ∀ (gs : List (List UInt8 × List S41)) (key : List UInt8) (p : S41) (m : Nat), (∀ g ∈ gs, g.2.length ≤ m) → ∀ g ∈ sets_Parts.placeG gs key p, g.2.length ≤ m + 1
  | [], key, p, m, _, g, hg => by simp [sets_Parts.placeG] at hg; rw [hg]; simp
  | (k, l) :: r, key, p, m, h, g, hg => by
    unfold sets_Parts.placeG at hg
    by_cases e : k = key
    · rw [if_pos e] at hg
      rcases List.mem_cons.1 hg with rfl | hg
      (· have := h (k, l) (by simp); simp at this ⊢; omega); (· have := h g (by simp [hg]); omega)
    · rw [if_neg e] at hg
      rcases List.mem_cons.1 hg with rfl | hg
      (· have := h (k, l) (by simp); simp at this ⊢; omega); (· exact sets_Parts.placeG_in r key p m (fun x hx => h x (by simp [hx])) g hg)
theorem sets_Parts.grpN_in (cs : List Int) (key : Int → List UInt8) (n : Nat) : ∀ g ∈ sets_Parts.grpN cs key n, g.2.length ≤ n := by
  induction n with
  | zero => simp [sets_Parts.grpN]
  | succ n ih => rw [sets_Parts.grpN_succ]; exact sets_Parts.placeG_in _ _ _ n ih
set_option maxHeartbeats 4000000 in
set_option maxRecDepth 100000 in
theorem sets_Parts.ph9 (w w1 : World) (s : Nat → Value) (Q : Exit → Act → World → Prop)
    (hQ : ∀ (s' : Nat → Value), s' 5 = s 5 → s' 12 = s 12 → s' 18 = .map (some w1.heap.size) → Q .normal ⟨sets_Parts.frm s', []⟩ (w1.alloc (.map #[] 0))) :
    Code.wp Tryz.prog (sets_Parts.at_ 9) Q ⟨sets_Parts.frm s, []⟩ w1 := by
  have HQ := Aside0.mk hQ; have hmm := @run_makeMap Tryz.prog; clear hQ
  conv => arg 2; whnf
  rw [sets_Parts.frm_lit]
  go_wp2
  exact sets_Parts.leave rfl (HQ.out _ rfl rfl rfl)
set_option maxHeartbeats 4000000 in
set_option maxRecDepth 100000 in
theorem sets_Parts.ph10 (w1 : World) (s : Nat → Value) (Q : Exit → Act → World → Prop)
    (hQ : ∀ (s' : Nat → Value), s' 5 = s 5 → s' 12 = s 12 → s' 18 = s 18 → s' 19 = .slice none 0 0 → Q .normal ⟨sets_Parts.frm s', []⟩ w1) :
    Code.wp Tryz.prog (sets_Parts.at_ 10) Q ⟨sets_Parts.frm s, []⟩ w1 := by
  have HQ := Aside0.mk hQ; clear hQ
  conv => arg 2; whnf
  rw [sets_Parts.frm_lit]
  go_wp2
  exact sets_Parts.leave rfl (HQ.out _ rfl rfl rfl rfl)
def CStay (ts : List Nat) (W W' : World) : Prop := ∀ (b t : Nat) (cells : Array Value) (fr : Nat × Nat), W.heap[b]? = some (.cells cells t fr) → t ∉ ts → W'.heap[b]? = some (.cells cells t fr)
theorem Stays.c {ts : List Nat} {W W' : World} (h : Stays ts W W') : CStay ts W W' := fun b t cells fr hb ht => h.cells hb ht
theorem CStay.own {ts : List Nat} {W W' : World} (h : CStay ts W W') {base e size n : Nat} {v : Value} {xs : List Value} (ho : W.ownsRow base e size v n xs) (ht : e ∉ ts) : W'.ownsRow base e size v n xs :=
  own_move ho (fun b hb => by obtain ⟨cells, hc⟩ := own_typed ho b hb; rw [hc]; exact h b _ _ _ hc ht)
theorem CStay.kd {α : Type} {d : Kd α} {ts : List Nat} {W W' : World} (h : CStay ts W W') {B e : Nat} {ok : Nat → Prop} {v : Value} {xs : List α} (hR : d.R e W B ok v xs) (ht : ∀ q, q ∈ e :: d.E → q ∉ ts) : d.R e W' B ok v xs :=
  Kd.R_mono (Kd.R_move (Kd.R_bound hR) (fun k hk => by
    obtain ⟨_, _, _, q, hq, cells, hc⟩ := hk; rw [hc]
    exact h k _ _ _ hc (ht q hq))) (fun _ hk => hk.1)
theorem CStay.R {ts : List Nat} {W W' : World} {B : Nat} {ok : Nat → Prop} {v : Value} {xs : List Int} (h : CStay ts W W') (h1 : 21 ∉ ts) (hR : Kd.R (Kd.int .i32) 21 W B ok v xs) : Kd.R (Kd.int .i32) 21 W' B ok v xs :=
  h.kd hR (fun q hq => by have : q = 21 := (by simpa [Kd.int, Kd.scalar] using hq); rw [this]; exact h1)
theorem CStay.grp {B : Nat} {W W' : World} {v : Value} {ls : List (List S41)} {ts : List Nat} (hs : CStay ts W W') (h : GrpRow B W v ls) (h1 : 24 ∉ ts) (h2 : 41 ∉ ts) : GrpRow B W' v ls := by
  obtain ⟨vs, f, ho, hr⟩ := h.ex; refine ⟨vs, f, hs.own ho h1, fun j l hj => ?_⟩; obtain ⟨u, hu, hR, hf⟩ := hr j l hj; exact ⟨u, hu, hs.kd hR (fun q hq => by have : q = 41 := (by simpa [k41, Kd.iso, Kd.pair, Kd.int, Kd.scalar] using hq); rw [this]; exact h2), hf⟩
theorem CStay.bld {B M k : Nat} {ms : List (List UInt8)} {W W' : World} {ts : List Nat} (hs : CStay ts W W') (h : BldRow B M k ms W) (h1 : 99 ∉ ts) (h2 : 5 ∉ ts) : BldRow B M k ms W' := by
  obtain ⟨cs, f, hM, hn, hr⟩ := h.ex; refine ⟨h.base, cs, f, hs _ _ _ _ hM h1, hn, fun i l hk hi => ?_⟩; obtain ⟨p, v, h0, h1, hp, ho, hv, hf⟩ := hr i l hk hi; exact ⟨p, v, h0, h1, hp, hs.own ho h2, hv, hf⟩
structure GroupSt (w : World) (M Mb i : Nat) (ms : List (List UInt8)) (ls : List (List S41)) (gs : List (List UInt8 × List S41)) (v19 v5 : Value) (cs : List Int) (wr : World) : Prop where
  grp : GrpRow w.heap.size wr v19 ls
  bld : BldRow w.heap.size M i ms wr
  mp : MapG wr Mb gs.length gs
  row : Kd.R (Kd.int .i32) 21 wr w.heap.size (fun _ => True) v5 cs
  blw : Below w.heap.size w wr
  mb : w.heap.size ≤ Mb
section
variable {w wr w1 : World} {M Mb i : Nat} {ms : List (List UInt8)} {ls : List (List S41)} {gs : List (List UInt8 × List S41)} {v19 v5 : Value} {cs : List Int}
theorem GroupSt.below (h : GroupSt w M Mb i ms ls gs v19 v5 cs wr) (hb : Below wr.heap.size wr w1) : GroupSt w M Mb i ms ls gs v19 v5 cs w1 :=
  have hs : Stays [] wr w1 := Stays.of_below hb
  ⟨hs.c.grp h.grp (by simp) (by simp), hs.c.bld h.bld (by simp) (by simp), h.mp.stays hs, hs.c.R (by simp) h.row, below_step h.blw hb, h.mb⟩
theorem GroupSt.drew (h : GroupSt w M Mb i ms ls gs v19 v5 cs wr) : GroupSt w M Mb i ms ls gs v19 v5 cs wr.drew := h.below (Below.refl _ _).drew
theorem GroupSt.str (h : GroupSt w M Mb i ms ls gs v19 v5 cs wr) (h1 : BldRow w.heap.size M (i + 1) ms w1) (hb : Below w.heap.size wr w1) (hs : Stays [99, 5] wr w1) : GroupSt w M Mb (i + 1) ms ls gs v19 v5 cs w1 :=
  ⟨hs.c.grp h.grp (by decide) (by decide), h1, h.mp.stays hs, hs.c.R (by decide) h.row, h.blw.trans hb, h.mb⟩
theorem GroupSt.mapped (h : GroupSt w M Mb i ms ls gs v19 v5 cs wr) {key : List UInt8} {x : List S41} {D : DataW Unit} (hg : wr.grownBy w1 (some Mb)) (h2 : Go.Maps.IsMap D)
    (h3 : ∀ key : List UInt8, Go.Maps.has D (.string key) = (sets_Parts.idxG gs key).isSome ∧ ∀ j, sets_Parts.idxG gs key = some j → D.atKey (.string key) (.lit (.int .i64 0)) = .lit (.int .i64 (j : Int)))
    (hn : sets_Parts.idxG gs key = none) (ho : w1.ownsMap Tryz.prog 9 (Go.plainElem Tryz.prog 3) Mb (gs.length + 1) (D.put (.string key) (.lit (.int .i64 (gs.length : Int))))) :
    GroupSt w M Mb i ms ls (gs ++ [(key, x)]) v19 v5 cs w1 := by
  obtain ⟨es, clock, hM⟩ := h.mp.obj; have hs : CStay [] wr w1 := fun b t cells fr hb _ => (hg.block b (blk_lt hb) (fun e => by injection e with e; rw [e, hM] at hb; cases hb)).trans hb; refine ⟨hs.grp h.grp (by simp) (by simp), hs.bld h.bld (by simp) (by simp), ?_, hs.R (by simp) h.row, h.blw.trans ⟨hg.os, hg.tape, hg.output, hg.size, fun b hb => hg.block b (by have := h.blw.size; omega) (fun e => by injection e with e; have := h.mb; omega)⟩, h.mb⟩; have := MapG.put (W := wr) (x := x) h2 h3 hn ho; rw [List.length_append]; exact this
theorem GroupSt.lookup (h : GroupSt w M Mb i ms ls gs v19 v5 cs wr) : ∃ D : DataW Unit, wr.ownsMap Tryz.prog 9 (Go.plainElem Tryz.prog 3) Mb gs.length D ∧ Go.Maps.IsMap D ∧
  ∀ key : List UInt8, Go.Maps.has D (.string key) = (sets_Parts.idxG gs key).isSome ∧ ∀ j, sets_Parts.idxG gs key = some j → D.atKey (.string key) (.lit (.int .i64 0)) = .lit (.int .i64 (j : Int)) := h.mp
theorem GroupSt.snoc (h : GroupSt w M Mb i ms ls gs v19 v5 cs wr) {vs : List Value} {f : Nat → Nat} {w2 : World} {v2 : Value} {o : Obj} (ho : wr.ownsRow w.heap.size 24 1 v19 ls.length vs)
    (hr : ∀ j l, ls[j]? = some l → ∃ u, vs[j]? = some u ∧ Kd.R k41 41 wr w.heap.size (fun _ => True) u l ∧ ∀ b, u.ownBlock = some b → f b = j)
    (ho2 : w2.ownsRow w.heap.size 24 1 v2 (ls.length + 1) (vs ++ [.slice none 0 0])) (hg2 : (wr.alloc o).grownBy w2 v19.ownBlock) :
    GroupSt w M Mb i ms (ls ++ [[]]) gs v2 v5 cs w2 := by
  obtain ⟨h1, hs, hb⟩ := GrpRow.snoc ho hr ho2 hg2 h.blw.size; exact ⟨h1, hs.c.bld h.bld (by decide) (by decide), h.mp.stays hs, hs.c.R (by decide) h.row, h.blw.trans hb, h.mb⟩
theorem GroupSt.put {go cap n : Nat} {vs : List Value} {f : Nat → Nat} {l l' : List S41} {u v1 : Value} {w2 : World} (h : GroupSt w M Mb i ms ls gs (.slice (some ⟨go, 0, none⟩) ls.length cap) v5 cs wr)
    (ho : wr.ownsRow w.heap.size 24 1 (.slice (some ⟨go, 0, none⟩) ls.length cap) ls.length vs)
    (hr : ∀ j l, ls[j]? = some l → ∃ u, vs[j]? = some u ∧ Kd.R k41 41 wr w.heap.size (fun _ => True) u l ∧ ∀ b, u.ownBlock = some b → f b = j)
    (hn : ls[n]? = some l) (hu : vs[n]? = some u) (hR1 : Kd.R k41 41 w1 w.heap.size (fun _ => True) v1 l') (hg : wr.grownBy w1 u.ownBlock) (hat : v1.ownBlock = u.ownBlock ∨ ∃ b, v1.ownBlock = some b ∧ wr.heap.size ≤ b) :
    GroupSt w M Mb i ms (ls.set n l') gs (.slice (some ⟨go, 0, none⟩) ls.length cap) v5 cs (w1.setCell ⟨go, n, none⟩ v1) := by
  obtain ⟨u', hu', hRu, hfu⟩ := hr n l hn
  have huu : u' = u := by rw [hu] at hu'; exact (Option.some.inj hu').symm
  subst huu; obtain ⟨inner, hou⟩ := Kd.R_own hRu; have hb1 : Below w.heap.size wr w1 := ⟨hg.os, hg.tape, hg.output, hg.size, fun b hb => hg.block b (by have := h.blw.size; omega) (fun e => by have := own_base hou b e.symm; omega)⟩; obtain ⟨h1, hs, hb⟩ := GrpRow.put (w1 := w1) ho hr hn hu hR1 hb1 (fun b hb hne => hg.block b hb hne) (hat.imp id (fun x => .inr x)); exact ⟨h1, hs.c.bld h.bld (by decide) (by decide), h.mp.stays hs, hs.c.R (by decide) h.row, h.blw.trans hb, h.mb⟩
end
theorem GrpRow.form2 {B : Nat} {W : World} {v : Value} {ls : List (List S41)} (h : GrpRow B W v ls) (hne : ls.length ≠ 0) : ∃ go cap, v = .slice (some ⟨go, 0, none⟩) ls.length cap := by
  obtain ⟨vs, f, ho, hr⟩ := h.ex
  rcases ho.2 with ⟨hv, h0⟩ | ⟨g, cap, cur, hv, _⟩
  (· exact absurd h0 hne); (· exact ⟨_, _, hv⟩)
theorem GrpRow.cell {B : Nat} {W : World} {go cap n : Nat} {vs : List Value} {u : Value} {ls : List (List S41)} (ho : W.ownsRow B 24 1 (.slice (some ⟨go, 0, none⟩) ls.length cap) ls.length vs) (hu : vs[n]? = some u) : W.cell? ⟨go, n, none⟩ = some u := by
  have := ho.cells (g := go) rfl n u hu; rw [add_plain] at this; exact this
theorem sets_Parts.hkey (key : List UInt8) (h : key.length ≤ maxLen) : keyOf Tryz.prog 9 (.string ⟨key.toArray⟩) = some (.string key) := by
  have h2 : (ByteArray.mk key.toArray).size ≤ maxLen := by simpa [ByteArray.size] using h
  simp [keyOf, Tryz.underlying9, mapKey, h2]
theorem GroupSt.snoc2 {w wr : World} {M Mb i : Nat} {ms : List (List UInt8)} {ls : List (List S41)} {gs : List (List UInt8 × List S41)} {v19 v5 : Value} {cs : List Int} (h : GroupSt w M Mb i ms ls gs v19 v5 cs wr) {vs : List Value} {f : Nat → Nat} {w2 : World} {v2 : Value} (ho : wr.ownsRow w.heap.size 24 1 v19 ls.length vs)
    (hr : ∀ j l, ls[j]? = some l → ∃ u, vs[j]? = some u ∧ Kd.R k41 41 wr w.heap.size (fun _ => True) u l ∧ ∀ b, u.ownBlock = some b → f b = j)
    (ho2 : w2.ownsRow w.heap.size 24 1 v2 (ls.length + 1) (vs ++ [.slice none 0 0])) (hg2 : wr.grownBy w2 v19.ownBlock) :
    GroupSt w M Mb i ms (ls ++ [[]]) gs v2 v5 cs w2 := by
  have hs : Stays [24] wr w2 := fun b o' hb hno => (hg2.block b (blk_lt hb) (grp_own_ne ho hb (fun c t fr e => by have := hno c t fr e; simpa using this))).trans hb
  have hlen : vs.length = ls.length := by simpa using ho.1
  have hb : Below w.heap.size wr w2 := ⟨hg2.os, hg2.tape, hg2.output, hg2.size, fun b hb => hg2.block b (by have := h.blw.size; omega) (fun e => by have := own_base ho b e.symm; omega)⟩; refine ⟨⟨vs ++ [.slice none 0 0], f, by rw [List.length_append]; exact ho2, fun j l hj => ?_⟩, hs.c.bld h.bld (by decide) (by decide), h.mp.stays hs, hs.c.R (by decide) h.row, h.blw.trans hb, h.mb⟩
  by_cases hjl : j < ls.length
  · rw [List.getElem?_append_left hjl] at hj; obtain ⟨u, hu, hR, hf⟩ := hr j l hj; exact ⟨u, by rw [List.getElem?_append_left (by omega)]; exact hu, hs.kd hR (fun q hq => by have : q = 41 := (by simpa [k41, Kd.iso, Kd.pair, Kd.int, Kd.scalar] using hq); rw [this]; decide), hf⟩
  · have hje : j = ls.length := by
      have := (List.getElem?_eq_some_iff.1 hj).1
      simp at this
      omega
    subst hje; rw [List.getElem?_append_right (Nat.le_refl _), Nat.sub_self] at hj; obtain rfl := Option.some.inj hj; exact ⟨.slice none 0 0, by rw [List.getElem?_append_right (by omega), hlen, Nat.sub_self]; rfl, Kd.R_nil _ _ _ _ _, fun b hb => by simp [Value.ownBlock] at hb⟩
theorem sets_Parts.st_add {w wr : World} {M Mb i n : Nat} {ms : List (List UInt8)} {gs : List (List UInt8 × List S41)} {kk : List UInt8} {l : List S41} {p : S41} {v19 v5 : Value} {cs : List Int} (h : GroupSt w M Mb i ms ((gs.map Prod.snd ++ [l]).set n (l ++ [p])) (gs ++ [(kk, [p])]) v19 v5 cs wr) (hl : l = []) (hn : n = gs.length) : GroupSt w M Mb i ms ((gs ++ [(kk, [p])]).map Prod.snd) (gs ++ [(kk, [p])]) v19 v5 cs wr := by
  subst hl; subst hn
  have e : (gs.map Prod.snd ++ [([] : List S41)]).set gs.length ([] ++ [p]) = (gs ++ [(kk, [p])]).map Prod.snd := by simp [List.set_append]
  rw [e] at h; exact h
theorem sets_Parts.wfInt (n : Nat) (h : n ≤ 67108864) : (Lit.int .i64 (n : Int)).wf = true := by
  have h1 : IntKind.min .i64 ≤ (n : Int) := Int.le_trans (by decide : IntKind.min .i64 ≤ 0) (by omega); have h2 : (n : Int) ≤ IntKind.max .i64 := Int.le_trans (by omega : (n : Int) ≤ 67108864) (by decide); show (decide (IntKind.min .i64 ≤ (n : Int)) && decide ((n : Int) ≤ IntKind.max .i64)) = true; rw [decide_eq_true h1, decide_eq_true h2]; rfl
theorem sets_Parts.st_set {w wr : World} {M Mb i j : Nat} {ms : List (List UInt8)} {gs : List (List UInt8 × List S41)} {kk : List UInt8} {l y : List S41} {v19 v5 : Value} {cs : List Int} (h : GroupSt w M Mb i ms ((gs.map Prod.snd).set j y) gs v19 v5 cs wr) (hj : gs[j]? = some (kk, l)) : GroupSt w M Mb i ms ((gs.set j (kk, y)).map Prod.snd) (gs.set j (kk, y)) v19 v5 cs wr :=
  ⟨by rw [List.map_set]; exact h.grp, h.bld, by have := h.mp.set (y := y) hj; rw [List.length_set]; exact this, h.row, h.blw, h.mb⟩
theorem sets_Parts.far51f {W w5 : World} {B go cap n : Nat} {ls : List (List S41)} {vs : List Value} {u : Value} {l : List S41} {a : Addr} (ho : W.ownsRow B 24 1 (.slice (some ⟨go, 0, none⟩) ls.length cap) ls.length vs) (hR : Kd.R k41 41 W B (fun _ => True) u l) (hg : W.grownBy w5 u.ownBlock) (ha : a = ⟨go, n, none⟩) : w5.frozen? a = false := by
  subst ha; obtain ⟨inner, hou⟩ := Kd.R_own hR; obtain ⟨curo, hgo⟩ := own_typed ho go rfl; have hgou : some go ≠ u.ownBlock := grp_own_ne hou hgo (fun c t fr e => by injection e with _ e _; rw [← e]; decide); exact (World.frozen?_of_block (a := ⟨go, n, none⟩) (hg.block go (own_lt ho go rfl) hgou)).trans (ho.frozenAt n)
theorem sets_Parts.far51 {W w5 : World} {B go cap n : Nat} {ls : List (List S41)} {vs : List Value} {u x : Value} {l : List S41} {a : Addr} (ho : W.ownsRow B 24 1 (.slice (some ⟨go, 0, none⟩) ls.length cap) ls.length vs) (hR : Kd.R k41 41 W B (fun _ => True) u l) (hg : W.grownBy w5 u.ownBlock) (hc : W.cell? a = some x) (ha : a = ⟨go, n, none⟩ := by assumption) : w5.cell? a = some x := by
  subst ha; obtain ⟨inner, hou⟩ := Kd.R_own hR; obtain ⟨curo, hgo⟩ := own_typed ho go rfl; have hgou : some go ≠ u.ownBlock := grp_own_ne hou hgo (fun c t fr e => by injection e with _ e _; rw [← e]; decide); exact (World.cell?_of_block (a := ⟨go, n, none⟩) (hg.block go (own_lt ho go rfl) hgou)).trans hc
theorem sets_Parts.bandOf_lt (u : Int) : bandOf u < 3 := by unfold bandOf; split <;> (try split) <;> (try split) <;> omega
theorem sets_Parts.band_range {u : Int} (h : 0 ≤ bandOf u) : -1 ≤ u ∧ u ≤ 2000000 := by unfold bandOf at h; split at h <;> (try split at h) <;> (try split at h) <;> omega
theorem sets_Parts.bandHi_cell {u : Int} {W : World} (hG : Glob W) {b : Nat} (hb : bandOf u = (b : Int)) (hb3 : b < 3) : W.cell? ⟨0, b * 2 + 1, none⟩ = some (.int .i32 (sets_Parts.bandHi u)) := by
  have h := hG (b * 2 + 1) (by omega); rw [h]; unfold sets_Parts.bandHi; rw [hb]
  rcases (show b = 0 ∨ b = 1 ∨ b = 2 by omega) with rfl | rfl | rfl <;> rfl
theorem sets_Parts.info22 : (Tryz.prog.info? 24).map (fun i => (i.zero, i.size, i.bytes)) = some (some (.slice none 0 0), 1, 24) := by kernel_rfl
theorem sets_Parts.info29 : (Tryz.prog.info? 41).map (fun i => (i.zero, i.size, i.bytes)) = some (some (.agg #[.int .i32 0, .int .i32 0]), 2, 8) := by kernel_rfl
set_option maxHeartbeats 16000000 in
set_option maxRecDepth 100000 in
theorem sets_Parts.ph11 (w w1 : World) (hG : Glob w) (l0 : List (List S41)) (key : Int → List UInt8) (hks : ∀ u, (key u).length ≤ 1073741824)
    (s : Nat → Value) (cs : List Int) (hcl : cs.length ≤ 67108864) (hne : cs ≠ []) (hbd : ∀ u ∈ cs, 0 ≤ bandOf u) (hR : Kd.R (Kd.int .i32) 21 w1 w.heap.size (fun _ => True) (s 5) cs) (M Mb : Nat) (hMb : w.heap.size ≤ Mb) (h12 : s 12 = .slice (some ⟨M, 0, none⟩) cs.length cs.length) (h18 : s 18 = .map (some Mb)) (h19 : s 19 = .slice none 0 0)
    (hBR : BldRow w.heap.size M 0 (cs.map key) w1) (hM : MapG w1 Mb 0 []) (hB : Below w.heap.size w w1) (Q : Exit → Act → World → Prop)
    (hQ : ∀ (s' : Nat → Value) (w' : World), GrpRow w.heap.size w' (s' 19) ((sets_Parts.grpN cs key cs.length).map Prod.snd) → Below w.heap.size w w' → Q .normal ⟨sets_Parts.frm s', []⟩ w') :
    Code.wp Tryz.prog (sets_Parts.at_ 11) Q ⟨sets_Parts.frm s, []⟩ w1 := by
  obtain ⟨g, cap, h5, hg1, hg2, hg3, hg6, hg7⟩ := sets_Parts.holds hR hne; have HG := Aside0.mk hG; have HQ := Aside0.mk hQ; have HKS := Aside0.mk hks; have HBD := Aside0.mk hbd; rw [h5] at hR; have H0 := Aside0.mk (⟨GrpRow.nil _ _, hBR, hM, hR, hB, hMb⟩ : GroupSt w M Mb 0 (cs.map key) [] [] (.slice none 0 0) (.slice (some ⟨g, 0, none⟩) cs.length cap) cs w1); clear hG hQ hks hR hB hBR hM hMb hbd hg1 hg2 hg3 hg6 hg7 hne
  conv => arg 2; whnf
  rw [sets_Parts.frm_lit, h5, h12, h18, h19]; obtain ⟨ga, hga⟩ : ∃ ga : Addr, ga = ⟨g, 0, none⟩ := ⟨_, rfl⟩; rw [← hga] at h5 H0 ⊢; obtain ⟨ma, hma⟩ : ∃ ma : Addr, ma = ⟨M, 0, none⟩ := ⟨_, rfl⟩; rw [← hma] at h12 ⊢; have HGA := Aside0.mk hga; have HMA := Aside0.mk hma; clear hga hma
  go_wp2
  go_loopw [19, 133] (fun v19 v133 wr => ∃ i : Nat, v133 = .int .i64 (i : Int) ∧ i ≤ cs.length ∧ Aside0 (GroupSt w M Mb i (cs.map key) ((sets_Parts.grpN cs key i).map Prod.snd) (sets_Parts.grpN cs key i) v19 (.slice (some ga) cs.length cap) cs wr)) (fun _ v133 _ => cs.length - (intOf v133).toNat)
  case atStart => exact ⟨0, rfl, Nat.zero_le _, H0⟩
  case round =>
    obtain ⟨i, rfl, hi, H1⟩ := hrel
    by_cases hil : i < cs.length
    · have hd1 : decide (i < cs.length) = true := decide_eq_true hil
      have HIL := Aside0.mk hil; obtain ⟨u, hu⟩ : ∃ u, u = cs.getD i 0 := ⟨_, rfl⟩
      have hcu : wr.cell? (ga.add i) = some (.int .i32 u) := by
        have h1 := Kd.own_of_R H1.out.row; rw [sets_Parts.encs_eq, HGA.out] at h1; have h2 := h1.cells (g := g) rfl i (.int .i32 u) (by rw [List.getElem?_map, sets_Parts.rdI cs i hil, hu]; rfl); rw [HGA.out]; exact h2
      have hub : 0 ≤ bandOf u := by
        have e : cs[i]? = some u := by rw [sets_Parts.rdI cs i hil, hu]
        exact HBD.out u (List.mem_of_getElem? e)
      have hub3 := sets_Parts.bandOf_lt u; obtain ⟨b, hb⟩ : ∃ b : Nat, bandOf u = (b : Int) := ⟨(bandOf u).toNat, by omega⟩
      have hb3 : b < 3 := by omega
      have HBC := Aside0.mk (fun (W : World) (hW : Glob W) => sets_Parts.bandHi_cell hW hb hb3); obtain ⟨hv, hhv⟩ : ∃ hv, hv = sets_Parts.bandHi u := ⟨_, rfl⟩; rw [← hhv] at HBC; have BC := Aside0.mk (fun (W : World) (hW : Glob W) => by rw [← hb]; exact bandCalls u W hW : ∀ W : World, Glob W → Calls Tryz.prog 50 #[.int .i32 u] W fun e w' => e = .returned (.int .i64 (b : Int)) ∧ Below W.heap.size W w'); have HU := Aside0.mk hu; have HHV := Aside0.mk hhv; have hp2 := eq_true (show (0 : Int) ≤ (i : Int) by omega); have hq2 := eq_true (show (i : Int) < (cs.length : Int) from Int.ofNat_lt.2 hil)
      have hib : (i : Int) ≤ 67108864 := by omega
      have hp3 := eq_true (show (0 : Int) ≤ (b : Int) by omega); have hq3 := eq_true (show (b : Int) < 3 by omega); have HMS := Aside0.mk (by rw [List.getElem?_map, sets_Parts.rdI cs i hil, ← hu]; rfl : (cs.map key)[i]? = some (key u)); have HKL := Aside0.mk (HKS.out u); obtain ⟨kk, hkk⟩ : ∃ kk, kk = key u := ⟨_, rfl⟩; rw [← hkk] at HMS HKL; have HKK := Aside0.mk hkk; have HN := Aside0.mk (sets_Parts.grpN_len cs key i); have HIN := Aside0.mk (sets_Parts.grpN_in cs key i); have HSUC := Aside0.mk (sets_Parts.grpN_succ cs key i); rw [← hu, ← hkk] at HSUC; obtain ⟨gs, hgs⟩ : ∃ gs, gs = sets_Parts.grpN cs key i := ⟨_, rfl⟩; rw [← hgs] at H1 HN HIN HSUC; have hwn := sets_Parts.wrapN i (by omega); have HMA2 := Aside0.mk (by rw [HMA.out, add_plain, Nat.mul_comm] : ma.add (i * 2) = ⟨M, 2 * i, none⟩); clear hu hil hub hub3 hb hb3 hhv hkk hgs; obtain ⟨kb, hkb⟩ : ∃ kb : ByteArray, kb = ⟨kk.toArray⟩ := ⟨_, rfl⟩; have HKEY := Aside0.mk (by rw [hkb]; exact sets_Parts.hkey kk (Nat.le_trans HKL.out (by decide)) : keyOf Tryz.prog 9 (.string kb) = some (.string kk)); have HKB := Aside0.mk hkb; clear hkb
      by_cases hnx : i + 1 < cs.length
      · as_aux_lemma =>
        have hd2 : decide (i + 1 < cs.length) = true := decide_eq_true hnx; obtain ⟨nx, hnxe⟩ : ∃ nx, nx = cs.getD (i + 1) 0 := ⟨_, rfl⟩
        have HCN := Aside0.mk (fun (W : World) (hW : Kd.R (Kd.int .i32) 21 W w.heap.size (fun _ => True) (.slice (some ga) cs.length cap) cs) => by
          have h1 := Kd.own_of_R hW; rw [sets_Parts.encs_eq, HGA.out] at h1; have h2 := h1.cells (g := g) rfl (i + 1) (.int .i32 nx) (by rw [List.getElem?_map, sets_Parts.rdI cs (i + 1) hnx, hnxe]; rfl); rw [add_plain] at h2; rw [HGA.out]
          simpa using h2 : ∀ W : World, Kd.R (Kd.int .i32) 21 W w.heap.size (fun _ => True) (.slice (some ga) cs.length cap) cs → W.cell? ⟨ga.block, ga.off + (i + 1), none⟩ = some (.int .i32 nx))
        obtain ⟨hi', hhi⟩ : ∃ x, mn hv (nx - 1) = x := ⟨_, rfl⟩; have hhi_ : (if nx - 1 < hv then nx - 1 else hv) = hi' := hhi; have HPC := Aside0.mk (by unfold sets_Parts.pc; rw [if_pos hnx, ← HU.out, ← HHV.out, ← hnxe, hhi] : sets_Parts.pc cs i = ⟨u, hi'⟩); have hnb := eq_true (show (0 : Int) ≤ ((i + 1 : Nat) : Int) by omega); have hnq := eq_true (show ((i + 1 : Nat) : Int) < (cs.length : Int) from Int.ofNat_lt.2 hnx); have hnq2 := eq_true (show (i : Int) + 1 < (cs.length : Int) by omega)
        have hnr : -1 ≤ nx ∧ nx ≤ 2000000 := by
          have e : cs[i + 1]? = some nx := by rw [sets_Parts.rdI cs (i + 1) hnx, hnxe]
          exact sets_Parts.band_range (HBD.out nx (List.mem_of_getElem? e))
        have hnr1 := hnr.1; have hnr2 := hnr.2; clear hnxe hhi hnx hnr
        cases hidx : sets_Parts.idxG gs kk with
        | some j =>
          have HIDX := Aside0.mk hidx; clear hidx; obtain ⟨l, hl⟩ := sets_Parts.idxG_get gs kk j HIDX.out; have HL := Aside0.mk hl; have hjl := sets_Parts.idxG_lt gs kk j HIDX.out; have HJL := Aside0.mk hjl; clear hl
          have hjb : (j : Int) ≤ 67108864 := by have := HN.out; omega
          have hp4 := eq_true (show (0 : Int) ≤ (j : Int) by omega); have hq4 := eq_true (show (j : Int) < ((gs.map Prod.snd).length : Int) by rw [List.length_map]; exact Int.ofNat_lt.2 hjl); have HLL := Aside0.mk (by have := HIN.out _ (List.mem_of_getElem? HL.out); have h2 := HIL.out; simp at this; omega : l.length ≤ 67108864); have HLS := Aside0.mk (by rw [List.getElem?_map, HL.out]; rfl : (gs.map Prod.snd)[j]? = some l); obtain ⟨go, co, hv19⟩ := H1.out.grp.form2 (by rw [List.length_map]; omega); subst hv19; obtain ⟨gov, hgo⟩ : ∃ gov : Addr, gov = ⟨go, 0, none⟩ := ⟨_, rfl⟩; have HGO := Aside0.mk hgo; rw [← hgo]; obtain ⟨ln, hln⟩ : ∃ ln, ln = (gs.map Prod.snd).length := ⟨_, rfl⟩; rw [← hln] at hq4 ⊢; have HLN := Aside0.mk hln; clear hgo hln hjl
          go_wp2_with (first | (go_at_call 50; refine (BC.out _ (HG.out.of_below H1.out.blw)).mono ?_; rintro e w3 ⟨rfl, hb3⟩; have H2 := Aside0.mk (H1.out.below hb3); have hbc := HBC.out _ (HG.out.of_below H2.out.blw); have hcn := HCN.out _ H2.out.row; clear hb3) | (go_at_call 59; rw [HMA2.out]; refine (H2.out.bld.str HMS.out).mono ?_; rintro e w4 ⟨rfl, hm4, hb4, ho4⟩; have H3 := Aside0.mk (H2.out.str hm4 hb4 ho4); rw [← HKB.out]; clear hm4 hb4 ho4; obtain ⟨vs, f, ho, hr⟩ := H3.out.grp.ex; obtain ⟨u9, hu9, hR9, hf9⟩ := hr j l HLS.out; obtain ⟨Ai, ci, hv9⟩ := Kd.R_slice hR9; subst hv9; have hcell := GrpRow.cell ho hu9; have hgj : gov.add j = ⟨go, j, none⟩ := (by rw [HGO.out, add_plain]; try simp); rw [← hgj] at hcell; have HGJ := Aside0.mk hgj; have HO := Aside0.mk ho; have HR := Aside0.mk hr; have HU9 := Aside0.mk hu9; have HR9 := Aside0.mk hR9; clear ho hr hu9 hR9 hf9 hgj) | (at_lookup; obtain ⟨D, hown, hism, h3⟩ := H3.out.lookup; refine wpList_lookup_own_ok_int _ rfl (.tmp 161) (.tmp 162) 102 rfl 9 3 .i64 sets_Parts.klaw Tryz.underlying102 Tryz.underlying3 (sets_Parts.kzero _) Mb gs.length D rfl hown (.string kb) (.string kk) rfl HKEY.out ?_; intro c hat hwc; rw [(h3 kk).1, HIDX.out]; obtain rfl : c = (j : Int) := (by have h4 := ((h3 kk).2 j HIDX.out).symm.trans hat; injection h4 with h4; injection h4 with h4 h5; omega); simp only [Option.isSome]; clear hat hwc) | ((with_reducible refine gate_builtin (b := .append) (xs := #[.tmp 181, .tmp 185]) rfl ?_); at_builtin; refine Kd.R_append k41 (w0 := w) w.heap.size rfl (.tmp 181) (.tmp 185) 24 41 (.agg #[.int .i32 0, .int .i32 0]) 8 rfl Tryz.underlying24 sets_Parts.info29 rfl (by decide) (by omega) (.slice Ai l.length ci) l ⟨u, hi'⟩ [.int .i32 u, .int .i32 hi'] (fun _ => True) (fun _ => False) rfl rfl (k41_mkM _ _ _ ⟨u, hi'⟩) (fun _ hk => hk.elim) (fun _ _ => trivial) HR9.out H3.out.blw (below_size H3.out.blw) (by have := HLL.out; omega) ?_; intro v9 w5 ho9 hb9 hg9 hat9; obtain ⟨A9, c9, hv9⟩ := Kd.R_slice ho9; subst hv9; have HO9 := Aside0.mk ho9; have HB9 := Aside0.mk hb9; have HG9 := Aside0.mk hg9; have HAT9 := Aside0.mk hat9; have HC5 := sets_Parts.far51 HO.out HR9.out HG9.out hcell HGJ.out; have HF5 := sets_Parts.far51f HO.out HR9.out HG9.out HGJ.out; clear ho9 hb9 hg9 hat9) | (at_builtin; refine Aside0.out ?_))
          have hst := GroupSt.put (w2 := wr) H3.out HO.out HR.out HLS.out HU9.out HO9.out HG9.out HAT9.out; have hpl := sets_Parts.placeG_some gs kk ⟨u, hi'⟩ j l HIDX.out HL.out; have HS := Aside0.mk HSUC.out; rw [HPC.out, hpl] at HS; rw [← HLN.out, ← HGO.out, ← HGJ.out] at hst; have hfin := sets_Parts.st_set hst HL.out; rw [← HS.out] at hfin; rw [show (l ++ [(⟨u, hi'⟩ : S41)]).length = l.length + 1 from by simp] at hfin; exact ⟨⟨i + 1, by first | exact sets_Parts.num i | rfl, HIL.out, ⟨hfin⟩⟩, sets_Parts.meas _ _ HIL.out⟩
        | none =>
          have HIDX := Aside0.mk hidx; clear hidx; obtain ⟨l, hl0⟩ : ∃ l : List S41, l = [] := ⟨_, rfl⟩; have HLL := Aside0.mk (by rw [hl0]; decide : l.length ≤ 67108864); have HL0 := Aside0.mk hl0; clear hl0; obtain ⟨ao, co, hv19⟩ := H1.out.grp.form; subst hv19; obtain ⟨ln, hln⟩ : ∃ ln, ln = (gs.map Prod.snd).length := ⟨_, rfl⟩; rw [← hln] at H1 ⊢; have HLN := Aside0.mk hln; have HLG := Aside0.mk (by rw [hln, List.length_map] : ln = gs.length)
          have hjb : (ln : Int) ≤ 67108864 := by have := HN.out; have := HLG.out; omega
          have hp4 := eq_true (show (0 : Int) ≤ (ln : Int) by omega); clear hln
          go_wp2_with (first | (go_at_call 50; refine (BC.out _ (HG.out.of_below H1.out.blw)).mono ?_; rintro e w3 ⟨rfl, hb3⟩; have H2 := Aside0.mk (H1.out.below hb3); have hbc := HBC.out _ (HG.out.of_below H2.out.blw); have hcn := HCN.out _ H2.out.row; clear hb3) | (go_at_call 59; rw [HMA2.out]; refine (H2.out.bld.str HMS.out).mono ?_; rintro e w4 ⟨rfl, hm4, hb4, ho4⟩; have H3 := Aside0.mk (H2.out.str hm4 hb4 ho4); rw [← HKB.out]; clear hm4 hb4 ho4) | (at_lookup; obtain ⟨D, hown, hism, h3⟩ := H3.out.lookup; refine wpList_lookup_own_ok_int _ rfl (.tmp 161) (.tmp 162) 102 rfl 9 3 .i64 sets_Parts.klaw Tryz.underlying102 Tryz.underlying3 (sets_Parts.kzero _) Mb gs.length D rfl hown (.string kb) (.string kk) rfl HKEY.out ?_; intro c hat hwc; rw [(h3 kk).1, HIDX.out]; skip; simp only [Option.isSome]; clear hat hwc) | (at_mapUpdate; obtain ⟨D2, hown2, hism2, h32⟩ := H3.out.lookup; refine wpList_mapUpdate_own _ rfl (.tmp 170) (.tmp 171) (.tmp 172) 102 rfl 9 3 sets_Parts.klaw Tryz.underlying102 (Go.plainElem Tryz.prog 3) Mb gs.length D2 rfl hown2 (Nat.lt_of_le_of_lt (Nat.le_trans HN.out (Nat.le_trans (Nat.le_of_lt HIL.out) hcl)) (by decide)) (.string kb) (.int .i64 (ln : Int)) (.string kk) rfl rfl HKEY.out (.lit (.int .i64 (ln : Int))) [] (Go.plainElem_int Tryz.underlying3 (sets_Parts.wfInt ln (by omega))) ?_; intro w4b hown4 hg4; have H5 := Aside0.mk (H3.out.mapped (x := [⟨u, hi'⟩]) hg4 hism2 h32 HIDX.out (by rw [HLG.out] at hown4; exact hown4)); clear hown4 hg4 hown2 hism2 h32) | ((with_reducible refine gate_builtin (b := .append) (xs := #[.tmp 173, .tmp 174]) rfl ?_); at_builtin; obtain ⟨vs0, f0, ho0, hr0⟩ := H5.out.grp.ex; refine print_append_cells (w0 := w) w.heap.size rfl (.tmp 173) (.tmp 174) 25 24 (.slice none 0 0) 1 24 rfl Tryz.underlying25 sets_Parts.info22 rfl (by decide) (by omega) (.slice ao ln co) (gs.map Prod.snd).length vs0 [.slice none 0 0] rfl rfl rfl (by simp [Value.oneCell']) ho0 H5.out.blw (below_size H5.out.blw) (by have := HLN.out; omega) ?_; intro v2 w6 ho2 hb2 hg2 hat2; have H6 := Aside0.mk (by have h6 := H5.out.snoc2 ho0 hr0 ho2 hg2; rw [HL0.out]; exact h6 : GroupSt w M Mb (i + 1) (cs.map key) (gs.map Prod.snd ++ [l]) (gs ++ [(kk, [⟨u, hi'⟩])]) v2 (.slice (some ga) cs.length cap) cs w6); obtain ⟨go, cap9, hv2⟩ := H6.out.grp.form2 (by simp); subst hv2; obtain ⟨gov, hgo⟩ : ∃ gov : Addr, gov = ⟨go, 0, none⟩ := ⟨_, rfl⟩; obtain ⟨lm, hlm⟩ : ∃ lm, lm = (gs.map Prod.snd ++ [l]).length := ⟨_, rfl⟩; rw [← hgo, ← hlm]; have hq4 := eq_true (show (ln : Int) < (lm : Int) by (rw [hlm, HLN.out]; simp; try omega)); have HLS2 := Aside0.mk (by rw [HLN.out]; simp : (gs.map Prod.snd ++ [l])[ln]? = some l); obtain ⟨vs, f, ho, hr⟩ := H6.out.grp.ex; obtain ⟨u9, hu9, hR9, hf9⟩ := hr ln l HLS2.out; obtain ⟨Ai, ci, hv9⟩ := Kd.R_slice hR9; subst hv9; have hcell := GrpRow.cell ho hu9; have hgj : gov.add ln = ⟨go, ln, none⟩ := (by rw [hgo, add_plain]; try simp); rw [← hgj] at hcell; have HGJ := Aside0.mk hgj; have HO := Aside0.mk ho; have HR := Aside0.mk hr; have HU9 := Aside0.mk hu9; have HR9 := Aside0.mk hR9; have HGO := Aside0.mk hgo; have HLM := Aside0.mk hlm; clear ho hr hu9 hR9 hf9 hgj hgo hlm ho0 hr0 ho2 hb2 hg2 hat2) | ((with_reducible refine gate_builtin (b := .append) (xs := #[.tmp 181, .tmp 185]) rfl ?_); at_builtin; refine Kd.R_append k41 (w0 := w) w.heap.size rfl (.tmp 181) (.tmp 185) 24 41 (.agg #[.int .i32 0, .int .i32 0]) 8 rfl Tryz.underlying24 sets_Parts.info29 rfl (by decide) (by omega) (.slice Ai l.length ci) l ⟨u, hi'⟩ [.int .i32 u, .int .i32 hi'] (fun _ => True) (fun _ => False) rfl rfl (k41_mkM _ _ _ ⟨u, hi'⟩) (fun _ hk => hk.elim) (fun _ _ => trivial) HR9.out H6.out.blw (below_size H6.out.blw) (by have := HLL.out; omega) ?_; intro v9 w5 ho9 hb9 hg9 hat9; obtain ⟨A9, c9, hv9⟩ := Kd.R_slice ho9; subst hv9; have HO9 := Aside0.mk ho9; have HB9 := Aside0.mk hb9; have HG9 := Aside0.mk hg9; have HAT9 := Aside0.mk hat9; have HC5 := sets_Parts.far51 HO.out HR9.out HG9.out hcell HGJ.out; have HF5 := sets_Parts.far51f HO.out HR9.out HG9.out HGJ.out; clear ho9 hb9 hg9 hat9) | (at_builtin; refine Aside0.out ?_))
          have hst := GroupSt.put (w2 := wr) H6.out HO.out HR.out HLS2.out HU9.out HO9.out HG9.out HAT9.out; have hpl := sets_Parts.placeG_none gs kk ⟨u, hi'⟩ HIDX.out; have HS := Aside0.mk HSUC.out; rw [HPC.out, hpl] at HS; rw [← HLM.out, ← HGO.out, ← HGJ.out] at hst; have hfin := sets_Parts.st_add hst HL0.out HLG.out; rw [← HS.out] at hfin; rw [show (l ++ [(⟨u, hi'⟩ : S41)]).length = l.length + 1 from by simp] at hfin; exact ⟨⟨i + 1, by first | exact sets_Parts.num i | rfl, HIL.out, ⟨hfin⟩⟩, sets_Parts.meas _ _ HIL.out⟩
      · as_aux_lemma =>
        have hd2 : decide (i + 1 < cs.length) = false := decide_eq_false hnx; have hnq := eq_false (show ¬ ((i + 1 : Nat) : Int) < (cs.length : Int) from fun h => hnx (Int.ofNat_lt.1 h)); have hnq2 := eq_false (show ¬ (i : Int) + 1 < (cs.length : Int) by omega); obtain ⟨hi', hhi⟩ : ∃ x, x = hv := ⟨_, rfl⟩; have HPC := Aside0.mk (by unfold sets_Parts.pc; rw [if_neg hnx, ← HU.out, ← HHV.out, ← hhi] : sets_Parts.pc cs i = ⟨u, hi'⟩); rw [← hhi] at HBC; clear hhi hnx
        cases hidx : sets_Parts.idxG gs kk with
        | some j =>
          have HIDX := Aside0.mk hidx; clear hidx; obtain ⟨l, hl⟩ := sets_Parts.idxG_get gs kk j HIDX.out; have HL := Aside0.mk hl; have hjl := sets_Parts.idxG_lt gs kk j HIDX.out; have HJL := Aside0.mk hjl; clear hl
          have hjb : (j : Int) ≤ 67108864 := by have := HN.out; omega
          have hp4 := eq_true (show (0 : Int) ≤ (j : Int) by omega); have hq4 := eq_true (show (j : Int) < ((gs.map Prod.snd).length : Int) by rw [List.length_map]; exact Int.ofNat_lt.2 hjl); have HLL := Aside0.mk (by have := HIN.out _ (List.mem_of_getElem? HL.out); have h2 := HIL.out; simp at this; omega : l.length ≤ 67108864); have HLS := Aside0.mk (by rw [List.getElem?_map, HL.out]; rfl : (gs.map Prod.snd)[j]? = some l); obtain ⟨go, co, hv19⟩ := H1.out.grp.form2 (by rw [List.length_map]; omega); subst hv19; obtain ⟨gov, hgo⟩ : ∃ gov : Addr, gov = ⟨go, 0, none⟩ := ⟨_, rfl⟩; have HGO := Aside0.mk hgo; rw [← hgo]; obtain ⟨ln, hln⟩ : ∃ ln, ln = (gs.map Prod.snd).length := ⟨_, rfl⟩; rw [← hln] at hq4 ⊢; have HLN := Aside0.mk hln; clear hgo hln hjl
          go_wp2_with (first | (go_at_call 50; refine (BC.out _ (HG.out.of_below H1.out.blw)).mono ?_; rintro e w3 ⟨rfl, hb3⟩; have H2 := Aside0.mk (H1.out.below hb3); have hbc := HBC.out _ (HG.out.of_below H2.out.blw); skip; clear hb3) | (go_at_call 59; rw [HMA2.out]; refine (H2.out.bld.str HMS.out).mono ?_; rintro e w4 ⟨rfl, hm4, hb4, ho4⟩; have H3 := Aside0.mk (H2.out.str hm4 hb4 ho4); rw [← HKB.out]; clear hm4 hb4 ho4; obtain ⟨vs, f, ho, hr⟩ := H3.out.grp.ex; obtain ⟨u9, hu9, hR9, hf9⟩ := hr j l HLS.out; obtain ⟨Ai, ci, hv9⟩ := Kd.R_slice hR9; subst hv9; have hcell := GrpRow.cell ho hu9; have hgj : gov.add j = ⟨go, j, none⟩ := (by rw [HGO.out, add_plain]; try simp); rw [← hgj] at hcell; have HGJ := Aside0.mk hgj; have HO := Aside0.mk ho; have HR := Aside0.mk hr; have HU9 := Aside0.mk hu9; have HR9 := Aside0.mk hR9; clear ho hr hu9 hR9 hf9 hgj) | (at_lookup; obtain ⟨D, hown, hism, h3⟩ := H3.out.lookup; refine wpList_lookup_own_ok_int _ rfl (.tmp 161) (.tmp 162) 102 rfl 9 3 .i64 sets_Parts.klaw Tryz.underlying102 Tryz.underlying3 (sets_Parts.kzero _) Mb gs.length D rfl hown (.string kb) (.string kk) rfl HKEY.out ?_; intro c hat hwc; rw [(h3 kk).1, HIDX.out]; obtain rfl : c = (j : Int) := (by have h4 := ((h3 kk).2 j HIDX.out).symm.trans hat; injection h4 with h4; injection h4 with h4 h5; omega); simp only [Option.isSome]; clear hat hwc) | ((with_reducible refine gate_builtin (b := .append) (xs := #[.tmp 181, .tmp 185]) rfl ?_); at_builtin; refine Kd.R_append k41 (w0 := w) w.heap.size rfl (.tmp 181) (.tmp 185) 24 41 (.agg #[.int .i32 0, .int .i32 0]) 8 rfl Tryz.underlying24 sets_Parts.info29 rfl (by decide) (by omega) (.slice Ai l.length ci) l ⟨u, hi'⟩ [.int .i32 u, .int .i32 hi'] (fun _ => True) (fun _ => False) rfl rfl (k41_mkM _ _ _ ⟨u, hi'⟩) (fun _ hk => hk.elim) (fun _ _ => trivial) HR9.out H3.out.blw (below_size H3.out.blw) (by have := HLL.out; omega) ?_; intro v9 w5 ho9 hb9 hg9 hat9; obtain ⟨A9, c9, hv9⟩ := Kd.R_slice ho9; subst hv9; have HO9 := Aside0.mk ho9; have HB9 := Aside0.mk hb9; have HG9 := Aside0.mk hg9; have HAT9 := Aside0.mk hat9; have HC5 := sets_Parts.far51 HO.out HR9.out HG9.out hcell HGJ.out; have HF5 := sets_Parts.far51f HO.out HR9.out HG9.out HGJ.out; clear ho9 hb9 hg9 hat9) | (at_builtin; refine Aside0.out ?_))
          have hst := GroupSt.put (w2 := wr) H3.out HO.out HR.out HLS.out HU9.out HO9.out HG9.out HAT9.out; have hpl := sets_Parts.placeG_some gs kk ⟨u, hi'⟩ j l HIDX.out HL.out; have HS := Aside0.mk HSUC.out; rw [HPC.out, hpl] at HS; rw [← HLN.out, ← HGO.out, ← HGJ.out] at hst; have hfin := sets_Parts.st_set hst HL.out; rw [← HS.out] at hfin; rw [show (l ++ [(⟨u, hi'⟩ : S41)]).length = l.length + 1 from by simp] at hfin; exact ⟨⟨i + 1, by first | exact sets_Parts.num i | rfl, HIL.out, ⟨hfin⟩⟩, sets_Parts.meas _ _ HIL.out⟩
        | none =>
          have HIDX := Aside0.mk hidx; clear hidx; obtain ⟨l, hl0⟩ : ∃ l : List S41, l = [] := ⟨_, rfl⟩; have HLL := Aside0.mk (by rw [hl0]; decide : l.length ≤ 67108864); have HL0 := Aside0.mk hl0; clear hl0; obtain ⟨ao, co, hv19⟩ := H1.out.grp.form; subst hv19; obtain ⟨ln, hln⟩ : ∃ ln, ln = (gs.map Prod.snd).length := ⟨_, rfl⟩; rw [← hln] at H1 ⊢; have HLN := Aside0.mk hln; have HLG := Aside0.mk (by rw [hln, List.length_map] : ln = gs.length)
          have hjb : (ln : Int) ≤ 67108864 := by have := HN.out; have := HLG.out; omega
          have hp4 := eq_true (show (0 : Int) ≤ (ln : Int) by omega); clear hln
          go_wp2_with (first | (go_at_call 50; refine (BC.out _ (HG.out.of_below H1.out.blw)).mono ?_; rintro e w3 ⟨rfl, hb3⟩; have H2 := Aside0.mk (H1.out.below hb3); have hbc := HBC.out _ (HG.out.of_below H2.out.blw); skip; clear hb3) | (go_at_call 59; rw [HMA2.out]; refine (H2.out.bld.str HMS.out).mono ?_; rintro e w4 ⟨rfl, hm4, hb4, ho4⟩; have H3 := Aside0.mk (H2.out.str hm4 hb4 ho4); rw [← HKB.out]; clear hm4 hb4 ho4) | (at_lookup; obtain ⟨D, hown, hism, h3⟩ := H3.out.lookup; refine wpList_lookup_own_ok_int _ rfl (.tmp 161) (.tmp 162) 102 rfl 9 3 .i64 sets_Parts.klaw Tryz.underlying102 Tryz.underlying3 (sets_Parts.kzero _) Mb gs.length D rfl hown (.string kb) (.string kk) rfl HKEY.out ?_; intro c hat hwc; rw [(h3 kk).1, HIDX.out]; skip; simp only [Option.isSome]; clear hat hwc) | (at_mapUpdate; obtain ⟨D2, hown2, hism2, h32⟩ := H3.out.lookup; refine wpList_mapUpdate_own _ rfl (.tmp 170) (.tmp 171) (.tmp 172) 102 rfl 9 3 sets_Parts.klaw Tryz.underlying102 (Go.plainElem Tryz.prog 3) Mb gs.length D2 rfl hown2 (Nat.lt_of_le_of_lt (Nat.le_trans HN.out (Nat.le_trans (Nat.le_of_lt HIL.out) hcl)) (by decide)) (.string kb) (.int .i64 (ln : Int)) (.string kk) rfl rfl HKEY.out (.lit (.int .i64 (ln : Int))) [] (Go.plainElem_int Tryz.underlying3 (sets_Parts.wfInt ln (by omega))) ?_; intro w4b hown4 hg4; have H5 := Aside0.mk (H3.out.mapped (x := [⟨u, hi'⟩]) hg4 hism2 h32 HIDX.out (by rw [HLG.out] at hown4; exact hown4)); clear hown4 hg4 hown2 hism2 h32) | ((with_reducible refine gate_builtin (b := .append) (xs := #[.tmp 173, .tmp 174]) rfl ?_); at_builtin; obtain ⟨vs0, f0, ho0, hr0⟩ := H5.out.grp.ex; refine print_append_cells (w0 := w) w.heap.size rfl (.tmp 173) (.tmp 174) 25 24 (.slice none 0 0) 1 24 rfl Tryz.underlying25 sets_Parts.info22 rfl (by decide) (by omega) (.slice ao ln co) (gs.map Prod.snd).length vs0 [.slice none 0 0] rfl rfl rfl (by simp [Value.oneCell']) ho0 H5.out.blw (below_size H5.out.blw) (by have := HLN.out; omega) ?_; intro v2 w6 ho2 hb2 hg2 hat2; have H6 := Aside0.mk (by have h6 := H5.out.snoc2 ho0 hr0 ho2 hg2; rw [HL0.out]; exact h6 : GroupSt w M Mb (i + 1) (cs.map key) (gs.map Prod.snd ++ [l]) (gs ++ [(kk, [⟨u, hi'⟩])]) v2 (.slice (some ga) cs.length cap) cs w6); obtain ⟨go, cap9, hv2⟩ := H6.out.grp.form2 (by simp); subst hv2; obtain ⟨gov, hgo⟩ : ∃ gov : Addr, gov = ⟨go, 0, none⟩ := ⟨_, rfl⟩; obtain ⟨lm, hlm⟩ : ∃ lm, lm = (gs.map Prod.snd ++ [l]).length := ⟨_, rfl⟩; rw [← hgo, ← hlm]; have hq4 := eq_true (show (ln : Int) < (lm : Int) by (rw [hlm, HLN.out]; simp; try omega)); have HLS2 := Aside0.mk (by rw [HLN.out]; simp : (gs.map Prod.snd ++ [l])[ln]? = some l); obtain ⟨vs, f, ho, hr⟩ := H6.out.grp.ex; obtain ⟨u9, hu9, hR9, hf9⟩ := hr ln l HLS2.out; obtain ⟨Ai, ci, hv9⟩ := Kd.R_slice hR9; subst hv9; have hcell := GrpRow.cell ho hu9; have hgj : gov.add ln = ⟨go, ln, none⟩ := (by rw [hgo, add_plain]; try simp); rw [← hgj] at hcell; have HGJ := Aside0.mk hgj; have HO := Aside0.mk ho; have HR := Aside0.mk hr; have HU9 := Aside0.mk hu9; have HR9 := Aside0.mk hR9; have HGO := Aside0.mk hgo; have HLM := Aside0.mk hlm; clear ho hr hu9 hR9 hf9 hgj hgo hlm ho0 hr0 ho2 hb2 hg2 hat2) | ((with_reducible refine gate_builtin (b := .append) (xs := #[.tmp 181, .tmp 185]) rfl ?_); at_builtin; refine Kd.R_append k41 (w0 := w) w.heap.size rfl (.tmp 181) (.tmp 185) 24 41 (.agg #[.int .i32 0, .int .i32 0]) 8 rfl Tryz.underlying24 sets_Parts.info29 rfl (by decide) (by omega) (.slice Ai l.length ci) l ⟨u, hi'⟩ [.int .i32 u, .int .i32 hi'] (fun _ => True) (fun _ => False) rfl rfl (k41_mkM _ _ _ ⟨u, hi'⟩) (fun _ hk => hk.elim) (fun _ _ => trivial) HR9.out H6.out.blw (below_size H6.out.blw) (by have := HLL.out; omega) ?_; intro v9 w5 ho9 hb9 hg9 hat9; obtain ⟨A9, c9, hv9⟩ := Kd.R_slice ho9; subst hv9; have HO9 := Aside0.mk ho9; have HB9 := Aside0.mk hb9; have HG9 := Aside0.mk hg9; have HAT9 := Aside0.mk hat9; have HC5 := sets_Parts.far51 HO.out HR9.out HG9.out hcell HGJ.out; have HF5 := sets_Parts.far51f HO.out HR9.out HG9.out HGJ.out; clear ho9 hb9 hg9 hat9) | (at_builtin; refine Aside0.out ?_))
          have hst := GroupSt.put (w2 := wr) H6.out HO.out HR.out HLS2.out HU9.out HO9.out HG9.out HAT9.out; have hpl := sets_Parts.placeG_none gs kk ⟨u, hi'⟩ HIDX.out; have HS := Aside0.mk HSUC.out; rw [HPC.out, hpl] at HS; rw [← HLM.out, ← HGO.out, ← HGJ.out] at hst; have hfin := sets_Parts.st_add hst HL0.out HLG.out; rw [← HS.out] at hfin; rw [show (l ++ [(⟨u, hi'⟩ : S41)]).length = l.length + 1 from by simp] at hfin; exact ⟨⟨i + 1, by first | exact sets_Parts.num i | rfl, HIL.out, ⟨hfin⟩⟩, sets_Parts.meas _ _ HIL.out⟩
    · have hd1 : decide (i < cs.length) = false := decide_eq_false hil
      obtain rfl : i = cs.length := Nat.le_antisymm hi (Nat.not_lt.1 hil); clear hil hi
      go_wp2
      exact sets_Parts.leave rfl (HQ.out _ _ H1.out.grp H1.out.blw)
theorem sets_Parts.own_at {B e : Nat} {α : Type} {d : Kd α} {w5 : World} {v : Value} {r : List α} {o : Option Nat} {n : Nat} (h : d.R e w5 B (fun k => some k = o ∨ n ≤ k) v r) : v.ownBlock = o ∨ v.ownBlock = none ∨ ∃ b, v.ownBlock = some b ∧ n ≤ b := by
  cases hv : v.ownBlock with
  | none => exact .inr (.inl rfl)
  | some b =>
    rcases h.1 b hv with h1 | h1
    (· exact .inl h1); (· exact .inr (.inr ⟨b, rfl, h1⟩))
theorem below_two {B : Nat} {w wr w' : World} (h1 : Below B w wr) (h2 : Below B w w') (hs : wr.heap.size ≤ w'.heap.size) : Below B wr w' :=
  ⟨h2.os.trans h1.os.symm, h2.tape.trans h1.tape.symm, h2.output.trans h1.output.symm, hs, fun b hb => (h2.block b hb).trans (h1.block b hb).symm⟩
theorem sets_Parts.doneTo_next {ls rs : List (List S41)} {n : Nat} {r : List S41} (hn : n < ls.length) (hl : rs.length = ls.length) (hr : rs[n]? = some r) : (rs.take n ++ ls.drop n).set n r = rs.take (n + 1) ++ ls.drop (n + 1) := by
  have e1 : (rs.take n).length = n := by simp; omega
  rw [List.set_append, if_neg (by omega), e1, Nat.sub_self, List.drop_eq_getElem_cons hn, List.set_cons_zero, List.take_add_one, hr, List.append_assoc]; rfl
theorem sets_Parts.doneTo_get {ls rs : List (List S41)} {n : Nat} {l : List S41} (hl : rs.length = ls.length) (hr : ls[n]? = some l) : (rs.take n ++ ls.drop n)[n]? = some l := by
  have hn := (List.getElem?_eq_some_iff.1 hr).1
  have e1 : (rs.take n).length = n := by simp; omega
  rw [List.getElem?_append_right (by omega), e1, Nat.sub_self, List.getElem?_drop, Nat.add_zero, hr]
theorem sets_Parts.farK {W w5 : World} {B go cap n : Nat} {ls : List (List S41)} {vs : List Value} {u x : Value} {l : List S41} {a : Addr} (ho : W.ownsRow B 24 1 (.slice (some ⟨go, 0, none⟩) ls.length cap) ls.length vs) (hR : Kd.R k41 41 W B (fun _ => True) u l) (hg : Kept W w5 (fun b => some b = u.ownBlock)) (hc : W.cell? a = some x) (ha : a = ⟨go, n, none⟩) : w5.cell? a = some x ∧ w5.frozen? a = false := by
  subst ha; obtain ⟨inner, hou⟩ := Kd.R_own hR; obtain ⟨curo, hgo⟩ := own_typed ho go rfl; have hgou : some go ≠ u.ownBlock := grp_own_ne hou hgo (fun c t fr e => by injection e with _ e _; rw [← e]; decide); have hb := hg.2 go (own_lt ho go rfl) hgou; exact ⟨(World.cell?_of_block (a := ⟨go, n, none⟩) hb).trans hc, (World.frozen?_of_block (a := ⟨go, n, none⟩) hb).trans (ho.frozenAt n)⟩
set_option maxHeartbeats 16000000 in
set_option maxRecDepth 100000 in
theorem sets_Parts.ph12 (w w1 : World) (s : Nat → Value) (k : Nat) (ls rs : List (List S41)) (hll : ls.length ≤ 67108864) (hrl : rs.length = ls.length) (hf : ∀ (j : Nat) (l : List S41), ls[j]? = some l → ∃ r, rs[j]? = some r ∧ sets_gather.f k l = some r)
    (hGR : GrpRow w.heap.size w1 (s 19) ls) (hB : Below w.heap.size w w1) (Q : Exit → Act → World → Prop)
    (hQ : ∀ (s' : Nat → Value) (w' : World), s' 19 = s 19 → GrpRow w.heap.size w' (s' 19) rs → Below w.heap.size w w' → Q .normal ⟨sets_Parts.frm s', []⟩ w') :
    Code.wp Tryz.prog (sets_Parts.at_ 12) Q ⟨sets_Parts.frm s, []⟩ w1 := by
  obtain ⟨A, c, h19⟩ := hGR.form; have HQ := Aside0.mk hQ; have HF := Aside0.mk hf; have HRL := Aside0.mk hrl; have H0 := Aside0.mk (show GrpRow w.heap.size w1 (s 19) (rs.take 0 ++ ls.drop 0) by simpa using hGR); have HB0 := Aside0.mk hB; clear hQ hf hGR hB; rw [h19] at H0
  by_cases hz : ls.length = 0
  · rw [hz] at h19
    have hrz : rs = ls := by rw [List.length_eq_zero_iff.1 hz, List.length_eq_zero_iff.1 (hrl.trans hz)]
    have H9 := Aside0.mk (by have h := H0.out; rw [hz] at h; rw [hrz]; simpa using h : GrpRow w.heap.size w1 (.slice A 0 c) rs)
    conv => arg 2; whnf
    rw [sets_Parts.frm_lit, h19]
    go_wp2
    go_loopw [191] (fun v191 wr => v191 = .int .i64 0 ∧ wr = w1) (fun v191 _ => 0)
    case atStart => exact ⟨rfl, rfl⟩
    case round =>
      obtain ⟨rfl, rfl⟩ := hrel
      go_wp2
      exact sets_Parts.leave rfl (HQ.out _ _ h19.symm H9.out HB0.out)
  obtain ⟨go, hA⟩ : ∃ go, A = some ⟨go, 0, none⟩ := by
    obtain ⟨go, co, hv⟩ := GrpRow.form2 H0.out (by simpa using hz); injection hv with hA _ _; exact ⟨go, hA⟩
  subst hA; obtain ⟨gov, hgo⟩ : ∃ gov : Addr, gov = ⟨go, 0, none⟩ := ⟨_, rfl⟩; rw [← hgo] at h19 H0; have HGO := Aside0.mk hgo; clear hgo
  conv => arg 2; whnf
  rw [sets_Parts.frm_lit, h19]
  go_wp2
  go_loopw [191] (fun v191 wr => ∃ n : Nat, v191 = .int .i64 (n : Int) ∧ n ≤ ls.length ∧ Aside0 (GrpRow w.heap.size wr (.slice (some gov) ls.length c) (rs.take n ++ ls.drop n)) ∧ Aside0 (Below w.heap.size w wr)) (fun v191 _ => ls.length - (intOf v191).toNat)
  case atStart => exact ⟨0, rfl, Nat.zero_le _, H0, HB0⟩
  case round =>
    obtain ⟨n, rfl, hn, H1, HB1⟩ := hrel
    by_cases hlt : n < ls.length
    · have hd1 : decide (n < ls.length) = true := decide_eq_true hlt
      have HLT := Aside0.mk hlt; have hlb := eq_true (show (0 : Int) ≤ (n : Int) by omega)
      have hnb : (n : Int) ≤ 67108864 := by omega
      obtain ⟨l, hl⟩ : ∃ l, ls[n]? = some l := ⟨_, List.getElem?_eq_getElem hlt⟩; obtain ⟨r, hr1, hr2⟩ := HF.out n l hl; have HN := Aside0.mk (sets_Parts.doneTo_next hlt hrl hr1); have HLS := Aside0.mk (sets_Parts.doneTo_get hrl hl); obtain ⟨ds, hds⟩ : ∃ ds, ds = rs.take n ++ ls.drop n := ⟨_, rfl⟩; rw [← hds] at HN HLS H1; have HLEN := Aside0.mk (by rw [hds]; simp; omega : ds.length = ls.length); have hlq := eq_true (show (n : Int) < (ls.length : Int) from Int.ofNat_lt.2 hlt); rw [HGO.out, ← HLEN.out] at H1; obtain ⟨vs, f, ho, hr⟩ := H1.out.ex; obtain ⟨u9, hu9, hR9, hf9⟩ := hr n l HLS.out; obtain ⟨Ai, ci, hv9⟩ := Kd.R_slice hR9; subst hv9; have hcell := GrpRow.cell ho hu9
      have hgj : gov.add n = ⟨go, n, none⟩ := by rw [HGO.out, add_plain]; try simp
      rw [← hgj] at hcell; have HGC := Aside0.mk (sets_gather.calls k (fun b => some b = (Value.slice Ai l.length ci).ownBlock) (.slice Ai l.length ci) l r w wr HB1.out (sets_Parts.R_moveV hR9 (fun _ _ => rfl) (fun b hb => hb.symm)) hr2); have HCELL := Aside0.mk hcell; have HGJ := Aside0.mk hgj; have HO := Aside0.mk ho; have HR := Aside0.mk hr; have HU9 := Aside0.mk hu9; have HR9 := Aside0.mk hR9; clear ho hr hu9 hR9 hf9 hgj hr1 hr2 hl hds hlt
      go_wp2_with (first | (go_at_call 45; go_loud (refine HGC.out.mono ?_; rintro e w5 ⟨v9, rfl, hR5, hB5, hK5⟩; obtain ⟨hcell5, hfr5⟩ := sets_Parts.farK HO.out HR9.out hK5 HCELL.out HGJ.out; obtain ⟨A9, c9, hv9⟩ := Kd.R_slice hR5; subst hv9; have HR5 := Aside0.mk hR5; have HB5 := Aside0.mk hB5; have HK5 := Aside0.mk hK5; clear hR5 hB5 hK5)) | (at_builtin; refine Aside0.out ?_))
      have hput := GrpRow.put HO.out HR.out HLS.out HU9.out (Kd.R_mono HR5.out (fun _ _ => trivial)) (below_two HB1.out HB5.out HK5.out.1) (fun b hb hne => HK5.out.2 b hb hne) (sets_Parts.own_at HR5.out); obtain ⟨hp1, _, hp3⟩ := hput; rw [HN.out, ← HGJ.out, ← HGO.out, HLEN.out] at hp1; rw [← HGJ.out] at hp3; exact ⟨⟨n + 1, by first | exact sets_Parts.num n | rfl, HLT.out, ⟨hp1⟩, ⟨HB1.out.trans hp3⟩⟩, sets_Parts.meas _ _ HLT.out⟩
    · have hd1 : decide (n < ls.length) = false := decide_eq_false hlt
      obtain rfl : n = ls.length := Nat.le_antisymm hn (Nat.not_lt.1 hlt); clear hlt hn; have h2 := H1.out; rw [List.drop_length, List.append_nil, List.take_of_length_le (by omega)] at h2; have H2 := Aside0.mk h2; clear h2
      go_wp2
      exact sets_Parts.leave rfl (HQ.out _ _ h19.symm H2.out HB1.out)
def sets_Parts.cs (l0 : List (List S41)) : List Int := sets_Parts.once (sets_Parts.sorted (sets_Parts.begins l0))
theorem sets_Parts.once_mem {xs : List Int} {u : Int} (h : u ∈ sets_Parts.once xs) : u ∈ xs := by
  unfold sets_Parts.once Go.Lib.compactUpTo at h; obtain ⟨j, hj, rfl⟩ := List.mem_map.1 h; have hlt := List.mem_range.1 (List.mem_filter.1 hj).1
  have hlt' : j < xs.length := by simpa using hlt
  have e : xs.toArray[j]! = xs[j] := by simp [hlt']
  rw [e]; exact List.getElem_mem hlt'
theorem sets_Parts.once_mem_of {xs : List Int} {u : Int} (h : u ∈ xs) : u ∈ sets_Parts.once xs := by
  have hx : ∃ j, j < xs.length ∧ xs.toArray[j]! = u := by
    obtain ⟨j, hj, e⟩ := List.getElem_of_mem h; exact ⟨j, hj, by simp [hj, e]⟩
  have least : ∀ n, ∀ j, j ≤ n → j < xs.length → xs.toArray[j]! = u → ∃ i, i < xs.length ∧ xs.toArray[i]! = u ∧ Go.Lib.keeps xs.toArray i = true := by
    intro n
    induction n with
    | zero =>
      intro j hj hjl e
      obtain rfl : j = 0 := by omega
      exact ⟨0, hjl, e, by simp [Go.Lib.keeps]⟩
    | succ n ih =>
      intro j hj hjl e
      by_cases hk : Go.Lib.keeps xs.toArray j = true
      · exact ⟨j, hjl, e, hk⟩
      · have hj0 : j ≠ 0 := by rintro rfl; exact hk (by simp [Go.Lib.keeps])
        refine ih (j - 1) (by omega) (by omega) ?_
        simp [Go.Lib.keeps, hj0] at hk
        rw [← e]
        first | exact hk.symm | exact hk | (simp at hk ⊢; omega)
  obtain ⟨j, hj, e⟩ := hx; obtain ⟨i, hi, e2, hk⟩ := least j j (Nat.le_refl _) hj e; unfold sets_Parts.once Go.Lib.compactUpTo; exact List.mem_map.2 ⟨i, List.mem_filter.2 ⟨List.mem_range.2 (by simpa using hi), hk⟩, e2⟩
theorem sets_Parts.once_asc {xs : List Int} (h : xs.Pairwise (fun a b => a ≤ b)) : (sets_Parts.once xs).Pairwise (fun a b => a < b) := by
  unfold sets_Parts.once Go.Lib.compactUpTo; rw [List.pairwise_map]; have hp : (List.range xs.toArray.size).Pairwise (fun a b => a < b) := List.pairwise_lt_range; refine (hp.filter (Go.Lib.keeps xs.toArray)).imp_of_mem ?_; intro i j hi hj hij; have hj1 := List.mem_range.1 (List.mem_filter.1 hj).1; have hj2 := (List.mem_filter.1 hj).2
  have hjl : j < xs.length := by simpa using hj1
  have e1 : ∀ k, (hk : k < xs.length) → xs.toArray[k]! = xs[k] := fun k hk => by simp [hk]
  have hne : xs.toArray[j]! ≠ xs.toArray[j - 1]! := by
    have hj0 : j ≠ 0 := by omega
    simp [Go.Lib.keeps, hj0] at hj2
    intro e
    first | exact hj2 e | exact hj2 e.symm | (simp at e; exact hj2 e) | (simp at e; exact hj2 e.symm)
  rw [e1 j hjl, e1 (j - 1) (by omega)] at hne; rw [e1 i (by omega), e1 j hjl]
  have h1 : xs[i]'(by omega) ≤ xs[j - 1]'(by omega) := by
    rcases Nat.lt_or_ge i (j - 1) with h2 | h2
    · exact List.pairwise_iff_getElem.1 h i (j - 1) (by omega) (by omega) h2
    · have : i = j - 1 := by omega
      subst this; exact Int.le_refl _
  have h2 := List.pairwise_iff_getElem.1 h (j - 1) j (by omega) hjl (by omega); omega
theorem sets_Parts.sorted_asc (xs : List Int) : (sets_Parts.sorted xs).Pairwise (fun a b => a ≤ b) := by
  have h := List.pairwise_mergeSort (le := fun (x y : Int) => decide (x ≤ y)) (fun a b c h1 h2 => by have e1 := of_decide_eq_true h1; have e2 := of_decide_eq_true h2; exact decide_eq_true (by omega)) (fun a b => by rcases Int.le_total a b with e | e; exact (by simp [e]); exact (by simp [e])) xs; exact h.imp (fun h => of_decide_eq_true h)
theorem sets_Parts.cs_asc (l0 : List (List S41)) : (sets_Parts.cs l0).Pairwise (fun a b => a < b) := sets_Parts.once_asc (sets_Parts.sorted_asc _)
theorem sets_Parts.cs_mem (l0 : List (List S41)) (u : Int) : u ∈ sets_Parts.cs l0 ↔ u ∈ sets_Parts.begins l0 := by
  have h : u ∈ sets_Parts.sorted (sets_Parts.begins l0) ↔ u ∈ sets_Parts.begins l0 := by unfold sets_Parts.sorted; exact List.mem_mergeSort
  exact ⟨fun h1 => h.1 (sets_Parts.once_mem h1), fun h1 => sets_Parts.once_mem_of (h.2 h1)⟩
theorem sets_Parts.cs_ne (l0 : List (List S41)) : sets_Parts.cs l0 ≠ [] := by
  intro e; have h : (0 : Int) ∈ sets_Parts.cs l0 := (sets_Parts.cs_mem l0 0).2 (by simp [sets_Parts.begins]); rw [e] at h
  cases h
theorem sets_Parts.begins_len (l0 : List (List S41)) (ht : sets_Parts.tot l0 ≤ 16777216) : (sets_Parts.begins l0).length ≤ 67108864 := by
  unfold sets_Parts.begins; rw [List.length_append]; have h2 := sets_Parts.begF_len l0; have h3 : ([0, 57344, 1114240] : List Int).length = 3 := rfl; omega
theorem sets_Parts.cs_len (l0 : List (List S41)) (ht : sets_Parts.tot l0 ≤ 16777216) : (sets_Parts.cs l0).length ≤ 67108864 := by
  have h1 := sets_Parts.once_len (sets_Parts.sorted (sets_Parts.begins l0)); rw [sets_Parts.sorted_len] at h1; exact Nat.le_trans h1 (sets_Parts.begins_len l0 ht)
def sets_Parts.good (l0 : List (List S41)) : Bool :=
  decide (l0.length ≤ 16777216) && decide (sets_Parts.tot l0 ≤ 16777216) && l0.all fun l => (l.all fun r => decide (0 ≤ bandOf r.f0) && decide (r.f0 ≤ r.f1) && decide (r.f1 ≤ 1114367)) && decide (l.Pairwise (fun a b => a.f1 + 1 < b.f0))
structure sets_Parts.Good (l0 : List (List S41)) : Prop where
  len : l0.length ≤ 16777216
  tot : sets_Parts.tot l0 ≤ 16777216
  band : ∀ l ∈ l0, ∀ r ∈ l, 0 ≤ bandOf r.f0 ∧ r.f0 ≤ r.f1 ∧ r.f1 ≤ 1114367
  apart : ∀ l ∈ l0, l.Pairwise (fun a b => a.f1 + 1 < b.f0)
theorem sets_Parts.good_iff (l0 : List (List S41)) : sets_Parts.good l0 = true ↔ sets_Parts.Good l0 := by
  unfold sets_Parts.good; simp only [Bool.and_eq_true, decide_eq_true_eq, List.all_eq_true]; constructor; (· rintro ⟨⟨h1, h2⟩, h3⟩; exact ⟨h1, h2, fun l hl r hr => ⟨((h3 l hl).1 r hr).1.1, ((h3 l hl).1 r hr).1.2, ((h3 l hl).1 r hr).2⟩, fun l hl => (h3 l hl).2⟩); (· rintro ⟨h1, h2, h3, h4⟩; exact ⟨⟨h1, h2⟩, fun l hl => ⟨fun r hr => ⟨⟨(h3 l hl r hr).1, (h3 l hl r hr).2.1⟩, (h3 l hl r hr).2.2⟩, h4 l hl⟩⟩)
theorem sets_Parts.band_pos {u : Int} (h : 0 ≤ bandOf u) : 0 ≤ u ∧ u ≤ 1114367 := by unfold bandOf at h; split at h <;> (try split at h) <;> (try split at h) <;> omega
theorem sets_Parts.Good.ok {l0 : List (List S41)} (h : sets_Parts.Good l0) : sets_Parts.okR l0 := fun l hl r hr => by
  have h1 := h.band l hl r hr; have h2 := sets_Parts.band_pos h1.1; omega
theorem sets_Parts.Good.bands {l0 : List (List S41)} (h : sets_Parts.Good l0) : ∀ u ∈ sets_Parts.cs l0, 0 ≤ bandOf u := by
  intro u hu; have hb := (sets_Parts.cs_mem l0 u).1 hu; unfold sets_Parts.begins at hb
  rcases List.mem_append.1 hb with h1 | h1
  · simp at h1
    rcases h1 with rfl | rfl | rfl <;> decide
  · obtain ⟨l, hl, h2⟩ := List.mem_flatMap.1 h1
    obtain ⟨r, hr, h3⟩ := List.mem_flatMap.1 h2; unfold sets_Parts.beg1 at h3
    rcases List.mem_cons.1 h3 with rfl | h4
    · exact (h.band l hl r hr).1
    · split at h4
      · rename_i h5; rw [List.mem_singleton.1 h4]; exact h5
      · cases h4
def sets_Parts.groups (l0 : List (List S41)) : List (List S41) := (sets_Parts.grpN (sets_Parts.cs l0) (fun u => sets_Parts.keyN l0 u l0.length) (sets_Parts.cs l0).length).map Prod.snd
def sets_Parts.gat (k : Nat) : List (List S41) → Option (List (List S41))
  | [] => some []
  | l :: ls => (sets_gather.f k l).bind fun r => (sets_Parts.gat k ls).bind fun rs => some (r :: rs)
theorem sets_Parts.gat_mono (k : Nat) : ∀ ls, LeO (sets_Parts.gat k ls) (sets_Parts.gat (k + 1) ls)
  | [] => LeO.refl _
  | l :: ls => LeO.bind (sets_gather.mono _ _) (fun _ => LeO.bind (sets_Parts.gat_mono k ls) (fun _ => LeO.refl _))
theorem sets_Parts.gat_get (k : Nat) : ∀ (ls rs : List (List S41)), sets_Parts.gat k ls = some rs → rs.length = ls.length ∧ ∀ (j : Nat) (l : List S41), ls[j]? = some l → ∃ r, rs[j]? = some r ∧ sets_gather.f k l = some r
  | [], rs, h => by
    obtain rfl := Option.some.inj h; exact ⟨rfl, fun j l hj => by simp at hj⟩
  | x :: ls, rs, h => by
    obtain ⟨r, hr, h⟩ := Option.bind_eq_some_iff.1 h; obtain ⟨qs, hq, h⟩ := Option.bind_eq_some_iff.1 h; obtain rfl := Option.some.inj h; obtain ⟨h1, h2⟩ := sets_Parts.gat_get k ls qs hq; refine ⟨by simp [h1], fun j l hj => ?_⟩
    cases j with
    | zero => obtain rfl := Option.some.inj hj; exact ⟨r, rfl, hr⟩
    | succ j => exact h2 j l hj
def sets_Parts.f (k : Nat) (l0 : List (List S41)) : Option (List (List S41) × Int) :=
  (sets_check.f k l0).bind fun t => if t = 0 then (if sets_Parts.good l0 = true then (sets_Parts.gat k (sets_Parts.groups l0)).bind fun rs => some (rs, 0) else none) else some ([], t)
theorem sets_Parts.mono : ∀ a0 k, LeO (sets_Parts.f k a0) (sets_Parts.f (k + 1) a0) := by
  intro a0 k; unfold sets_Parts.f; refine LeO.bind (sets_check.mono _ _) (fun t => LeO.ite (LeO.ite (LeO.bind (sets_Parts.gat_mono k _) (fun _ => LeO.refl _)) (LeO.none _)) (LeO.refl _))
theorem sets_Parts.S_grp {B : Nat} {W : World} {v : Value} {ls : List (List S41)} (h : GrpRow B W v ls) : Kd.S (Kd.slice 41 k41) 24 W B (fun _ => True) v ls := by
  obtain ⟨vs, f, ho, hr⟩ := h.ex; refine ⟨f, fun _ _ => trivial, vs, by rw [List.length_zipIdx]; exact ho, ⟨by show vs.length = ls.zipIdx.length * 1; rw [List.length_zipIdx]; simpa using ho.1, fun j p hj => ?_⟩⟩; rw [List.getElem?_zipIdx] at hj; obtain ⟨l, hl, rfl⟩ := Option.map_eq_some_iff.1 hj; obtain ⟨u, hu, hR, hf⟩ := hr j l hl; refine ⟨u, ?_, sets_Parts.R_moveV hR (fun _ _ => rfl) (fun b hb => ⟨⟨trivial, ?_⟩, ?_⟩)⟩
  · show (vs.drop (j * 1)).take 1 = [u]
    obtain ⟨hlt, he⟩ := List.getElem?_eq_some_iff.1 hu; rw [Nat.mul_one, List.drop_eq_getElem_cons hlt, he]
    simp
  (· intro e; obtain ⟨cells, hc⟩ := own_typed ho b e.symm; obtain ⟨inner, hou⟩ := Kd.R_own hR; obtain ⟨cells2, hc2⟩ := own_typed hou b hb; rw [hc] at hc2; injection hc2 with hc2; injection hc2 with _ hc2 _; exact absurd hc2 (by decide)); (· show f b = 0 + j; rw [Nat.zero_add]; exact hf b hb)
theorem sets_Parts.leaveE {Q : Exit → Act → World → Prop} {e : Exit} {a : Array Value} {w : World} (h : a.size = 204) (k : Q e ⟨sets_Parts.frm (fun i => a[i]?.getD undef), []⟩ w) : Q e ⟨a, []⟩ w := by
  rw [← sets_Parts.frm_of a h] at k; exact k
theorem sets_Parts.sq {Q : Exit → Act → World → Prop} {a : Act} {w : World} (n : Nat) (hs : sets_Parts.cdrop n sets_Parts.body = .seq (sets_Parts.at_ n) (sets_Parts.cdrop (n + 1) sets_Parts.body)) (h : Code.wp Tryz.prog (sets_Parts.at_ n) (Exit.then (Code.wp Tryz.prog (sets_Parts.cdrop (n + 1) sets_Parts.body) Q) Q) a w) : Code.wp Tryz.prog (sets_Parts.cdrop n sets_Parts.body) Q a w := by
  rw [hs]; exact wp_seq h
theorem sets_Parts.s0 : sets_Parts.cdrop 0 sets_Parts.body = .seq (sets_Parts.at_ 0) (sets_Parts.cdrop 1 sets_Parts.body) := by kernel_rfl
theorem sets_Parts.s1 : sets_Parts.cdrop 1 sets_Parts.body = .seq (sets_Parts.at_ 1) (sets_Parts.cdrop 2 sets_Parts.body) := by kernel_rfl
theorem sets_Parts.s2 : sets_Parts.cdrop 2 sets_Parts.body = .seq (sets_Parts.at_ 2) (sets_Parts.cdrop 3 sets_Parts.body) := by kernel_rfl
theorem sets_Parts.s3 : sets_Parts.cdrop 3 sets_Parts.body = .seq (sets_Parts.at_ 3) (sets_Parts.cdrop 4 sets_Parts.body) := by kernel_rfl
theorem sets_Parts.s4 : sets_Parts.cdrop 4 sets_Parts.body = .seq (sets_Parts.at_ 4) (sets_Parts.cdrop 5 sets_Parts.body) := by kernel_rfl
theorem sets_Parts.s5 : sets_Parts.cdrop 5 sets_Parts.body = .seq (sets_Parts.at_ 5) (sets_Parts.cdrop 6 sets_Parts.body) := by kernel_rfl
theorem sets_Parts.s6 : sets_Parts.cdrop 6 sets_Parts.body = .seq (sets_Parts.at_ 6) (sets_Parts.cdrop 7 sets_Parts.body) := by kernel_rfl
theorem sets_Parts.s7 : sets_Parts.cdrop 7 sets_Parts.body = .seq (sets_Parts.at_ 7) (sets_Parts.cdrop 8 sets_Parts.body) := by kernel_rfl
theorem sets_Parts.s8 : sets_Parts.cdrop 8 sets_Parts.body = .seq (sets_Parts.at_ 8) (sets_Parts.cdrop 9 sets_Parts.body) := by kernel_rfl
theorem sets_Parts.s9 : sets_Parts.cdrop 9 sets_Parts.body = .seq (sets_Parts.at_ 9) (sets_Parts.cdrop 10 sets_Parts.body) := by kernel_rfl
theorem sets_Parts.s10 : sets_Parts.cdrop 10 sets_Parts.body = .seq (sets_Parts.at_ 10) (sets_Parts.cdrop 11 sets_Parts.body) := by kernel_rfl
theorem sets_Parts.s11 : sets_Parts.cdrop 11 sets_Parts.body = .seq (sets_Parts.at_ 11) (sets_Parts.cdrop 12 sets_Parts.body) := by kernel_rfl
theorem sets_Parts.s12 : sets_Parts.cdrop 12 sets_Parts.body = .seq (sets_Parts.at_ 12) (sets_Parts.cdrop 13 sets_Parts.body) := by kernel_rfl
theorem sets_Parts.s13 : sets_Parts.cdrop 13 sets_Parts.body = .seq (sets_Parts.at_ 13) .ret := by kernel_rfl
set_option maxHeartbeats 4000000 in
set_option maxRecDepth 100000 in
theorem sets_Parts.ph0 (w : World) (s : Nat → Value) (Q : Exit → Act → World → Prop)
    (hQ : ∀ (s' : Nat → Value), s' 0 = s 0 → s' 2 = .slice none 0 0 → s' 3 = .int .i64 0 → Q .normal ⟨sets_Parts.frm s', []⟩ w) :
    Code.wp Tryz.prog (sets_Parts.at_ 0) Q ⟨sets_Parts.frm s, []⟩ w := by
  have HQ := Aside0.mk hQ; clear hQ
  conv => arg 2; whnf
  rw [sets_Parts.frm_lit]
  go_wp2
  exact sets_Parts.leave rfl (HQ.out _ rfl rfl rfl)
set_option maxHeartbeats 4000000 in
set_option maxRecDepth 100000 in
theorem sets_Parts.phA (w : World) (s : Nat → Value) (t : Int) (A0 : Option Addr) (n0 c0 : Nat) (h0 : s 0 = .slice A0 n0 c0) (hC : Calls Tryz.prog 51 #[.slice A0 n0 c0] w fun e w' => e = .returned (.int .i64 t) ∧ Below w.heap.size w w') (Q : Exit → Act → World → Prop)
    (hQ : t = 0 → ∀ (s' : Nat → Value) (w' : World), s' 0 = s 0 → Below w.heap.size w w' → Q .normal ⟨sets_Parts.frm s', []⟩ w')
    (hR : t ≠ 0 → ∀ (s' : Nat → Value) (w' : World), s' 2 = .slice none 0 0 → s' 3 = .int .i64 t → Below w.heap.size w w' → Q .ret ⟨sets_Parts.frm s', []⟩ w') :
    Code.wp Tryz.prog (sets_Parts.at_ 1) Q ⟨sets_Parts.frm s, []⟩ w := by
  have HQ := Aside0.mk hQ; have HR := Aside0.mk hR; have HC := Aside0.mk hC; clear hQ hR hC
  conv => arg 2; whnf
  rw [sets_Parts.frm_lit, h0]
  by_cases ht : t = 0
  · subst ht
    go_wp2_with (go_at_call 51; refine HC.out.mono ?_; rintro e w1 ⟨rfl, hb⟩; have HB := Aside0.mk hb; clear hb)
    exact sets_Parts.leave rfl (HQ.out (by first | rfl | trivial) _ _ h0.symm HB.out)
  · have hd : decide (t = 0) = false := decide_eq_false ht
    go_wp2_with (go_at_call 51; refine HC.out.mono ?_; rintro e w1 ⟨rfl, hb⟩; have HB := Aside0.mk hb; clear hb)
    exact sets_Parts.leaveE rfl (HR.out ht _ _ rfl rfl HB.out)
set_option maxHeartbeats 4000000 in
set_option maxRecDepth 100000 in
theorem sets_Parts.phB (w : World) (s : Nat → Value) (Q : Exit → Act → World → Prop)
    (hQ : ∀ (s' : Nat → Value), s' 0 = s 0 → s' 5 = .slice none 0 0 → Q .normal ⟨sets_Parts.frm s', []⟩ w) :
    Code.wp Tryz.prog (sets_Parts.at_ 2) Q ⟨sets_Parts.frm s, []⟩ w := by
  have HQ := Aside0.mk hQ; clear hQ
  conv => arg 2; whnf
  rw [sets_Parts.frm_lit]
  go_wp2
  exact sets_Parts.leave rfl (HQ.out _ rfl rfl)
set_option maxHeartbeats 4000000 in
set_option maxRecDepth 100000 in
theorem sets_Parts.phZ (w : World) (s : Nat → Value) (Q : Exit → Act → World → Prop)
    (hQ : ∀ (s' : Nat → Value), s' 2 = s 19 → s' 3 = .int .i64 0 → Q .normal ⟨sets_Parts.frm s', []⟩ w) :
    Code.wp Tryz.prog (sets_Parts.at_ 13) Q ⟨sets_Parts.frm s, []⟩ w := by
  have HQ := Aside0.mk hQ; clear hQ
  conv => arg 2; whnf
  rw [sets_Parts.frm_lit]
  go_wp2
  exact sets_Parts.leave rfl (HQ.out _ rfl rfl)
theorem sets_Parts.frm_get (s : Nat → Value) (i : Nat) (h : i < 204) : (sets_Parts.frm s).getD i undef = s i := by
  unfold sets_Parts.frm
  simp [Array.getD, h]
theorem sets_Parts.frm_start (x : Value) (n : Nat) (hn : n = 204) : ∃ s : Nat → Value, s 0 = x ∧ (#[x] ++ Array.replicate (n - (#[x] : Array Value).size) undef) = sets_Parts.frm s := by
  subst hn; refine ⟨fun i => (#[x] ++ Array.replicate (204 - (#[x] : Array Value).size) undef)[i]?.getD undef, ?_, sets_Parts.frm_of _ ?_⟩; (· show (#[x] ++ Array.replicate (204 - (#[x] : Array Value).size) undef)[0]?.getD undef = x; rw [Array.getElem?_append_left (Nat.zero_lt_one)]; rfl); (· rw [Array.size_append, Array.size_replicate]; rfl)
theorem sets_Parts.body_eq : Tryz.f33.body = some sets_Parts.body := by kernel_rfl
theorem sets_Parts.run (k : Nat) (A0 : Option Addr) (c0 : Nat) (l0 : List (List S41)) (r1 : List (List S41)) (r2 : Int) (w : World) (hr0 : Kd.C (Kd.slice 41 k41) w A0 l0.length l0) (hc0 : l0.length ≤ c0) (hG : Glob w) (hT : Lib.TabIs Tryz.prog w "internal/strconv.uint64pow10" .u64 Lib.pow10Tab) (h : sets_Parts.f k l0 = some (r1, r2)) :
    Calls Tryz.prog 33 #[.slice A0 l0.length c0] w fun e w' => ∃ v0_ : Value, e = .returned (.tuple #[v0_, .int .i64 r2]) ∧ Kd.S (Kd.slice 41 k41) 24 w' w.heap.size (fun _ => True) v0_ r1 ∧ Below w.heap.size w w' := by
  unfold sets_Parts.f at h; obtain ⟨t, ht, h⟩ := Option.bind_eq_some_iff.1 h; have hC := sets_check.calls k A0 c0 l0 t w hr0 hc0 hG ht; refine calls_of_wp Tryz.func33 sets_Parts.body_eq ?_; obtain ⟨s, h0, hs⟩ := sets_Parts.frm_start (.slice A0 l0.length c0) Tryz.f33.ntmps Tryz.ntmps33; rw [hs]; refine sets_Parts.sq 0 sets_Parts.s0 (sets_Parts.ph0 w s _ (fun sa ea0 ea2 ea3 => ?_)); refine sets_Parts.sq 1 sets_Parts.s1 (sets_Parts.phA w sa t A0 l0.length c0 (ea0.trans h0) hC _ (fun ht0 sb wb eb0 hbb => ?_) (fun ht0 sb wb eb2 eb3 hbb => ?_))
  case refine_2 =>
    rw [if_neg ht0] at h; injection h with h; injection h with h1 h2; go_ret2; refine ⟨.slice none 0 0, ?_, ?_, hbb⟩; (· rw [sets_Parts.frm_get _ _ (by omega), sets_Parts.frm_get _ _ (by omega), eb2, eb3, h2]); (· rw [← h1]; exact Kd.S_nil _ _ _ _ _)
  rw [if_pos ht0] at h
  by_cases hgd : sets_Parts.good l0 = true
  case neg => rw [if_neg hgd] at h; cases h
  rw [if_pos hgd] at h; obtain ⟨rs, hgat, h⟩ := Option.bind_eq_some_iff.1 h; injection h with h; injection h with h1 h2; subst h1; subst h2; have hg := (sets_Parts.good_iff l0).1 hgd; obtain ⟨hrl, hget⟩ := sets_Parts.gat_get k _ _ hgat; have hGb := hG.of_below hbb; have hCb : Kd.C (Kd.slice 41 k41) wb A0 l0.length l0 := Kd.C_below hr0 hbb; have hTb : Lib.TabIs Tryz.prog wb "internal/strconv.uint64pow10" .u64 Lib.pow10Tab := Lib.tabBelow_of_tabIs hT wb hbb; have hTb2 := Lib.tabBelow_of_tabIs hTb; have hsd : ∀ l ∈ l0, l.Pairwise (fun a b => a.f1 + 1 < b.f0) ∧ ∀ r ∈ l, r.f0 ≤ r.f1 := fun l hl => ⟨hg.apart l hl, fun r hr => (hg.band l hl r hr).2.1⟩; refine sets_Parts.sq 2 sets_Parts.s2 (sets_Parts.phB wb sb _ (fun sc ec0 ec5 => ?_)); refine sets_Parts.sq 3 sets_Parts.s3 (sets_Parts.ph1 wb hGb sc ec5 _ (fun sd wd Ad cd ed0 ed5 hRd hBd => ?_)); refine sets_Parts.sq 4 sets_Parts.s4 (sets_Parts.ph2 wb wd hGb A0 c0 l0 hCb hg.len hg.tot hg.ok sd (ed0.trans (ec0.trans (eb0.trans (ea0.trans h0)))) Ad cd ed5 hRd hBd _ (fun se we ee0 hRe hBe => ?_))
  have hbne : sets_Parts.begins l0 ≠ [] := by simp [sets_Parts.begins]
  have hbl := sets_Parts.begins_len l0 hg.tot; refine sets_Parts.sq 5 sets_Parts.s5 (sets_Parts.ph5 wb we se _ hbne hbl hRe hBe _ (fun sf wf ef0 hRf hBf => ?_)); have hsl := sets_Parts.sorted_len (sets_Parts.begins l0); refine sets_Parts.sq 6 sets_Parts.s6 (sets_Parts.ph6 wb wf sf _ (by intro e; rw [e] at hsl; exact hbne (List.length_eq_zero_iff.1 hsl.symm)) (by omega) hRf hBf _ (fun sg wg eg0 hRg hBg => ?_)); have hRg' : Kd.R (Kd.int .i32) 21 wg wb.heap.size (fun _ => True) (sg 5) (sets_Parts.cs l0) := hRg; have hcl := sets_Parts.cs_len l0 hg.tot; refine sets_Parts.sq 7 sets_Parts.s7 (sets_Parts.ph7 wb wg sg _ hcl hRg' hBg _ (fun sh wh M eh0 eh5 eh12 hRh hBRh hBh => ?_)); refine sets_Parts.sq 8 sets_Parts.s8 (sets_Parts.ph8 wb wh hTb2 A0 c0 l0 hCb hg.len hg.tot hsd sh (eh0.trans (eg0.trans (ef0.trans (ee0.trans (ed0.trans (ec0.trans (eb0.trans (ea0.trans h0)))))))) (sets_Parts.cs l0) hcl (sets_Parts.cs_ne l0) (sets_Parts.cs_asc l0) hRh M eh12 hBRh hBh _ (fun si wi ei0 ei5 ei12 hRi hBRi hBi => ?_)); refine sets_Parts.sq 9 sets_Parts.s9 (sets_Parts.ph9 wb wi si _ (fun sj ej5 ej12 ej18 => ?_)); have hal := below_alloc (Below.refl wi.heap.size wi) (.map #[] 0); refine sets_Parts.sq 10 sets_Parts.s10 (sets_Parts.ph10 _ sj _ (fun sk ek5 ek12 ek18 ek19 => ?_))
  refine sets_Parts.sq 11 sets_Parts.s11 (sets_Parts.ph11 wb _ hGb l0 (fun u => sets_Parts.keyN l0 u l0.length) (fun u => by have := sets_Parts.keyN_len l0 u l0.length (Nat.le_trans hg.len (by decide)); have := hg.len; omega) sk (sets_Parts.cs l0) hcl (sets_Parts.cs_ne l0) hg.bands
    (by rw [ek5, ej5]; exact Kd.R_alloc hRi _) M wi.heap.size hBi.size (by rw [ek12, ej12, ei12, eh12]) (by rw [ek18, ej18]) ek19 (hBRi.below hal) (MapG.made wi) (below_step hBi hal) _ (fun sl wl hGl hBl => ?_))
  refine sets_Parts.sq 12 sets_Parts.s12 (sets_Parts.ph12 wb wl sl k (sets_Parts.groups l0) rs (by unfold sets_Parts.groups; rw [List.length_map]; exact Nat.le_trans (sets_Parts.grpN_len _ _ _) hcl) hrl hget hGl hBl _ (fun sm wm em19 hGm hBm => ?_)); show Code.wp Tryz.prog (sets_Parts.cdrop 13 sets_Parts.body) _ _ _; rw [sets_Parts.s13]; refine wp_seq (sets_Parts.phZ wm sm _ (fun sn en2 en3 => ?_)); show Code.wp Tryz.prog .ret _ _ _; refine wp_ret ?_; go_ret2; refine ⟨sm 19, ?_, ?_, ?_⟩; (· rw [sets_Parts.frm_get _ _ (by omega), sets_Parts.frm_get _ _ (by omega), en2, en3]); (· exact Kd.S_lower (sets_Parts.S_grp hGm) hbb.size); (· exact below_step hbb hBm)
theorem sets_Parts.calls (k : Nat) (A0 : Option Addr) (c0 : Nat) (l0 : List (List S41)) (r1 : List (List S41)) (r2 : Int) (w : World) (hr0 : Kd.C (Kd.slice 41 k41) w A0 l0.length l0) (hc0 : l0.length ≤ c0) (hG : Glob w) (h : sets_Parts.f k l0 = some (r1, r2)) :
    Calls Tryz.prog 33 #[.slice A0 l0.length c0] w fun e w' => ∃ v0_ : Value, e = .returned (.tuple #[v0_, .int .i64 r2]) ∧ Kd.S (Kd.slice 41 k41) 24 w' w.heap.size (fun _ => True) v0_ r1 ∧ Below w.heap.size w w' :=
  sets_Parts.run k A0 c0 l0 r1 r2 w hr0 hc0 hG hG.pow h
end Go.Proofs.YtoggmegpodmfnaaGreatDoor.PS
