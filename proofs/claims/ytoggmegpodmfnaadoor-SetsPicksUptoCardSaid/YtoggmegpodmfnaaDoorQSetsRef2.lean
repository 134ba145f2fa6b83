/- The law's plain side (SetsRef2): what the printed functions come to; each theorem states its own conditions. -/
import Derived.Test.YtoggmegpodmfnaaDoorPVx0
import Derived.Test.YtoggmegpodmfnaaDoorPVx2
import Derived.Test.YtoggmegpodmfnaaDoorPVx3
import Derived.Test.YtoggmegpodmfnaaDoorBSetsBand
import Derived.Test.YtoggmegpodmfnaaDoorQSetsRef
namespace Go.Proofs.YtoggmegpodmfnaaDoor.Q
open Go.RowKit Go.Proofs.YtoggmegpodmfnaaDoorW.PrintWords Go.Proofs.YtoggmegpodmfnaaDoorW.PrintLast Go.Proofs.YtoggmegpodmfnaaDoorW.PrintMore Go.Proofs.YtoggmegpodmfnaaDoor.PV Go.Proofs.YtoggmegpodmfnaaDoor.B
set_option linter.unusedVariables false
set_option linter.unusedSimpArgs false
/-! ### A set is told by what it holds -/
theorem mem_gap {x : Rg} {l : List Rg} (h : Sound (x :: l)) {u : Int} (hu : mem l u = true) : x.f1 + 1 < u := by
  obtain ⟨r, hr, h0, h1⟩ := (mem_iff l u).1 hu
  have := (List.pairwise_cons.1 h.2).1 r hr
  omega
theorem sound_ext : ∀ (a b : List Rg), Sound a → Sound b → (∀ u, mem a u = mem b u) → a = b
  | [], [], _, _, _ => rfl
  | [], y :: b, _, hb, h => by
    have h1 := h y.f0
    have h2 := (hb.1 y (by simp)).2.2
    rw [mem_cons, decide_eq_true (show y.f0 ≤ y.f0 ∧ y.f0 ≤ y.f1 from ⟨by omega, h2⟩)] at h1
    simp [mem] at h1
  | x :: a, [], ha, _, h => by
    have h1 := h x.f0
    have h2 := (ha.1 x (by simp)).2.2
    rw [mem_cons, decide_eq_true (show x.f0 ≤ x.f0 ∧ x.f0 ≤ x.f1 from ⟨by omega, h2⟩)] at h1
    simp [mem] at h1
  | x :: a, y :: b, ha, hb, h => by
    have hx := (ha.1 x (by simp)).2.2
    have hy := (hb.1 y (by simp)).2.2
    have key : ∀ (x y : Rg) (a b : List Rg), Sound (x :: a) → Sound (y :: b) → (∀ u, mem (x :: a) u = mem (y :: b) u) → x.f0 ≤ x.f1 → y.f0 ≤ x.f0 := by
      intro x y a b ha hb h hx
      have h1 := h x.f0
      rw [mem_cons, decide_eq_true (show x.f0 ≤ x.f0 ∧ x.f0 ≤ x.f1 from ⟨by omega, hx⟩), Bool.true_or] at h1
      have h2 := h1.symm
      rw [mem_cons, Bool.or_eq_true, decide_eq_true_eq] at h2
      rcases h2 with h2 | h2
      · exact h2.1
      · have := mem_gap hb h2; have := (hb.1 y (by simp)).2.2; omega
    have e0 : x.f0 = y.f0 := by
      have h1 := key x y a b ha hb h hx
      have h2 := key y x b a hb ha (fun u => (h u).symm) hy
      omega
    have key2 : ∀ (x y : Rg) (a b : List Rg), Sound (x :: a) → (∀ u, mem (x :: a) u = mem (y :: b) u) → x.f0 ≤ x.f1 → y.f0 ≤ x.f0 → y.f1 ≤ x.f1 := by
      intro x y a b ha h hx h0
      refine Decidable.byContradiction fun hlt => ?_
      have h1 := h (x.f1 + 1)
      rw [mem_cons y, decide_eq_true (show y.f0 ≤ x.f1 + 1 ∧ x.f1 + 1 ≤ y.f1 from ⟨by omega, by omega⟩), Bool.true_or, mem_cons, Bool.or_eq_true, decide_eq_true_eq] at h1
      rcases h1 with h1 | h1
      · omega
      · have := mem_gap ha h1; omega
    have e1 : x.f1 = y.f1 := by
      have h1 := key2 x y a b ha h hx (by omega)
      have h2 := key2 y x b a hb (fun u => (h u).symm) hy (by omega)
      omega
    obtain rfl : x = y := by cases x; cases y; simp_all
    have : a = b := sound_ext a b ha.tail hb.tail fun u => by
      have hu := h u
      rw [mem_cons, mem_cons] at hu
      by_cases hin : x.f0 ≤ u ∧ u ≤ x.f1
      · have n1 : mem a u = false := by
          rw [← Bool.not_eq_true]; intro hm; have := mem_gap ha hm; omega
        have n2 : mem b u = false := by
          rw [← Bool.not_eq_true]; intro hm; have := mem_gap hb hm; omega
        rw [n1, n2]
      · rw [decide_eq_false hin, Bool.false_or, Bool.false_or] at hu
        exact hu
    rw [this]
/-! ### gather -/
theorem merge_ok {x r : Rg} (hx : okR x) (hr : okR r) (h0 : x.f0 ≤ r.f0) (h1 : r.f0 ≤ x.f1 + 1) : okR ⟨x.f0, mx x.f1 r.f1⟩ := by
  obtain ⟨x0, x1, x2⟩ := hx
  obtain ⟨r0, r1, r2⟩ := hr
  unfold okR mx
  simp only
  have a := bandOf_cases x.f0
  have b := bandOf_cases x.f1
  have c := bandOf_cases r.f0
  have d := bandOf_cases r.f1
  split <;> omega
theorem merge_mem {x r : Rg} (hx : x.f0 ≤ x.f1) (hr : r.f0 ≤ r.f1) (h0 : x.f0 ≤ r.f0) (h1 : r.f0 ≤ x.f1 + 1) (u : Int) :
    mem [⟨x.f0, mx x.f1 r.f1⟩] u = (mem [x] u || mem [r] u) := by
  unfold mx
  rw [Bool.eq_iff_iff, Bool.or_eq_true, mem_iff, mem_iff, mem_iff]
  simp only [List.mem_singleton, exists_eq_left]
  split <;> omega
theorem mem_take (s : List Rg) (i : Nat) (hi : i < s.length) (u : Int) : mem (s.take (i + 1)) u = (mem (s.take i) u || mem [s[i]] u) := by
  rw [List.take_add_one, List.getElem?_eq_getElem hi, ← mem_app]; rfl
theorem set_last (o : List Rg) (x y : Rg) : (o ++ [x]).set o.length y = o ++ [y] := by simp
theorem eta (r : Rg) : (⟨r.f0, r.f1⟩ : Rg) = r := rfl
theorem gather0 (s : List Rg) (hs : s.length ≤ 4294967296) (hok : ∀ r ∈ s, okR r) (hsort : s.Pairwise (fun a b => a.f0 ≤ b.f0)) : ∀ (d i : Nat) (out : List Rg), s.length - i = d → i ≤ s.length → Sound out → out.length ≤ i →
    (∀ x ∈ out, ∀ r ∈ s.drop i, x.f0 ≤ r.f0) → (∀ u, mem out u = mem (s.take i) u) →
    ∃ g, Ev (fun k => sets_gather.l0 k out s (s.length : Int) (i : Int)) g ∧ Sound g ∧ (∀ u, mem g u = mem s u) ∧ g.length ≤ s.length
  | 0, i, out, hd, hi, hso, hl, hlo, hm => by
    rw [List.take_of_length_le (by omega)] at hm
    refine ⟨out, Ev.step (f := fun _ => some out) (fun k => ?_) (Ev.now _), hso, hm, by omega⟩
    rw [sets_gather.l0, if_neg (by omega)]
  | d + 1, i, out, hd, hi, hso, hl, hlo, hm => by
    have hi : i < s.length := by omega
    have hdr : s.drop i = s[i] :: s.drop (i + 1) := List.drop_eq_getElem_cons hi
    have hor := hok s[i] (List.getElem_mem hi)
    have hrest : ∀ r ∈ s.drop (i + 1), s[i].f0 ≤ r.f0 := by
      have := (List.pairwise_append.1 (by rw [List.take_append_drop i s]; exact hsort : (s.take i ++ s.drop i).Pairwise _)).2.1
      rw [hdr] at this
      exact (List.pairwise_cons.1 this).1
    have next : ∀ out2 : List Rg, Sound out2 → out2.length ≤ i + 1 → (∀ x ∈ out2, x.f0 ≤ s[i].f0) → (∀ u, mem out2 u = (mem out u || mem [s[i]] u)) →
        ∃ g, Ev (fun k => sets_gather.l0 k out2 s (s.length : Int) ((i + 1 : Nat) : Int)) g ∧ Sound g ∧ (∀ u, mem g u = mem s u) ∧ g.length ≤ s.length := by
      intro out2 h1 h2 h3 h4
      refine gather0 s hs hok hsort d (i + 1) out2 (by omega) (by omega) h1 h2 (fun x hx r hr => ?_) (fun u => by rw [h4, hm, mem_take s i hi])
      have := h3 x hx; have := hrest r hr; omega
    have hlo0 : ∀ x ∈ out, x.f0 ≤ s[i].f0 := fun x hx => hlo x hx s[i] (by rw [hdr]; exact List.mem_cons_self)
    by_cases hout : out = []
    · subst hout
      obtain ⟨g, hg, h⟩ := next [s[i]] ⟨by simpa using hor, by simp⟩ (by simp) (by simp) (fun u => by simp [mem])
      refine ⟨g, Ev.step (fun k => ?_) hg, h⟩
      rw [sets_gather.l0, if_pos (by omega), if_pos (by omega), if_pos (by omega), if_neg (by simp), if_pos (by simp), rdT s i hi, wrapS i (by omega)]
      rfl
    · obtain ⟨o, x, rfl⟩ : ∃ o x, out = o ++ [x] := ⟨out.dropLast, out.getLast hout, (List.dropLast_concat_getLast hout).symm⟩
      have hll : (o ++ [x]).length = o.length + 1 := by simp
      have hxo := (sound_snoc o x).1 hso
      have h32 := okR_r32 hxo.2.1
      have hx01 := hxo.2.1.2.2
      have e1 : wrap64 (((o ++ [x]).length : Int) - 1) = (o.length : Int) := by rw [hll]; unfold wrap64; omega
      have erd : rd_T29 (o ++ [x]) (o.length : Int) = x := by rw [rdT _ _ (by omega)]; simp
      have hb := bandOf_cases x.f1
      have hx0 := hlo0 x (by simp)
      unfold R32 I32 at h32
      obtain ⟨bx0, bx1, bx2⟩ := hxo.2.1
      by_cases hc : s[i].f0 ≤ x.f1 + 1
      · obtain ⟨g, hg, h⟩ := next (o ++ [⟨x.f0, mx x.f1 s[i].f1⟩]) (by rw [sound_snoc]; exact ⟨hxo.1, merge_ok hxo.2.1 hor hx0 hc, hxo.2.2⟩) (by simp at hl ⊢; omega)
          (fun y hy => by
            rw [List.mem_append] at hy
            rcases hy with hy | hy
            · exact hlo0 y (List.mem_append_left _ hy)
            · rw [List.mem_singleton] at hy; subst hy; exact hx0)
          (fun u => by rw [mem_app, mem_app, merge_mem hx01 hor.2.2 hx0 hc, Bool.or_assoc])
        refine ⟨g, Ev.step (fun k => ?_) hg, h⟩
        rw [sets_gather.l0, if_pos (by omega), if_pos (by omega), if_pos (by omega), if_pos (by omega), e1, if_pos (by omega), if_pos (by omega), erd, rdT s i hi, wrap32_of _ (by omega), if_pos hc, wrapS i (by omega), Int.toNat_natCast, set_last]
      · obtain ⟨g, hg, h⟩ := next (o ++ [x] ++ [s[i]]) (by rw [sound_snoc]; exact ⟨hso, hor, (sound_last hso).2 (by omega)⟩) (by simp at hl ⊢; omega)
          (fun y hy => by
            rw [List.mem_append] at hy
            rcases hy with hy | hy
            · exact hlo0 y hy
            · rw [List.mem_singleton] at hy; subst hy; omega)
          (fun u => by rw [mem_app])
        refine ⟨g, Ev.step (fun k => ?_) hg, h⟩
        rw [sets_gather.l0, if_pos (by omega), if_pos (by omega), if_pos (by omega), if_pos (by omega), e1, if_pos (by omega), if_pos (by omega), erd, rdT s i hi, wrap32_of _ (by omega), if_neg hc, if_pos (by omega), wrapS i (by omega)]
theorem mem_perm {a b : List Rg} (h : a.Perm b) (u : Int) : mem a u = mem b u := by
  rw [Bool.eq_iff_iff, mem_iff, mem_iff]
  exact ⟨fun ⟨r, hr, hu⟩ => ⟨r, h.mem_iff.1 hr, hu⟩, fun ⟨r, hr, hu⟩ => ⟨r, h.mem_iff.2 hr, hu⟩⟩
theorem gather_is (l : List Rg) (hl : l.length ≤ 4294967296) (hok : ∀ r ∈ l, okR r) : ∃ g, Ev (fun k => sets_gather.f k l) g ∧ Sound g ∧ (∀ u, mem g u = mem l u) ∧ g.length ≤ l.length := by
  have hp := sortRanges_perm l
  have hln := sortRanges_length l
  obtain ⟨g, hg, h1, h2, h3⟩ := gather0 (sortRanges l) (by omega) (fun r hr => hok r (hp.mem_iff.1 hr)) (sortRanges_sorted l) (sortRanges l).length 0 [] (by omega) (by omega) ⟨by simp, by simp⟩ (by simp) (by simp) (by simp [mem])
  refine ⟨g, ?_, h1, fun u => (h2 u).trans (mem_perm hp u), by omega⟩
  unfold sets_gather.f
  exact ev_if_pos hl hg
/-! ### Make -/
theorem clipB_facts (lo hi : Int) (r : Rg) (hb : ∀ u, lo ≤ u → u ≤ hi → bandOf u = bandOf lo) (h0 : 0 ≤ bandOf lo) : (∀ x ∈ clipB lo hi r, okR x) ∧ ∀ u, mem (clipB lo hi r) u = (decide (lo ≤ u ∧ u ≤ hi) && decide (r.f0 ≤ u ∧ u ≤ r.f1)) := by
  have hL : (mx r.f0 lo = r.f0 ∨ mx r.f0 lo = lo) ∧ r.f0 ≤ mx r.f0 lo ∧ lo ≤ mx r.f0 lo := by unfold mx; split <;> omega
  have hH : (mn r.f1 hi = r.f1 ∨ mn r.f1 hi = hi) ∧ mn r.f1 hi ≤ r.f1 ∧ mn r.f1 hi ≤ hi := by unfold mn; split <;> omega
  unfold clipB
  generalize mx r.f0 lo = L at *
  generalize mn r.f1 hi = H at *
  by_cases h : L ≤ H
  · rw [if_pos h]
    have h1 := hb L (by omega) (by omega)
    have h2 := hb H (by omega) (by omega)
    refine ⟨fun x hx => ?_, fun u => ?_⟩
    · rw [List.mem_singleton] at hx
      subst hx
      exact ⟨by show 0 ≤ bandOf L; omega, by show bandOf L = bandOf H; omega, h⟩
    · rw [Bool.eq_iff_iff, Bool.and_eq_true, decide_eq_true_eq, decide_eq_true_eq, mem_iff]
      simp only [List.mem_singleton, exists_eq_left]
      omega
  · rw [if_neg h]
    refine ⟨by simp, fun u => ?_⟩
    rw [Bool.eq_iff_iff, Bool.and_eq_true, decide_eq_true_eq, decide_eq_true_eq, mem_iff]
    simp only [List.not_mem_nil, false_and, exists_false, false_iff]
    omega
theorem clips_ok (r : Rg) : ∀ x ∈ clips r, okR x := by
  intro x hx
  unfold clips at hx
  rw [List.mem_append, List.mem_append] at hx
  rcases hx with (hx | hx) | hx
  · exact (clipB_facts 0 55295 r (fun u a b => by rw [bandOf_0 ⟨a, b⟩]; rfl) (by decide)).1 x hx
  · exact (clipB_facts 57344 1114111 r (fun u a b => by rw [bandOf_1 ⟨a, b⟩]; rfl) (by decide)).1 x hx
  · exact (clipB_facts 1114240 1114367 r (fun u a b => by rw [bandOf_2 ⟨a, b⟩]; rfl) (by decide)).1 x hx
theorem clips_mem (r : Rg) (u : Int) : mem (clips r) u = (isU u && decide (r.f0 ≤ u ∧ u ≤ r.f1)) := by
  unfold clips
  rw [mem_app, mem_app, (clipB_facts 0 55295 r (fun u a b => by rw [bandOf_0 ⟨a, b⟩]; rfl) (by decide)).2, (clipB_facts 57344 1114111 r (fun u a b => by rw [bandOf_1 ⟨a, b⟩]; rfl) (by decide)).2,
    (clipB_facts 1114240 1114367 r (fun u a b => by rw [bandOf_2 ⟨a, b⟩]; rfl) (by decide)).2, ← Bool.and_or_distrib_right, ← Bool.and_or_distrib_right]
  congr 1
  have c := bandOf_cases u
  unfold isU
  rw [Bool.eq_iff_iff]
  simp only [Bool.or_eq_true, decide_eq_true_eq]
  omega
theorem clips_len (r : Rg) : (clips r).length ≤ 3 := by
  unfold clips
  have a := clipB_length 0 55295 r
  have b := clipB_length 57344 1114111 r
  have c := clipB_length 1114240 1114367 r
  simp only [List.length_append]; omega
theorem flat_len : ∀ l : List Rg, (l.flatMap clips).length ≤ 3 * l.length
  | [] => by simp
  | r :: l => by have := flat_len l; have := clips_len r; simp only [List.flatMap_cons, List.length_append, List.length_cons]; omega
theorem flat_mem : ∀ (l : List Rg) (u : Int), mem (l.flatMap clips) u = (isU u && mem l u)
  | [], u => by simp [mem]
  | r :: l, u => by rw [List.flatMap_cons, mem_app, clips_mem, flat_mem l u, mem_cons, Bool.and_or_distrib_left]
def allUp (l : List Rg) : Bool := l.all fun r => decide (r.f0 ≤ r.f1)
theorem make_is (l : List Rg) (hl : l.length ≤ 1073741824) (hup : allUp l = true) : ∃ g, Ev (fun k => sets_Make.f k l) (g, 0) ∧ Sound g ∧ (∀ u, mem g u = (isU u && mem l u)) ∧ g.length ≤ 3 * l.length := by
  have h3 := flat_len l
  obtain ⟨g, hg, h1, h2, h4⟩ := gather_is (l.flatMap clips) (by omega) (fun r hr => by
    obtain ⟨x, _, hx⟩ := List.mem_flatMap.1 hr
    exact clips_ok x r hx)
  refine ⟨g, ?_, h1, fun u => (h2 u).trans (flat_mem l u), by omega⟩
  unfold sets_Make.f
  exact ev_if_pos hl (ev_if_pos hup (Ev.bind hg (Ev.now _)))
theorem make_no (l : List Rg) (hl : l.length ≤ 1073741824) (hup : allUp l = false) : Ev (fun k => sets_Make.f k l) ([], 2) := by
  unfold sets_Make.f
  exact ev_if_pos hl (ev_if_neg (by unfold allUp at hup; simp [hup]) (Ev.now _))
theorem sound_up {l : List Rg} (h : Sound l) : allUp l = true := by
  unfold allUp
  rw [List.all_eq_true]
  exact fun r hr => by simpa using (h.1 r hr).2.2
theorem make_sound (l : List Rg) (hl : l.length ≤ 1073741824) (h : Sound l) : Ev (fun k => sets_Make.f k l) (l, 0) := by
  obtain ⟨g, hg, h1, h2, _⟩ := make_is l hl (sound_up h)
  have : g = l := sound_ext g l h1 h fun u => by
    rw [h2]
    cases hm : mem l u with
    | true => rw [h.unit hm]; rfl
    | false => rw [Bool.and_false]
  rw [← this]; rw [this] at hg ⊢; exact hg

end Go.Proofs.YtoggmegpodmfnaaDoor.Q
