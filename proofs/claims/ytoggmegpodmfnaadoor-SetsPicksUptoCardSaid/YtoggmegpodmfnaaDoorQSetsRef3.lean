/- The law's plain side (SetsRef3): what the printed functions come to; each theorem states its own conditions. -/
import Derived.Test.YtoggmegpodmfnaaDoorPVx2
import Derived.Test.YtoggmegpodmfnaaDoorPVx3
import Derived.Test.YtoggmegpodmfnaaDoorPVx4
import Derived.Test.YtoggmegpodmfnaaDoorPVx5
import Derived.Test.YtoggmegpodmfnaaDoorBSetsBand
import Derived.Test.YtoggmegpodmfnaaDoorQSetsRef
import Derived.Test.YtoggmegpodmfnaaDoorQSetsRef2
namespace Go.Proofs.YtoggmegpodmfnaaDoor.Q
open Go.RowKit Go.Proofs.YtoggmegpodmfnaaDoorW.PrintWords Go.Proofs.YtoggmegpodmfnaaDoorW.PrintLast Go.Proofs.YtoggmegpodmfnaaDoorW.PrintMore Go.Proofs.YtoggmegpodmfnaaDoor.PV Go.Proofs.YtoggmegpodmfnaaDoor.B
set_option linter.unusedVariables false
set_option linter.unusedSimpArgs false
/-! ### has, Has -/
theorem has1_is (x : Rg) (u : Int) : sets_has_1.f x.f0 x.f1 u = some (if x.f1 < u then -1 else if x.f0 > u then 1 else 0) := by
  unfold sets_has_1.f
  repeat' split
  all_goals rfl
theorem search0 (l : List Rg) (u : Int) (hl : l.length ≤ 1073741824) (h : Sound l) : ∀ (d i j : Nat), j - i = d → i ≤ j → j ≤ l.length → (∀ q (hq : q < l.length), q < i → l[q].f1 < u) → (∀ q (hq : q < l.length), j ≤ q → u ≤ l[q].f1) →
    ∃ p, Ev (fun k => api_Range_rune.l0 k l u (l.length : Int) (i : Int) (j : Int)) (p, mem l u) := by
  intro d
  induction d using Nat.strongRecOn with
  | ind d ih =>
    intro i j hd hij hj hlo hhi
    by_cases hlt : i < j
    · obtain ⟨m, hm⟩ : ∃ m : Nat, m = (i + j) / 2 := ⟨_, rfl⟩
      have hmi : i ≤ m := by omega
      have hmj : m < j := by omega
      have hml : m < l.length := by omega
      have em : wrap64 ((IntKind.u64.wrap (wrap64 ((i : Int) + (j : Int)))) / 2) = (m : Int) := by
        have e1 : wrap64 ((i : Int) + (j : Int)) = ((i + j : Nat) : Int) := by unfold wrap64; omega
        rw [e1]
        have e2 : IntKind.u64.wrap ((i + j : Nat) : Int) = ((i + j : Nat) : Int) := by
          show ((i + j : Nat) : Int) % 18446744073709551616 = _
          omega
        rw [e2]; unfold wrap64; omega
      by_cases hc : l[m].f1 < u
      · obtain ⟨p, hp⟩ := ih (j - (m + 1)) (by omega) (m + 1) j rfl (by omega) hj (fun q hq hqm => by
          by_cases e : q = m
          · subst e; exact hc
          · have h1 := List.pairwise_iff_getElem.1 h.2 q m hq hml (by omega)
            have h2 := (h.1 l[m] (List.getElem_mem hml)).2.2
            omega) hhi
        refine ⟨p, Ev.step (fun k => ?_) hp⟩
        rw [api_Range_rune.l0, if_pos (by omega), em, if_pos (by omega), if_pos (by omega), rdT l m hml, has1_is, if_pos hc]
        simp only [Option.bind_some]
        rw [if_pos (by omega), wrapS m (by omega)]
      · obtain ⟨p, hp⟩ := ih (m - i) (by omega) i m rfl hmi (by omega) hlo (fun q hq hqm => by
          by_cases e : q = m
          · subst e; omega
          · have h1 := List.pairwise_iff_getElem.1 h.2 m q hml hq (by omega)
            have h2 := (h.1 l[q] (List.getElem_mem hq)).2.2
            omega)
        refine ⟨p, Ev.step (fun k => ?_) hp⟩
        rw [api_Range_rune.l0, if_pos (by omega), em, if_pos (by omega), if_pos (by omega), rdT l m hml, has1_is, if_neg hc]
        simp only [Option.bind_some]
        rw [if_neg (by split <;> omega)]
    · obtain rfl : i = j := by omega
      by_cases hn : i < l.length
      · have hu := hhi i hn (by omega)
        have hmem : mem l u = decide (l[i].f0 ≤ u) := by
          rw [Bool.eq_iff_iff, mem_iff, decide_eq_true_eq]
          constructor
          · rintro ⟨r, hr, h0, h1⟩
            obtain ⟨q, hq, rfl⟩ := List.getElem_of_mem hr
            have := fun hlt => hlo q hq hlt
            by_cases e : q = i
            · subst e; exact h0
            · have h3 := List.pairwise_iff_getElem.1 h.2 i q hn hq (by omega)
              omega
          · exact fun h0 => ⟨l[i], List.getElem_mem hn, h0, hu⟩
        refine ⟨(i : Int), Ev.step (f := fun _ => some ((i : Int), mem l u)) (fun k => ?_) (Ev.now _)⟩
        rw [api_Range_rune.l0, if_neg (by omega), if_pos (by omega), if_pos (by omega), if_pos (by omega), rdT l i hn, has1_is, if_neg (by omega), hmem]
        simp only [Option.bind_some]
        by_cases h0 : l[i].f0 ≤ u
        · rw [if_neg (by omega), decide_eq_true h0]; rfl
        · rw [if_pos (by omega), decide_eq_false h0]; rfl
      · have hmem : mem l u = false := by
          rw [← Bool.not_eq_true, mem_iff]
          rintro ⟨r, hr, h0, h1⟩
          obtain ⟨q, hq, rfl⟩ := List.getElem_of_mem hr
          have := hlo q hq (by omega)
          omega
        refine ⟨(i : Int), Ev.step (f := fun _ => some ((i : Int), mem l u)) (fun k => ?_) (Ev.now _)⟩
        rw [api_Range_rune.l0, if_neg (by omega), if_neg (by omega), hmem]
theorem has_is (l : List Rg) (u : Int) (hl : l.length ≤ 1073741824) (h : Sound l) : Ev (fun k => sets_has.f k l u) (mem l u) := by
  obtain ⟨p, hp⟩ := search0 l u hl h l.length 0 l.length (by omega) (by omega) (by omega) (by omega) (by omega)
  unfold sets_has.f api_Range_rune.f
  exact Ev.bind hp (Ev.now _)
theorem Has_is (l : List Rg) (u : Int) (hl : l.length ≤ 1073741824) (h : Sound l) : Ev (fun k => sets_Has.f k l u) (mem l u, 0) := by
  unfold sets_Has.f
  refine Ev.bind (check_is l hl h.r32) ?_
  rw [if_pos h]
  exact ev_if_pos rfl (Ev.bind (has_is l u hl h) (Ev.now _))
/-! ### sound -/
def kindOf (u : Int) : Int := if u < 55296 then 1 else if u ≤ 1114111 then 2 else 3
theorem kind_is (u : Int) : thistlelaw02_kind.f u = some (kindOf u) := by
  unfold thistlelaw02_kind.f kindOf
  repeat' split
  all_goals rfl
theorem okR_law (r : Rg) : okR r ↔ isU r.f0 = true ∧ isU r.f1 = true ∧ ¬ r.f0 > r.f1 ∧ kindOf r.f0 = kindOf r.f1 := by
  have a := bandOf_cases r.f0
  have b := bandOf_cases r.f1
  unfold okR isU kindOf
  simp only [decide_eq_true_eq]
  constructor
  · intro h
    refine ⟨by omega, by omega, by omega, ?_⟩
    repeat' split
    all_goals omega
  · rintro ⟨h1, h2, h3, h4⟩
    repeat' split at h4
    all_goals omega
theorem sound0 (l : List Rg) (hl : l.length ≤ 1073741824) (h : Sound l) : ∀ (d i : Nat), l.length - i = d → Ev (fun k => thistlelaw02_sound.l0 k l (i : Int)) true
  | 0, i, hd => by
    refine Ev.step (f := fun _ => some true) (fun k => ?_) (Ev.now _)
    rw [thistlelaw02_sound.l0, if_neg (by omega)]
  | d + 1, i, hd => by
    have hi : i < l.length := by omega
    have ih := sound0 l hl h d (i + 1) (by omega)
    have hok := h.1 l[i] (List.getElem_mem hi)
    have h32 := okR_r32 hok
    unfold R32 I32 at h32
    obtain ⟨h1, h2, h3, h4⟩ := (okR_law l[i]).1 hok
    refine Ev.step (f := fun k => thistlelaw02_sound.j1 k l (i : Int) l[i].f0 false) (fun k => ?_) ?_
    · rw [thistlelaw02_sound.l0, if_pos (by omega), if_pos (by omega), rdT l i hi, wrap64_of _ (by omega), wrap64_of l[i].f1 (by omega), unit_is, h1]
      simp only [Option.bind_some, if_true]
      rw [unit_is, h2]
      simp only [Option.bind_some, if_true]
      rw [if_neg h3, kind_is, kind_is, h4]
      simp
    · by_cases h0 : i = 0
      · subst h0
        refine Ev.step (fun k => ?_) ih
        rw [thistlelaw02_sound.j1, if_neg (by simp), if_neg (by omega), wrapS 0 (by omega)]
      · obtain ⟨j, rfl⟩ : ∃ j, i = j + 1 := ⟨i - 1, by omega⟩
        have hj : j < l.length := by omega
        have h32j := okR_r32 (h.1 l[j] (List.getElem_mem hj))
        unfold R32 I32 at h32j
        have hg := List.pairwise_iff_getElem.1 h.2 j (j + 1) hj hi (by omega)
        have e1 : wrap64 (((j + 1 : Nat) : Int) - 1) = (j : Int) := by unfold wrap64; omega
        refine Ev.step (fun k => ?_) ih
        rw [thistlelaw02_sound.j1, if_neg (by simp), if_pos (by omega), e1, if_pos (by omega), if_pos (by omega), rdT l j hj, wrap64_of l[j].f1 (by omega), wrap64_of _ (by omega), if_neg (by omega), wrapS (j + 1) (by omega)]
theorem sound_is (l : List Rg) (hl : l.length ≤ 1073741824) (h : Sound l) : Ev (fun k => thistlelaw02_sound.f k l) true := by
  unfold thistlelaw02_sound.f
  simpa using sound0 l hl h l.length 0 (by omega)
/-! ### SameRanges at a list and itself -/
theorem same0 (l : List Rg) (hl : l.length ≤ 1073741824) : ∀ (d i : Nat), l.length - i = d → Ev (fun k => thistleref02_SameRanges.l0 k l l (i : Int)) true
  | 0, i, hd => by
    refine Ev.step (f := fun _ => some true) (fun k => ?_) (Ev.now _)
    rw [thistleref02_SameRanges.l0, if_neg (by omega)]
  | d + 1, i, hd => by
    refine Ev.step (fun k => ?_) (same0 l hl d (i + 1) (by omega))
    rw [thistleref02_SameRanges.l0, if_pos (by omega), if_pos (by omega), if_pos (by omega), if_neg (by simp), wrapS i (by omega)]
theorem same_is (l : List Rg) (hl : l.length ≤ 1073741824) : Ev (fun k => thistleref02_SameRanges.f k l l) true := by
  unfold thistleref02_SameRanges.f
  exact ev_if_pos rfl (by simpa using same0 l hl l.length 0 (by omega))
/-! ### ends -/
theorem ends0 (l : List Rg) (hl : l.length ≤ 1073741824) : ∀ (d i : Nat) (acc : List Int), l.length - i = d → acc.length ≤ 13 + 6 * i → i ≤ l.length → ∃ es, Ev (fun k => thistlelaw02_ends.l0 k l acc (i : Int)) es ∧ es.length ≤ 13 + 6 * l.length
  | 0, i, acc, hd, ha, hi => by
    refine ⟨acc, Ev.step (f := fun _ => some acc) (fun k => ?_) (Ev.now _), by omega⟩
    rw [thistlelaw02_ends.l0, if_neg (by omega)]
  | d + 1, i, acc, hd, ha, hi => by
    have hi : i < l.length := by omega
    have one : ∀ (x : Int) (acc : List Int) (r : List Int), -1 ≤ x → x ≤ 1 → acc.length ≤ 13 + 6 * i + 2 * (x + 1).toNat → Ev (fun k => thistlelaw02_ends.l1 k l (acc ++ [wrap64 (wrap64 l[i].f0 + x)] ++ [wrap64 (wrap64 l[i].f1 + x)]) (i : Int) (x + 1)) r → Ev (fun k => thistlelaw02_ends.l1 k l acc (i : Int) x) r := by
      intro x acc r h1 h2 h3 h
      refine Ev.step (fun k => ?_) h
      rw [thistlelaw02_ends.l1, if_pos (by omega), if_pos (by omega), if_pos (by omega), if_pos (by omega), rdT l i hi]
      simp only [Option.bind_some]
      rw [if_pos (by simp only [List.length_append, List.length_singleton]; omega), wrap64_of (x + 1) (by omega)]
    obtain ⟨es, he, hle⟩ := ends0 l hl d (i + 1) (acc ++ [wrap64 (wrap64 l[i].f0 + -1)] ++ [wrap64 (wrap64 l[i].f1 + -1)] ++ [wrap64 (wrap64 l[i].f0 + 0)] ++ [wrap64 (wrap64 l[i].f1 + 0)] ++ [wrap64 (wrap64 l[i].f0 + 1)] ++ [wrap64 (wrap64 l[i].f1 + 1)]) (by omega) (by simp; omega) (by omega)
    refine ⟨es, ?_, hle⟩
    refine Ev.step (f := fun k => thistlelaw02_ends.l1 k l acc (i : Int) (-1)) (fun k => ?_) ?_
    · rw [thistlelaw02_ends.l0, if_pos (by omega)]
    · refine one (-1) _ _ (by omega) (by omega) (by simp; omega) (one 0 _ _ (by omega) (by omega) (by simp; omega) (one 1 _ _ (by omega) (by omega) (by simp; omega) ?_))
      refine Ev.step (fun k => ?_) he
      rw [thistlelaw02_ends.l1, if_neg (by omega), wrapS i (by omega)]
theorem ends_is (l : List Rg) (hl : l.length ≤ 1073741824) : ∃ es, Ev (fun k => thistlelaw02_ends.f k l) es ∧ es.length ≤ 13 + 6 * l.length := by
  unfold thistlelaw02_ends.f
  exact ends0 l hl l.length 0 _ (by omega) (by simp) (by omega)
/-! ### wakes -/
theorem wakes_is : Ev (fun k => thistlelaw02_wakes.f k) true := by
  unfold thistlelaw02_wakes.f
  obtain ⟨g, hg, h1, h2, _⟩ := make_is [⟨100, 100⟩, ⟨97, 99⟩] (by simp) (by decide)
  have hs : Sound [(⟨97, 100⟩ : Rg)] := by decide
  have : g = [⟨97, 100⟩] := sound_ext g _ h1 hs fun u => by
    rw [h2]
    have c := bandOf_cases u
    unfold isU
    rw [Bool.eq_iff_iff, Bool.and_eq_true, mem_iff, mem_iff]
    simp only [List.mem_cons, List.not_mem_nil, or_false, exists_eq_or_imp, exists_eq_left, decide_eq_true_eq]
    omega
  subst this
  refine Ev.bind hg ?_
  exact ⟨0, fun k _ => rfl⟩

end Go.Proofs.YtoggmegpodmfnaaDoor.Q
