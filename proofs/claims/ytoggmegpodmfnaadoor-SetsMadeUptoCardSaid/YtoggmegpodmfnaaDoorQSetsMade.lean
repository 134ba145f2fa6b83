/- The law's plain side (SetsMade): what the printed functions come to; each theorem states its own conditions. -/
import Derived.Test.YtoggmegpodmfnaaDoorPUx3
import Derived.Test.YtoggmegpodmfnaaDoorPUx4
import Derived.Test.YtoggmegpodmfnaaDoorPUx5
import Derived.Test.YtoggmegpodmfnaaDoorPUx6
import Derived.Test.YtoggmegpodmfnaaDoorBSetsBand
import Derived.Test.YtoggmegpodmfnaaDoorQSetsRef
import Derived.Test.YtoggmegpodmfnaaDoorQSetsRef2
import Derived.Test.YtoggmegpodmfnaaDoorQSetsRef3
namespace Go.Proofs.YtoggmegpodmfnaaDoor.Q
open Go.RowKit Go.Proofs.YtoggmegpodmfnaaDoorW.PrintWords Go.Proofs.YtoggmegpodmfnaaDoorW.PrintLast Go.Proofs.YtoggmegpodmfnaaDoorW.PrintMore Go.Proofs.YtoggmegpodmfnaaDoor.PU Go.Proofs.YtoggmegpodmfnaaDoor.B
set_option linter.unusedVariables false
set_option linter.unusedSimpArgs false
theorem made2 (l s : List Rg) (hl : l.length ≤ 16777216) (hr : ∀ r ∈ l, R32 r) (hs : Sound s) (hsl : s.length ≤ 3 * l.length) (hm : ∀ u, mem s u = (isU u && mem l u)) (look : List Int) (hk : look.length ≤ 1073741824) :
    ∀ (d i : Nat), look.length - i = d → Ev (fun k => thistlelaw02_SetsMade.l2 k l s look (i : Int)) true
  | 0, i, hd => by
    refine Ev.step (f := fun k => (sets_Make.f k s).bind fun bt174 => (if bt174.2 = 0 then ((thistleref02_SameRanges.f k bt174.1 s).bind fun t178 => (some t178)) else (some false))) (fun k => ?_) ?_
    · rw [thistlelaw02_SetsMade.l2, if_neg (by omega)]
    · refine Ev.bind (make_sound s (by omega) hs) ?_
      exact ev_if_pos rfl (Ev.bind (same_is s (by omega)) (Ev.now _))
  | d + 1, i, hd => by
    have ih := made2 l s hl hr hs hsl hm look hk d (i + 1) (by omega)
    obtain ⟨v, hv⟩ : ∃ v, (if rd look (i : Int) < -2147483648 then -2147483648 else if rd look (i : Int) > 2147483647 then 2147483647 else rd look (i : Int)) = v := ⟨_, rfl⟩
    have hv1 : -2147483648 ≤ v ∧ v ≤ 2147483647 := by rw [← hv]; repeat' split
                                                      all_goals omega
    have e1 : wrap32 (wrap64 v) = v := by rw [wrap64_of v (by omega), wrap32_of v (by omega)]
    refine Ev.step (f := fun k => (sets_Has.f k s v).bind fun bt181 => (if bt181.2 = 0 then ((thistlelaw02_unit.f v).bind fun t183 => (if t183 = true then ((thistlelaw02_within.f k l v).bind fun t184 => (if (bt181.1 != t184) = true then (some false) else ((thistlelaw02_within.f k s v).bind fun t185 => (if (bt181.1 != t185) = true then (some false) else (thistlelaw02_SetsMade.l2 k l s look ((i + 1 : Nat) : Int)))))) else (if (bt181.1 != false) = true then (some false) else ((thistlelaw02_within.f k s v).bind fun t186 => (if (bt181.1 != t186) = true then (some false) else (thistlelaw02_SetsMade.l2 k l s look ((i + 1 : Nat) : Int))))))) else (some false))) (fun k => ?_) ?_
    · rw [thistlelaw02_SetsMade.l2, if_pos (by omega), if_pos (by omega), small_is, hv]
      simp only [Option.bind_some]
      rw [e1, wrap64_of v (by omega), wrapS i (by omega)]
    · refine Ev.bind (Has_is s v (by omega) hs) (ev_if_pos rfl ?_)
      refine evb0 (unit_is v) ?_
      have hw := within_is s v (by omega) hs.r32
      cases hu : isU v with
      | true =>
        refine ev_if_pos rfl (Ev.bind (within_is l v (by omega) hr) ?_)
        have : mem s v = mem l v := by rw [hm, hu, Bool.true_and]
        refine ev_if_neg (by simp [this]) (Ev.bind hw (ev_if_neg (by simp) ih))
      | false =>
        refine ev_if_neg (by simp) ?_
        have : mem s v = false := by rw [hm, hu, Bool.false_and]
        refine ev_if_neg (by simp [this]) (Ev.bind hw (ev_if_neg (by simp) ih))
theorem made1 (l s : List Rg) (us : List Int) (hus : us.length ≤ 16777216) (hl : l.length ≤ 16777216) (hr : ∀ r ∈ l, R32 r) (hs : Sound s) (hsl : s.length ≤ 3 * l.length) (hm : ∀ u, mem s u = (isU u && mem l u)) :
    ∀ (d i : Nat) (look : List Int), us.length - i = d → i ≤ us.length → look.length ≤ 13 + 6 * l.length + i → Ev (fun k => thistlelaw02_SetsMade.l1 k l us s look (i : Int)) true
  | 0, i, look, hd, hi, hk => by
    refine Ev.step (fun k => ?_) (by simpa using made2 l s hl hr hs hsl hm look (by omega) look.length 0 (by omega))
    rw [thistlelaw02_SetsMade.l1, if_neg (by omega)]
  | d + 1, i, look, hd, hi, hk => by
    refine Ev.step (fun k => ?_) (made1 l s us hus hl hr hs hsl hm d (i + 1) (look ++ [wrap64 (rd us (i : Int))]) (by omega) (by omega) (by simp; omega))
    rw [thistlelaw02_SetsMade.l1, if_pos (by omega), if_pos (by omega), if_pos (by omega), wrapS i (by omega)]
theorem made0_up (l s : List Rg) (us : List Int) (hus : us.length ≤ 16777216) (hl : l.length ≤ 16777216) (hr : ∀ r ∈ l, R32 r) (hup : allUp l = true) (hs : Sound s) (hsl : s.length ≤ 3 * l.length) (hm : ∀ u, mem s u = (isU u && mem l u)) :
    ∀ (d i : Nat), l.length - i = d → Ev (fun k => thistlelaw02_SetsMade.l0 k l us s 0 (i : Int)) true
  | 0, i, hd => by
    obtain ⟨es, he, hle⟩ := ends_is l (by omega)
    have h1 := made1 l s us hus hl hr hs hsl hm us.length 0 es (by omega) (by omega) (by omega)
    refine Ev.step (f := fun k => (sets_Check.f k s).bind fun t165 => (if (0 : Int) = 0 then (if t165 = 0 then ((thistlelaw02_sound.f k s).bind fun t166 => (thistlelaw02_SetsMade.j1 k l us s (!t166))) else (thistlelaw02_SetsMade.j1 k l us s true)) else (thistlelaw02_SetsMade.j1 k l us s true))) (fun k => ?_) ?_
    · rw [thistlelaw02_SetsMade.l0, if_neg (by omega)]
    · refine Ev.bind (check_is s (by omega) hs.r32) ?_
      rw [if_pos hs]
      refine ev_if_pos rfl (ev_if_pos rfl (Ev.bind (sound_is s (by omega) hs) ?_))
      refine Ev.step (f := fun k => (thistlelaw02_ends.f k l).bind fun t167 => (thistlelaw02_SetsMade.l1 k l us s t167 0)) (fun k => ?_) (Ev.bind he (by simpa using h1))
      rw [thistlelaw02_SetsMade.j1, if_neg (by simp)]
  | d + 1, i, hd => by
    have hi : i < l.length := by omega
    have hup1 : l[i].f0 ≤ l[i].f1 := by
      unfold allUp at hup
      rw [List.all_eq_true] at hup
      simpa using hup l[i] (List.getElem_mem hi)
    refine Ev.step (fun k => ?_) (made0_up l s us hus hl hr hup hs hsl hm d (i + 1) (by omega))
    rw [thistlelaw02_SetsMade.l0, if_pos (by omega), if_pos (by omega), rdT l i hi, if_neg (by omega), wrapS i (by omega)]
theorem made0_no (l : List Rg) (us : List Int) (hl : l.length ≤ 16777216) : ∀ (d i : Nat), l.length - i = d → allUp (l.drop i) = false → Ev (fun k => thistlelaw02_SetsMade.l0 k l us [] 2 (i : Int)) true
  | 0, i, hd, h => by rw [List.drop_eq_nil_of_le (by omega)] at h; simp [allUp] at h
  | d + 1, i, hd, h => by
    have hi : i < l.length := by omega
    by_cases hb : l[i].f0 > l[i].f1
    · refine Ev.step (f := fun _ => some true) (fun k => ?_) (Ev.now _)
      rw [thistlelaw02_SetsMade.l0, if_pos (by omega), if_pos (by omega), rdT l i hi, if_pos hb, if_pos rfl]
      rfl
    · have h2 : allUp (l.drop (i + 1)) = false := by
        rw [List.drop_eq_getElem_cons hi] at h
        unfold allUp at h ⊢
        rw [List.all_cons, decide_eq_true (show l[i].f0 ≤ l[i].f1 by omega), Bool.true_and] at h
        exact h
      refine Ev.step (fun k => ?_) (made0_no l us hl d (i + 1) (by omega) h2)
      rw [thistlelaw02_SetsMade.l0, if_pos (by omega), if_pos (by omega), rdT l i hi, if_neg hb, wrapS i (by omega)]
theorem SetsMade (l : List Rg) (us : List Int) (hr : ∀ r ∈ l, R32 r) (hl : l.length ≤ 16777216) (hus : us.length ≤ 16777216) : ∃ k, thistlelaw02_SetsMade.f k l us = some true := by
  refine Ev.rounds (g := fun k => thistlelaw02_SetsMade.f k l us) ?_
  unfold thistlelaw02_SetsMade.f
  refine Ev.bind wakes_is (ev_if_pos rfl ?_)
  cases hup : allUp l with
  | true =>
    obtain ⟨s, hs, h1, h2, h3⟩ := make_is l (by omega) hup
    refine Ev.bind hs ?_
    simpa using made0_up l s us hus hl hr hup h1 h3 h2 l.length 0 (by omega)
  | false =>
    refine Ev.bind (make_no l (by omega) hup) ?_
    simpa using made0_no l us hl l.length 0 (by omega) (by simpa using hup)

end Go.Proofs.YtoggmegpodmfnaaDoor.Q
