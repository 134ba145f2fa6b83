/- The law's plain side (SetsRef): what the printed functions come to; each theorem states its own conditions. -/
import Derived.Test.YtoggmegpodmfnaaDoorPVx0
import Derived.Test.YtoggmegpodmfnaaDoorPVx3
import Derived.Test.YtoggmegpodmfnaaDoorPVx4
import Derived.Test.YtoggmegpodmfnaaDoorBSetsBand
namespace Go.Proofs.YtoggmegpodmfnaaDoor.Q
open Go.RowKit Go.Proofs.YtoggmegpodmfnaaDoorW.PrintWords Go.Proofs.YtoggmegpodmfnaaDoorW.PrintLast Go.Proofs.YtoggmegpodmfnaaDoorW.PrintMore Go.Proofs.YtoggmegpodmfnaaDoor.PV Go.Proofs.YtoggmegpodmfnaaDoor.B
set_option linter.unusedVariables false
set_option linter.unusedSimpArgs false
abbrev Rg := S29
theorem ev_some {α : Type} {g : Nat → Option α} {r : α} (h : ∀ k, g k = some r) : Ev g r := ⟨0, fun k _ => h k⟩
theorem ev_if_pos {α : Type} {g f : Nat → Option α} {r : α} {c : Prop} [Decidable c] (hc : c) (h : Ev g r) : Ev (fun k => if c then g k else f k) r := by
  simp only [if_pos hc]; exact h
theorem ev_if_neg {α : Type} {g f : Nat → Option α} {r : α} {c : Prop} [Decidable c] (hc : ¬ c) (h : Ev f r) : Ev (fun k => if c then g k else f k) r := by
  simp only [if_neg hc]; exact h
theorem evb0 {α β : Type} {x : Option α} {f : Nat → α → Option β} {a : α} {r : β} (h : x = some a) (k : Ev (fun n => f n a) r) : Ev (fun n => x.bind (f n)) r := by
  subst h; exact k
theorem wrap64_of (x : Int) (h : -9223372036854775808 ≤ x ∧ x ≤ 9223372036854775807) : wrap64 x = x := by unfold wrap64; omega
theorem wrap32_of (x : Int) (h : -2147483648 ≤ x ∧ x ≤ 2147483647) : wrap32 x = x := by unfold wrap32; omega
theorem wrapS (i : Nat) (h : i ≤ 1099511627776) : wrap64 ((i : Int) + 1) = ((i + 1 : Nat) : Int) := by unfold wrap64; omega
theorem rdT (l : List Rg) (i : Nat) (h : i < l.length) : rd_T29 l (i : Int) = l[i] := by
  unfold rd_T29; rw [Int.toNat_natCast, List.getD_eq_getElem?_getD, List.getElem?_eq_getElem h]; rfl
/-- A number that the kind rune has. -/
def I32 (x : Int) : Prop := -2147483648 ≤ x ∧ x ≤ 2147483647
/-- A range whose ends are runes. -/
def R32 (r : Rg) : Prop := I32 r.f0 ∧ I32 r.f1
/-- Does one of the ranges hold the number? -/
def mem (l : List Rg) (u : Int) : Bool := l.any fun r => decide (r.f0 ≤ u ∧ u ≤ r.f1)
theorem mem_iff (l : List Rg) (u : Int) : mem l u = true ↔ ∃ r ∈ l, r.f0 ≤ u ∧ u ≤ r.f1 := by simp [mem]
theorem mem_cons (r : Rg) (l : List Rg) (u : Int) : mem (r :: l) u = (decide (r.f0 ≤ u ∧ u ≤ r.f1) || mem l u) := by simp [mem]
theorem mem_app (a b : List Rg) (u : Int) : mem (a ++ b) u = (mem a u || mem b u) := by simp [mem]
/-- Is u a unit? -/
def isU (u : Int) : Bool := decide (0 ≤ bandOf u)
theorem bandOf_cases (u : Int) : (bandOf u = 0 ∧ 0 ≤ u ∧ u ≤ 55295) ∨ (bandOf u = 1 ∧ 57344 ≤ u ∧ u ≤ 1114111) ∨ (bandOf u = 2 ∧ 1114240 ≤ u ∧ u ≤ 1114367) ∨ (bandOf u = -1 ∧ ¬ (0 ≤ u ∧ u ≤ 55295) ∧ ¬ (57344 ≤ u ∧ u ≤ 1114111) ∧ ¬ (1114240 ≤ u ∧ u ≤ 1114367)) := by
  unfold bandOf
  repeat' split
  all_goals omega
/-- A range that lies in one band. -/
def okR (r : Rg) : Prop := 0 ≤ bandOf r.f0 ∧ bandOf r.f0 = bandOf r.f1 ∧ r.f0 ≤ r.f1
instance (r : Rg) : Decidable (okR r) := inferInstanceAs (Decidable (_ ∧ _))
/-- A sound set. -/
def Sound (l : List Rg) : Prop := (∀ r ∈ l, okR r) ∧ l.Pairwise (fun a b => a.f1 + 1 < b.f0)
instance (l : List Rg) : Decidable (Sound l) := inferInstanceAs (Decidable (_ ∧ _))
theorem Sound.tail {r : Rg} {l : List Rg} (h : Sound (r :: l)) : Sound l := ⟨fun x hx => h.1 x (List.mem_cons_of_mem _ hx), (List.pairwise_cons.1 h.2).2⟩
theorem okR_r32 {r : Rg} (h : okR r) : R32 r := by
  obtain ⟨h0, h1, h2⟩ := h
  have a := bandOf_cases r.f0
  have b := bandOf_cases r.f1
  unfold R32 I32
  omega
theorem Sound.r32 {l : List Rg} (h : Sound l) : ∀ r ∈ l, R32 r := fun r hr => okR_r32 (h.1 r hr)
theorem okR_unit {r : Rg} (h : okR r) {u : Int} (h0 : r.f0 ≤ u) (h1 : u ≤ r.f1) : isU u = true := by
  obtain ⟨a0, a1, a2⟩ := h
  have a := bandOf_cases r.f0
  have b := bandOf_cases r.f1
  have c := bandOf_cases u
  unfold isU
  simp only [decide_eq_true_eq]
  omega
theorem Sound.unit {l : List Rg} (h : Sound l) {u : Int} (hu : mem l u = true) : isU u = true := by
  obtain ⟨r, hr, h0, h1⟩ := (mem_iff l u).1 hu
  exact okR_unit (h.1 r hr) h0 h1
/-! ### band, unit, kind, small -/
theorem band_is (u : Int) : sets_band.f u = some (bandOf u) := rfl
theorem unit_is (u : Int) : thistlelaw02_unit.f u = some (isU u) := by
  have c := bandOf_cases u
  unfold thistlelaw02_unit.f isU
  repeat' split
  all_goals (congr 1; first | (symm; rw [decide_eq_true_eq]; omega) | (symm; rw [decide_eq_false_iff_not]; omega) | (rw [decide_eq_decide]; omega))
theorem small_is (u : Int) : thistlelaw02_small.f u = some (if u < -2147483648 then -2147483648 else if u > 2147483647 then 2147483647 else u) := by
  unfold thistlelaw02_small.f
  repeat' split
  all_goals first | rfl | (rw [wrap32_of _ (by omega)])
/-! ### within -/
theorem within0 (l : List Rg) (u : Int) (hl : l.length ≤ 1073741824) (hr : ∀ r ∈ l, R32 r) : ∀ (d i : Nat), l.length - i = d → Ev (fun k => thistlelaw02_within.l0 k l u (i : Int)) (mem (l.drop i) u)
  | 0, i, hd => by
    rw [List.drop_eq_nil_of_le (by omega)]
    refine Ev.step (f := fun _ => some false) (fun k => ?_) (Ev.now _)
    rw [thistlelaw02_within.l0, if_neg (by omega)]
  | d + 1, i, hd => by
    have hi : i < l.length := by omega
    have h32 := hr l[i] (List.getElem_mem hi)
    unfold R32 I32 at h32
    rw [List.drop_eq_getElem_cons hi, mem_cons]
    refine Ev.step (f := fun k => if l[i].f0 ≤ u ∧ u ≤ l[i].f1 then some true else thistlelaw02_within.l0 k l u ((i + 1 : Nat) : Int)) (fun k => ?_) ?_
    · rw [thistlelaw02_within.l0, if_pos (by omega), if_pos (by omega), rdT l i hi, wrap64_of _ (by omega), wrap64_of l[i].f1 (by omega), wrapS i (by omega)]
      by_cases h1 : l[i].f0 ≤ u
      · rw [if_pos (by omega)]
        by_cases h2 : u ≤ l[i].f1
        · rw [if_pos h2, if_pos ⟨h1, h2⟩]
        · rw [if_neg h2, if_neg (fun h => h2 h.2)]
      · rw [if_neg (by omega), if_neg (fun h => h1 h.1)]
    · have ih := within0 l u hl hr d (i + 1) (by omega)
      by_cases h : l[i].f0 ≤ u ∧ u ≤ l[i].f1
      · rw [decide_eq_true h, Bool.true_or]; exact ev_if_pos h (Ev.now _)
      · rw [decide_eq_false h, Bool.false_or]; exact ev_if_neg h ih
theorem within_is (l : List Rg) (u : Int) (hl : l.length ≤ 1073741824) (hr : ∀ r ∈ l, R32 r) : Ev (fun k => thistlelaw02_within.f k l u) (mem l u) := by
  unfold thistlelaw02_within.f
  simpa using within0 l u hl hr l.length 0 (by omega)
/-! ### Check -/
theorem sound_snoc (a : List Rg) (r : Rg) : Sound (a ++ [r]) ↔ Sound a ∧ okR r ∧ ∀ x ∈ a, x.f1 + 1 < r.f0 := by
  unfold Sound
  rw [List.pairwise_append]
  constructor
  · rintro ⟨h1, h2, _, h3⟩
    exact ⟨⟨fun x hx => h1 x (by simp [hx]), h2⟩, h1 r (by simp), fun x hx => h3 x hx r (by simp)⟩
  · rintro ⟨⟨h1, h2⟩, h3, h4⟩
    refine ⟨fun x hx => ?_, h2, by simp, fun x hx y hy => ?_⟩
    · rw [List.mem_append] at hx
      rcases hx with hx | hx
      · exact h1 x hx
      · rw [List.mem_singleton] at hx; subst hx; exact h3
    · rw [List.mem_singleton] at hy; subst hy; exact h4 x hx
theorem sound_last {a : List Rg} {x r : Rg} (h : Sound (a ++ [x])) : (∀ y ∈ a ++ [x], y.f1 + 1 < r.f0) ↔ x.f1 + 1 < r.f0 := by
  constructor
  · exact fun h => h x (by simp)
  · intro hx y hy
    rw [List.mem_append] at hy
    rcases hy with hy | hy
    · have h1 := ((sound_snoc a x).1 h).2.2 y hy
      have h2 := ((sound_snoc a x).1 h).2.1.2.2
      omega
    · rw [List.mem_singleton] at hy; subst hy; exact hx
theorem not_sound_prefix {a b : List Rg} (h : ¬ Sound a) : ¬ Sound (a ++ b) := fun hs => h ⟨fun r hr => hs.1 r (by simp [hr]), (List.pairwise_append.1 hs.2).1⟩
theorem check0 (l : List Rg) (hl : l.length ≤ 1073741824) (hr : ∀ r ∈ l, R32 r) : ∀ (d i : Nat), l.length - i = d → i ≤ l.length → Sound (l.take i) →
    Ev (fun k => sets_Check.l0 k l l (l.length : Int) (i : Int)) (if Sound l then 0 else 1)
  | 0, i, hd, hi, hs => by
    rw [List.take_of_length_le (by omega)] at hs
    rw [if_pos hs]
    refine Ev.step (f := fun _ => some 0) (fun k => ?_) (Ev.now _)
    rw [sets_Check.l0, if_neg (by omega)]
  | d + 1, i, hd, hi, hs => by
    have hi : i < l.length := by omega
    have h32 := hr l[i] (List.getElem_mem hi)
    have htk : l.take (i + 1) = l.take i ++ [l[i]] := by rw [List.take_add_one, List.getElem?_eq_getElem hi]; rfl
    have hall : l = l.take (i + 1) ++ l.drop (i + 1) := (List.take_append_drop _ _).symm
    have hcont : Sound (l.take (i + 1)) → Ev (fun k => sets_Check.l0 k l l (l.length : Int) ((i + 1 : Nat) : Int)) (if Sound l then 0 else 1) := fun h => check0 l hl hr d (i + 1) (by omega) (by omega) h
    have hstop : ¬ Sound (l.take (i + 1)) → (if Sound l then (0 : Int) else 1) = 1 := fun h => if_neg (by rw [hall]; exact not_sound_prefix h)
    obtain ⟨bad, hbad⟩ : ∃ b : Bool, b = !decide (okR l[i]) := ⟨_, rfl⟩
    refine Ev.step (f := fun k => sets_Check.j1 k l (i : Int) l (l.length : Int) (i : Int) bad l[i].f0 l[i].f1) (fun k => ?_) ?_
    · rw [sets_Check.l0, if_pos (by omega), if_pos (by omega), if_pos (by omega), rdT l i hi, band_is]
      simp only [Option.bind_some]
      by_cases h1 : bandOf l[i].f0 < 0
      · rw [if_pos h1, show bad = true by rw [hbad, decide_eq_false (fun h : okR l[i] => by have := h.1; omega)]; rfl]
      · rw [if_neg h1, band_is]
        simp only [Option.bind_some]
        by_cases h2 : bandOf l[i].f0 = bandOf l[i].f1
        · rw [if_pos h2, show decide (l[i].f0 > l[i].f1) = bad by
            rw [hbad]
            by_cases h3 : l[i].f0 ≤ l[i].f1
            · rw [decide_eq_true (show okR l[i] from ⟨by omega, h2, h3⟩), decide_eq_false (by omega)]; rfl
            · rw [decide_eq_false (fun h : okR l[i] => h3 h.2.2), decide_eq_true (by omega)]; rfl]
        · rw [if_neg h2, show bad = true by rw [hbad, decide_eq_false (fun h : okR l[i] => h2 h.2.1)]; rfl]
    · by_cases hok : okR l[i]
      · obtain rfl : bad = false := by rw [hbad]; simp [hok]
        by_cases h0 : i = 0
        · subst h0
          have hs1 : Sound (l.take 1) := by rw [htk, sound_snoc]; exact ⟨hs, hok, by simp⟩
          refine Ev.step (f := fun k => sets_Check.l0 k l l (l.length : Int) ((1 : Nat) : Int)) (fun k => ?_) (hcont hs1)
          rw [sets_Check.j1, if_neg (by simp), if_neg (by omega), wrapS 0 (by omega)]
        · obtain ⟨j, rfl⟩ : ∃ j, i = j + 1 := ⟨i - 1, by omega⟩
          have hj : j < l.length := by omega
          have h32j := hr l[j] (List.getElem_mem hj)
          have htj : l.take (j + 1) = l.take j ++ [l[j]] := by rw [List.take_add_one, List.getElem?_eq_getElem hj]; rfl
          unfold R32 I32 at h32j h32
          have hokj : okR l[j] := hs.1 l[j] (by rw [htj]; exact List.mem_append_right _ (List.mem_singleton.2 rfl))
          have hjm := okR_r32 hokj
          have hb := bandOf_cases l[j].f1
          obtain ⟨b0, b1, b2⟩ := hokj
          have e1 : wrap64 (((j + 1 : Nat) : Int) - 1) = (j : Int) := by unfold wrap64; omega
          have hiff : Sound (l.take (j + 1 + 1)) ↔ l[j].f1 + 1 < l[j + 1].f0 := by
            rw [htk, sound_snoc]
            constructor
            · rintro ⟨_, _, h⟩; exact h _ (by rw [htj]; exact List.mem_append_right _ (List.mem_singleton.2 rfl))
            · intro h
              refine ⟨hs, hok, ?_⟩
              rw [htj] at hs ⊢
              exact (sound_last hs).2 h
          refine Ev.step (f := fun k => if l[j].f1 + 1 < l[j + 1].f0 then sets_Check.l0 k l l (l.length : Int) ((j + 1 + 1 : Nat) : Int) else some 1) (fun k => ?_) ?_
          · rw [sets_Check.j1, if_neg (by simp), if_pos (by omega), e1, if_pos (by omega), if_pos (by omega), rdT l j hj, wrap32_of _ (by omega), wrapS (j + 1) (by omega)]
            by_cases h1 : l[j + 1].f0 ≤ l[j].f1
            · rw [if_pos h1, if_neg (by omega)]
            · rw [if_neg h1]
              by_cases h2 : l[j + 1].f0 = l[j].f1 + 1
              · rw [if_pos h2, if_neg (by omega)]
              · rw [if_neg h2, if_pos (by omega)]
          · by_cases h : l[j].f1 + 1 < l[j + 1].f0
            · exact ev_if_pos h (hcont (hiff.2 h))
            · rw [hstop (fun hs => h (hiff.1 hs))]; exact ev_if_neg h (Ev.now _)
      · obtain rfl : bad = true := by rw [hbad]; simp [hok]
        have : ¬ Sound (l.take (i + 1)) := by rw [htk, sound_snoc]; exact fun h => hok h.2.1
        rw [hstop this]
        refine Ev.step (f := fun _ => some 1) (fun k => ?_) (Ev.now _)
        rw [sets_Check.j1, if_pos rfl]
theorem check_is (l : List Rg) (hl : l.length ≤ 1073741824) (hr : ∀ r ∈ l, R32 r) : Ev (fun k => sets_Check.f k l) (if Sound l then 0 else 1) := by
  simpa [sets_Check.f] using check0 l hl hr l.length 0 (by omega) (by omega) ⟨by simp, by simp⟩

end Go.Proofs.YtoggmegpodmfnaaDoor.Q
