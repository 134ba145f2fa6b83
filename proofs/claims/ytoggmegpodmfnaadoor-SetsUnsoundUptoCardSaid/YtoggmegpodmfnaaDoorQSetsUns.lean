/- The law's plain side (SetsRef): what the printed functions come to; each theorem states its own conditions. -/
import Derived.Test.YtoggmegpodmfnaaDoorPYx0
import Derived.Test.YtoggmegpodmfnaaDoorPYx3
import Derived.Test.YtoggmegpodmfnaaDoorPYx9
import Derived.Test.YtoggmegpodmfnaaDoorBSetsBand
import Derived.Test.YtoggmegpodmfnaaDoorPYx2
import Derived.Test.YtoggmegpodmfnaaDoorPYx10
import Derived.Test.YtoggmegpodmfnaaDoorPYx4
import Derived.Test.YtoggmegpodmfnaaDoorPYx5
import Derived.Test.YtoggmegpodmfnaaDoorPYx6
import Derived.Test.YtoggmegpodmfnaaDoorPYx7
import Derived.Test.YtoggmegpodmfnaaDoorPYx8
import Derived.Test.YtoggmegpodmfnaaDoorBGlobSetsT
import Derived.Deep.QuietTactic
import Derived.BigQuiet
import Derived.Deep.RegionHeld3
import Derived.OneCell
namespace Go.Proofs.YtoggmegpodmfnaaDoor.Q
open Go.RowKit Go.Proofs.YtoggmegpodmfnaaDoorW.PrintWords Go.Proofs.YtoggmegpodmfnaaDoorW.PrintLast Go.Proofs.YtoggmegpodmfnaaDoorW.PrintMore Go.Proofs.YtoggmegpodmfnaaDoor.PY Go.Proofs.YtoggmegpodmfnaaDoor.B
set_option linter.unusedVariables false
set_option linter.unusedSimpArgs false
abbrev Rg := S29
theorem ev_if_pos {α : Type} {g f : Nat → Option α} {r : α} {c : Prop} [Decidable c] (hc : c) (h : Ev g r) : Ev (fun k => if c then g k else f k) r := by
  simp only [if_pos hc]; exact h
theorem ev_if_neg {α : Type} {g f : Nat → Option α} {r : α} {c : Prop} [Decidable c] (hc : ¬ c) (h : Ev f r) : Ev (fun k => if c then g k else f k) r := by
  simp only [if_neg hc]; exact h
theorem evb0 {α β : Type} {x : Option α} {f : Nat → α → Option β} {a : α} {r : β} (h : x = some a) (k : Ev (fun n => f n a) r) : Ev (fun n => x.bind (f n)) r := by
  subst h; exact k
theorem wrap64_of (x : Int) (h : -9223372036854775808 ≤ x ∧ x ≤ 9223372036854775807) : wrap64 x = x := by unfold wrap64; omega
theorem wrap32_of (x : Int) (h : -2147483648 ≤ x ∧ x ≤ 2147483647) : wrap32 x = x := by unfold wrap32; omega
theorem wrapS (i : Nat) (h : i ≤ 1099511627776) : wrap64 ((i : Int) + 1) = ((i + 1 : Nat) : Int) := by unfold wrap64; omega
theorem rdT (l : List Rg) (i : Nat) (h : i < l.length) : rd_T29 l (i : Int) = l[i] := by
  unfold rd_T29; rw [Int.toNat_natCast, List.getD_eq_getElem?_getD, List.getElem?_eq_getElem h]; rfl
def I32 (x : Int) : Prop := -2147483648 ≤ x ∧ x ≤ 2147483647
def R32 (r : Rg) : Prop := I32 r.f0 ∧ I32 r.f1
def mem (l : List Rg) (u : Int) : Bool := l.any fun r => decide (r.f0 ≤ u ∧ u ≤ r.f1)
theorem mem_iff (l : List Rg) (u : Int) : mem l u = true ↔ ∃ r ∈ l, r.f0 ≤ u ∧ u ≤ r.f1 := by simp [mem]
theorem mem_cons (r : Rg) (l : List Rg) (u : Int) : mem (r :: l) u = (decide (r.f0 ≤ u ∧ u ≤ r.f1) || mem l u) := by simp [mem]
theorem mem_app (a b : List Rg) (u : Int) : mem (a ++ b) u = (mem a u || mem b u) := by simp [mem]
def isU (u : Int) : Bool := decide (0 ≤ bandOf u)
theorem bandOf_cases (u : Int) : (bandOf u = 0 ∧ 0 ≤ u ∧ u ≤ 55295) ∨ (bandOf u = 1 ∧ 57344 ≤ u ∧ u ≤ 1114111) ∨ (bandOf u = 2 ∧ 1114240 ≤ u ∧ u ≤ 1114367) ∨ (bandOf u = -1 ∧ ¬ (0 ≤ u ∧ u ≤ 55295) ∧ ¬ (57344 ≤ u ∧ u ≤ 1114111) ∧ ¬ (1114240 ≤ u ∧ u ≤ 1114367)) := by
  unfold bandOf
  repeat' split
  all_goals omega
def okR (r : Rg) : Prop := 0 ≤ bandOf r.f0 ∧ bandOf r.f0 = bandOf r.f1 ∧ r.f0 ≤ r.f1
instance (r : Rg) : Decidable (okR r) := inferInstanceAs (Decidable (_ ∧ _))
def Sound (l : List Rg) : Prop := (∀ r ∈ l, okR r) ∧ l.Pairwise (fun a b => a.f1 + 1 < b.f0)
instance (l : List Rg) : Decidable (Sound l) := inferInstanceAs (Decidable (_ ∧ _))
theorem Sound.tail {r : Rg} {l : List Rg} (h : Sound (r :: l)) : Sound l := ⟨fun x hx => h.1 x (List.mem_cons_of_mem _ hx), (List.pairwise_cons.1 h.2).2⟩
theorem okR_r32 {r : Rg} (h : okR r) : R32 r := by
  obtain ⟨h0, h1, h2⟩ := h
  have a := bandOf_cases r.f0
  have b := bandOf_cases r.f1
  unfold R32 I32
  omega
theorem Sound.r32 {l : List Rg} (h : Sound l) : ∀ r ∈ l, R32 r := fun r hr => okR_r32 (h.1 r hr)
theorem okR_unit {r : Rg} (h : okR r) {u : Int} (h0 : r.f0 ≤ u) (h1 : u ≤ r.f1) : isU u = true := by
  obtain ⟨a0, a1, a2⟩ := h
  have a := bandOf_cases r.f0
  have b := bandOf_cases r.f1
  have c := bandOf_cases u
  unfold isU
  simp only [decide_eq_true_eq]
  omega
theorem Sound.unit {l : List Rg} (h : Sound l) {u : Int} (hu : mem l u = true) : isU u = true := by
  obtain ⟨r, hr, h0, h1⟩ := (mem_iff l u).1 hu
  exact okR_unit (h.1 r hr) h0 h1
theorem band_is (u : Int) : sets_band.f u = some (bandOf u) := rfl
theorem unit_is (u : Int) : thistlelaw02_unit.f u = some (isU u) := by
  have c := bandOf_cases u
  unfold thistlelaw02_unit.f isU
  repeat' split
  all_goals (congr 1; first | (symm; rw [decide_eq_true_eq]; omega) | (symm; rw [decide_eq_false_iff_not]; omega) | (rw [decide_eq_decide]; omega))
theorem sound_snoc (a : List Rg) (r : Rg) : Sound (a ++ [r]) ↔ Sound a ∧ okR r ∧ ∀ x ∈ a, x.f1 + 1 < r.f0 := by
  unfold Sound
  rw [List.pairwise_append]
  constructor
  · rintro ⟨h1, h2, _, h3⟩
    exact ⟨⟨fun x hx => h1 x (by simp [hx]), h2⟩, h1 r (by simp), fun x hx => h3 x hx r (by simp)⟩
  · rintro ⟨⟨h1, h2⟩, h3, h4⟩
    refine ⟨fun x hx => ?_, h2, by simp, fun x hx y hy => ?_⟩
    · rw [List.mem_append] at hx
      rcases hx with hx | hx
      · exact h1 x hx
      · rw [List.mem_singleton] at hx; subst hx; exact h3
    · rw [List.mem_singleton] at hy; subst hy; exact h4 x hx
theorem sound_last {a : List Rg} {x r : Rg} (h : Sound (a ++ [x])) : (∀ y ∈ a ++ [x], y.f1 + 1 < r.f0) ↔ x.f1 + 1 < r.f0 := by
  constructor
  · exact fun h => h x (by simp)
  · intro hx y hy
    rw [List.mem_append] at hy
    rcases hy with hy | hy
    · have h1 := ((sound_snoc a x).1 h).2.2 y hy
      have h2 := ((sound_snoc a x).1 h).2.1.2.2
      omega
    · rw [List.mem_singleton] at hy; subst hy; exact hx
theorem not_sound_prefix {a b : List Rg} (h : ¬ Sound a) : ¬ Sound (a ++ b) := fun hs => h ⟨fun r hr => hs.1 r (by simp [hr]), (List.pairwise_append.1 hs.2).1⟩
theorem check0 (l : List Rg) (hl : l.length ≤ 1073741824) (hr : ∀ r ∈ l, R32 r) : ∀ (d i : Nat), l.length - i = d → i ≤ l.length → Sound (l.take i) →
    Ev (fun k => sets_Check.l0 k l l (l.length : Int) (i : Int)) (if Sound l then 0 else 1)
  | 0, i, hd, hi, hs => by
    rw [List.take_of_length_le (by omega)] at hs
    rw [if_pos hs]
    refine Ev.step (f := fun _ => some 0) (fun k => ?_) (Ev.now _)
    rw [sets_Check.l0, if_neg (by omega)]
  | d + 1, i, hd, hi, hs => by
    have hi : i < l.length := by omega
    have h32 := hr l[i] (List.getElem_mem hi)
    have htk : l.take (i + 1) = l.take i ++ [l[i]] := by rw [List.take_add_one, List.getElem?_eq_getElem hi]; rfl
    have hall : l = l.take (i + 1) ++ l.drop (i + 1) := (List.take_append_drop _ _).symm
    have hcont : Sound (l.take (i + 1)) → Ev (fun k => sets_Check.l0 k l l (l.length : Int) ((i + 1 : Nat) : Int)) (if Sound l then 0 else 1) := fun h => check0 l hl hr d (i + 1) (by omega) (by omega) h
    have hstop : ¬ Sound (l.take (i + 1)) → (if Sound l then (0 : Int) else 1) = 1 := fun h => if_neg (by rw [hall]; exact not_sound_prefix h)
    obtain ⟨bad, hbad⟩ : ∃ b : Bool, b = !decide (okR l[i]) := ⟨_, rfl⟩
    refine Ev.step (f := fun k => sets_Check.j1 k l (i : Int) l (l.length : Int) (i : Int) bad l[i].f0 l[i].f1) (fun k => ?_) ?_
    · rw [sets_Check.l0, if_pos (by omega), if_pos (by omega), if_pos (by omega), rdT l i hi, band_is]
      simp only [Option.bind_some]
      by_cases h1 : bandOf l[i].f0 < 0
      · rw [if_pos h1, show bad = true by rw [hbad, decide_eq_false (fun h : okR l[i] => by have := h.1; omega)]; rfl]
      · rw [if_neg h1, band_is]
        simp only [Option.bind_some]
        by_cases h2 : bandOf l[i].f0 = bandOf l[i].f1
        · rw [if_pos h2, show decide (l[i].f0 > l[i].f1) = bad by
            rw [hbad]
            by_cases h3 : l[i].f0 ≤ l[i].f1
            · rw [decide_eq_true (show okR l[i] from ⟨by omega, h2, h3⟩), decide_eq_false (by omega)]; rfl
            · rw [decide_eq_false (fun h : okR l[i] => h3 h.2.2), decide_eq_true (by omega)]; rfl]
        · rw [if_neg h2, show bad = true by rw [hbad, decide_eq_false (fun h : okR l[i] => h2 h.2.1)]; rfl]
    · by_cases hok : okR l[i]
      · obtain rfl : bad = false := by rw [hbad]; simp [hok]
        by_cases h0 : i = 0
        · subst h0
          have hs1 : Sound (l.take 1) := by rw [htk, sound_snoc]; exact ⟨hs, hok, by simp⟩
          refine Ev.step (f := fun k => sets_Check.l0 k l l (l.length : Int) ((1 : Nat) : Int)) (fun k => ?_) (hcont hs1)
          rw [sets_Check.j1, if_neg (by simp), if_neg (by omega), wrapS 0 (by omega)]
        · obtain ⟨j, rfl⟩ : ∃ j, i = j + 1 := ⟨i - 1, by omega⟩
          have hj : j < l.length := by omega
          have h32j := hr l[j] (List.getElem_mem hj)
          have htj : l.take (j + 1) = l.take j ++ [l[j]] := by rw [List.take_add_one, List.getElem?_eq_getElem hj]; rfl
          unfold R32 I32 at h32j h32
          have hokj : okR l[j] := hs.1 l[j] (by rw [htj]; exact List.mem_append_right _ (List.mem_singleton.2 rfl))
          have hjm := okR_r32 hokj
          have hb := bandOf_cases l[j].f1
          obtain ⟨b0, b1, b2⟩ := hokj
          have e1 : wrap64 (((j + 1 : Nat) : Int) - 1) = (j : Int) := by unfold wrap64; omega
          have hiff : Sound (l.take (j + 1 + 1)) ↔ l[j].f1 + 1 < l[j + 1].f0 := by
            rw [htk, sound_snoc]
            constructor
            · rintro ⟨_, _, h⟩; exact h _ (by rw [htj]; exact List.mem_append_right _ (List.mem_singleton.2 rfl))
            · intro h
              refine ⟨hs, hok, ?_⟩
              rw [htj] at hs ⊢
              exact (sound_last hs).2 h
          refine Ev.step (f := fun k => if l[j].f1 + 1 < l[j + 1].f0 then sets_Check.l0 k l l (l.length : Int) ((j + 1 + 1 : Nat) : Int) else some 1) (fun k => ?_) ?_
          · rw [sets_Check.j1, if_neg (by simp), if_pos (by omega), e1, if_pos (by omega), if_pos (by omega), rdT l j hj, wrap32_of _ (by omega), wrapS (j + 1) (by omega)]
            by_cases h1 : l[j + 1].f0 ≤ l[j].f1
            · rw [if_pos h1, if_neg (by omega)]
            · rw [if_neg h1]
              by_cases h2 : l[j + 1].f0 = l[j].f1 + 1
              · rw [if_pos h2, if_neg (by omega)]
              · rw [if_neg h2, if_pos (by omega)]
          · by_cases h : l[j].f1 + 1 < l[j + 1].f0
            · exact ev_if_pos h (hcont (hiff.2 h))
            · rw [hstop (fun hs => h (hiff.1 hs))]; exact ev_if_neg h (Ev.now _)
      · obtain rfl : bad = true := by rw [hbad]; simp [hok]
        have : ¬ Sound (l.take (i + 1)) := by rw [htk, sound_snoc]; exact fun h => hok h.2.1
        rw [hstop this]
        refine Ev.step (f := fun _ => some 1) (fun k => ?_) (Ev.now _)
        rw [sets_Check.j1, if_pos rfl]
theorem check_is (l : List Rg) (hl : l.length ≤ 1073741824) (hr : ∀ r ∈ l, R32 r) : Ev (fun k => sets_Check.f k l) (if Sound l then 0 else 1) := by
  simpa [sets_Check.f] using check0 l hl hr l.length 0 (by omega) (by omega) ⟨by simp, by simp⟩
end Go.Proofs.YtoggmegpodmfnaaDoor.Q
namespace Go.Proofs.YtoggmegpodmfnaaDoor.Q
open Go.RowKit Go.Proofs.YtoggmegpodmfnaaDoorW.PrintWords Go.Proofs.YtoggmegpodmfnaaDoorW.PrintLast Go.Proofs.YtoggmegpodmfnaaDoorW.PrintMore Go.Proofs.YtoggmegpodmfnaaDoor.PY Go.Proofs.YtoggmegpodmfnaaDoor.B
set_option linter.unusedVariables false
set_option linter.unusedSimpArgs false
theorem mem_gap {x : Rg} {l : List Rg} (h : Sound (x :: l)) {u : Int} (hu : mem l u = true) : x.f1 + 1 < u := by
  obtain ⟨r, hr, h0, h1⟩ := (mem_iff l u).1 hu
  have := (List.pairwise_cons.1 h.2).1 r hr
  omega
theorem sound_ext : ∀ (a b : List Rg), Sound a → Sound b → (∀ u, mem a u = mem b u) → a = b
  | [], [], _, _, _ => rfl
  | [], y :: b, _, hb, h => by
    have h1 := h y.f0
    have h2 := (hb.1 y (by simp)).2.2
    rw [mem_cons, decide_eq_true (show y.f0 ≤ y.f0 ∧ y.f0 ≤ y.f1 from ⟨by omega, h2⟩)] at h1
    simp [mem] at h1
  | x :: a, [], ha, _, h => by
    have h1 := h x.f0
    have h2 := (ha.1 x (by simp)).2.2
    rw [mem_cons, decide_eq_true (show x.f0 ≤ x.f0 ∧ x.f0 ≤ x.f1 from ⟨by omega, h2⟩)] at h1
    simp [mem] at h1
  | x :: a, y :: b, ha, hb, h => by
    have hx := (ha.1 x (by simp)).2.2
    have hy := (hb.1 y (by simp)).2.2
    have key : ∀ (x y : Rg) (a b : List Rg), Sound (x :: a) → Sound (y :: b) → (∀ u, mem (x :: a) u = mem (y :: b) u) → x.f0 ≤ x.f1 → y.f0 ≤ x.f0 := by
      intro x y a b ha hb h hx
      have h1 := h x.f0
      rw [mem_cons, decide_eq_true (show x.f0 ≤ x.f0 ∧ x.f0 ≤ x.f1 from ⟨by omega, hx⟩), Bool.true_or] at h1
      have h2 := h1.symm
      rw [mem_cons, Bool.or_eq_true, decide_eq_true_eq] at h2
      rcases h2 with h2 | h2
      · exact h2.1
      · have := mem_gap hb h2; have := (hb.1 y (by simp)).2.2; omega
    have e0 : x.f0 = y.f0 := by
      have h1 := key x y a b ha hb h hx
      have h2 := key y x b a hb ha (fun u => (h u).symm) hy
      omega
    have key2 : ∀ (x y : Rg) (a b : List Rg), Sound (x :: a) → (∀ u, mem (x :: a) u = mem (y :: b) u) → x.f0 ≤ x.f1 → y.f0 ≤ x.f0 → y.f1 ≤ x.f1 := by
      intro x y a b ha h hx h0
      refine Decidable.byContradiction fun hlt => ?_
      have h1 := h (x.f1 + 1)
      rw [mem_cons y, decide_eq_true (show y.f0 ≤ x.f1 + 1 ∧ x.f1 + 1 ≤ y.f1 from ⟨by omega, by omega⟩), Bool.true_or, mem_cons, Bool.or_eq_true, decide_eq_true_eq] at h1
      rcases h1 with h1 | h1
      · omega
      · have := mem_gap ha h1; omega
    have e1 : x.f1 = y.f1 := by
      have h1 := key2 x y a b ha h hx (by omega)
      have h2 := key2 y x b a hb (fun u => (h u).symm) hy (by omega)
      omega
    obtain rfl : x = y := by cases x; cases y; simp_all
    have : a = b := sound_ext a b ha.tail hb.tail fun u => by
      have hu := h u
      rw [mem_cons, mem_cons] at hu
      by_cases hin : x.f0 ≤ u ∧ u ≤ x.f1
      · have n1 : mem a u = false := by
          rw [← Bool.not_eq_true]; intro hm; have := mem_gap ha hm; omega
        have n2 : mem b u = false := by
          rw [← Bool.not_eq_true]; intro hm; have := mem_gap hb hm; omega
        rw [n1, n2]
      · rw [decide_eq_false hin, Bool.false_or, Bool.false_or] at hu
        exact hu
    rw [this]
theorem merge_ok {x r : Rg} (hx : okR x) (hr : okR r) (h0 : x.f0 ≤ r.f0) (h1 : r.f0 ≤ x.f1 + 1) : okR ⟨x.f0, mx x.f1 r.f1⟩ := by
  obtain ⟨x0, x1, x2⟩ := hx
  obtain ⟨r0, r1, r2⟩ := hr
  unfold okR mx
  simp only
  have a := bandOf_cases x.f0
  have b := bandOf_cases x.f1
  have c := bandOf_cases r.f0
  have d := bandOf_cases r.f1
  split <;> omega
theorem merge_mem {x r : Rg} (hx : x.f0 ≤ x.f1) (hr : r.f0 ≤ r.f1) (h0 : x.f0 ≤ r.f0) (h1 : r.f0 ≤ x.f1 + 1) (u : Int) :
    mem [⟨x.f0, mx x.f1 r.f1⟩] u = (mem [x] u || mem [r] u) := by
  unfold mx
  rw [Bool.eq_iff_iff, Bool.or_eq_true, mem_iff, mem_iff, mem_iff]
  simp only [List.mem_singleton, exists_eq_left]
  split <;> omega
theorem mem_take (s : List Rg) (i : Nat) (hi : i < s.length) (u : Int) : mem (s.take (i + 1)) u = (mem (s.take i) u || mem [s[i]] u) := by
  rw [List.take_add_one, List.getElem?_eq_getElem hi, ← mem_app]; rfl
theorem set_last (o : List Rg) (x y : Rg) : (o ++ [x]).set o.length y = o ++ [y] := by simp
theorem gather0 (s : List Rg) (hs : s.length ≤ 4294967296) (hok : ∀ r ∈ s, okR r) (hsort : s.Pairwise (fun a b => a.f0 ≤ b.f0)) : ∀ (d i : Nat) (out : List Rg), s.length - i = d → i ≤ s.length → Sound out → out.length ≤ i →
    (∀ x ∈ out, ∀ r ∈ s.drop i, x.f0 ≤ r.f0) → (∀ u, mem out u = mem (s.take i) u) →
    ∃ g, Ev (fun k => sets_gather.l0 k out s (s.length : Int) (i : Int)) g ∧ Sound g ∧ (∀ u, mem g u = mem s u) ∧ g.length ≤ s.length
  | 0, i, out, hd, hi, hso, hl, hlo, hm => by
    rw [List.take_of_length_le (by omega)] at hm
    refine ⟨out, Ev.step (f := fun _ => some out) (fun k => ?_) (Ev.now _), hso, hm, by omega⟩
    rw [sets_gather.l0, if_neg (by omega)]
  | d + 1, i, out, hd, hi, hso, hl, hlo, hm => by
    have hi : i < s.length := by omega
    have hdr : s.drop i = s[i] :: s.drop (i + 1) := List.drop_eq_getElem_cons hi
    have hor := hok s[i] (List.getElem_mem hi)
    have hrest : ∀ r ∈ s.drop (i + 1), s[i].f0 ≤ r.f0 := by
      have := (List.pairwise_append.1 (by rw [List.take_append_drop i s]; exact hsort : (s.take i ++ s.drop i).Pairwise _)).2.1
      rw [hdr] at this
      exact (List.pairwise_cons.1 this).1
    have next : ∀ out2 : List Rg, Sound out2 → out2.length ≤ i + 1 → (∀ x ∈ out2, x.f0 ≤ s[i].f0) → (∀ u, mem out2 u = (mem out u || mem [s[i]] u)) →
        ∃ g, Ev (fun k => sets_gather.l0 k out2 s (s.length : Int) ((i + 1 : Nat) : Int)) g ∧ Sound g ∧ (∀ u, mem g u = mem s u) ∧ g.length ≤ s.length := by
      intro out2 h1 h2 h3 h4
      refine gather0 s hs hok hsort d (i + 1) out2 (by omega) (by omega) h1 h2 (fun x hx r hr => ?_) (fun u => by rw [h4, hm, mem_take s i hi])
      have := h3 x hx; have := hrest r hr; omega
    have hlo0 : ∀ x ∈ out, x.f0 ≤ s[i].f0 := fun x hx => hlo x hx s[i] (by rw [hdr]; exact List.mem_cons_self)
    by_cases hout : out = []
    · subst hout
      obtain ⟨g, hg, h⟩ := next [s[i]] ⟨by simpa using hor, by simp⟩ (by simp) (by simp) (fun u => by simp [mem])
      refine ⟨g, Ev.step (fun k => ?_) hg, h⟩
      rw [sets_gather.l0, if_pos (by omega), if_pos (by omega), if_pos (by omega), if_neg (by simp), if_pos (by simp), rdT s i hi, wrapS i (by omega)]
      rfl
    · obtain ⟨o, x, rfl⟩ : ∃ o x, out = o ++ [x] := ⟨out.dropLast, out.getLast hout, (List.dropLast_concat_getLast hout).symm⟩
      have hll : (o ++ [x]).length = o.length + 1 := by simp
      have hxo := (sound_snoc o x).1 hso
      have h32 := okR_r32 hxo.2.1
      have hx01 := hxo.2.1.2.2
      have e1 : wrap64 (((o ++ [x]).length : Int) - 1) = (o.length : Int) := by rw [hll]; unfold wrap64; omega
      have erd : rd_T29 (o ++ [x]) (o.length : Int) = x := by rw [rdT _ _ (by omega)]; simp
      have hb := bandOf_cases x.f1
      have hx0 := hlo0 x (by simp)
      unfold R32 I32 at h32
      obtain ⟨bx0, bx1, bx2⟩ := hxo.2.1
      by_cases hc : s[i].f0 ≤ x.f1 + 1
      · obtain ⟨g, hg, h⟩ := next (o ++ [⟨x.f0, mx x.f1 s[i].f1⟩]) (by rw [sound_snoc]; exact ⟨hxo.1, merge_ok hxo.2.1 hor hx0 hc, hxo.2.2⟩) (by simp at hl ⊢; omega)
          (fun y hy => by
            rw [List.mem_append] at hy
            rcases hy with hy | hy
            · exact hlo0 y (List.mem_append_left _ hy)
            · rw [List.mem_singleton] at hy; subst hy; exact hx0)
          (fun u => by rw [mem_app, mem_app, merge_mem hx01 hor.2.2 hx0 hc, Bool.or_assoc])
        refine ⟨g, Ev.step (fun k => ?_) hg, h⟩
        rw [sets_gather.l0, if_pos (by omega), if_pos (by omega), if_pos (by omega), if_pos (by omega), e1, if_pos (by omega), if_pos (by omega), erd, rdT s i hi, wrap32_of _ (by omega), if_pos hc, wrapS i (by omega), Int.toNat_natCast, set_last]
      · obtain ⟨g, hg, h⟩ := next (o ++ [x] ++ [s[i]]) (by rw [sound_snoc]; exact ⟨hso, hor, (sound_last hso).2 (by omega)⟩) (by simp at hl ⊢; omega)
          (fun y hy => by
            rw [List.mem_append] at hy
            rcases hy with hy | hy
            · exact hlo0 y hy
            · rw [List.mem_singleton] at hy; subst hy; omega)
          (fun u => by rw [mem_app])
        refine ⟨g, Ev.step (fun k => ?_) hg, h⟩
        rw [sets_gather.l0, if_pos (by omega), if_pos (by omega), if_pos (by omega), if_pos (by omega), e1, if_pos (by omega), if_pos (by omega), erd, rdT s i hi, wrap32_of _ (by omega), if_neg hc, if_pos (by omega), wrapS i (by omega)]
theorem mem_perm {a b : List Rg} (h : a.Perm b) (u : Int) : mem a u = mem b u := by
  rw [Bool.eq_iff_iff, mem_iff, mem_iff]
  exact ⟨fun ⟨r, hr, hu⟩ => ⟨r, h.mem_iff.1 hr, hu⟩, fun ⟨r, hr, hu⟩ => ⟨r, h.mem_iff.2 hr, hu⟩⟩
theorem gather_is (l : List Rg) (hl : l.length ≤ 4294967296) (hok : ∀ r ∈ l, okR r) : ∃ g, Ev (fun k => sets_gather.f k l) g ∧ Sound g ∧ (∀ u, mem g u = mem l u) ∧ g.length ≤ l.length := by
  have hp := sortRanges_perm l
  have hln := sortRanges_length l
  obtain ⟨g, hg, h1, h2, h3⟩ := gather0 (sortRanges l) (by omega) (fun r hr => hok r (hp.mem_iff.1 hr)) (sortRanges_sorted l) (sortRanges l).length 0 [] (by omega) (by omega) ⟨by simp, by simp⟩ (by simp) (by simp) (by simp [mem])
  refine ⟨g, ?_, h1, fun u => (h2 u).trans (mem_perm hp u), by omega⟩
  unfold sets_gather.f
  exact ev_if_pos hl hg
theorem clipB_facts (lo hi : Int) (r : Rg) (hb : ∀ u, lo ≤ u → u ≤ hi → bandOf u = bandOf lo) (h0 : 0 ≤ bandOf lo) : (∀ x ∈ clipB lo hi r, okR x) ∧ ∀ u, mem (clipB lo hi r) u = (decide (lo ≤ u ∧ u ≤ hi) && decide (r.f0 ≤ u ∧ u ≤ r.f1)) := by
  have hL : (mx r.f0 lo = r.f0 ∨ mx r.f0 lo = lo) ∧ r.f0 ≤ mx r.f0 lo ∧ lo ≤ mx r.f0 lo := by unfold mx; split <;> omega
  have hH : (mn r.f1 hi = r.f1 ∨ mn r.f1 hi = hi) ∧ mn r.f1 hi ≤ r.f1 ∧ mn r.f1 hi ≤ hi := by unfold mn; split <;> omega
  unfold clipB
  generalize mx r.f0 lo = L at *
  generalize mn r.f1 hi = H at *
  by_cases h : L ≤ H
  · rw [if_pos h]
    have h1 := hb L (by omega) (by omega)
    have h2 := hb H (by omega) (by omega)
    refine ⟨fun x hx => ?_, fun u => ?_⟩
    · rw [List.mem_singleton] at hx
      subst hx
      exact ⟨by show 0 ≤ bandOf L; omega, by show bandOf L = bandOf H; omega, h⟩
    · rw [Bool.eq_iff_iff, Bool.and_eq_true, decide_eq_true_eq, decide_eq_true_eq, mem_iff]
      simp only [List.mem_singleton, exists_eq_left]
      omega
  · rw [if_neg h]
    refine ⟨by simp, fun u => ?_⟩
    rw [Bool.eq_iff_iff, Bool.and_eq_true, decide_eq_true_eq, decide_eq_true_eq, mem_iff]
    simp only [List.not_mem_nil, false_and, exists_false, false_iff]
    omega
theorem clips_ok (r : Rg) : ∀ x ∈ clips r, okR x := by
  intro x hx
  unfold clips at hx
  rw [List.mem_append, List.mem_append] at hx
  rcases hx with (hx | hx) | hx
  · exact (clipB_facts 0 55295 r (fun u a b => by rw [bandOf_0 ⟨a, b⟩]; rfl) (by decide)).1 x hx
  · exact (clipB_facts 57344 1114111 r (fun u a b => by rw [bandOf_1 ⟨a, b⟩]; rfl) (by decide)).1 x hx
  · exact (clipB_facts 1114240 1114367 r (fun u a b => by rw [bandOf_2 ⟨a, b⟩]; rfl) (by decide)).1 x hx
theorem clips_mem (r : Rg) (u : Int) : mem (clips r) u = (isU u && decide (r.f0 ≤ u ∧ u ≤ r.f1)) := by
  unfold clips
  rw [mem_app, mem_app, (clipB_facts 0 55295 r (fun u a b => by rw [bandOf_0 ⟨a, b⟩]; rfl) (by decide)).2, (clipB_facts 57344 1114111 r (fun u a b => by rw [bandOf_1 ⟨a, b⟩]; rfl) (by decide)).2,
    (clipB_facts 1114240 1114367 r (fun u a b => by rw [bandOf_2 ⟨a, b⟩]; rfl) (by decide)).2, ← Bool.and_or_distrib_right, ← Bool.and_or_distrib_right]
  congr 1
  have c := bandOf_cases u
  unfold isU
  rw [Bool.eq_iff_iff]
  simp only [Bool.or_eq_true, decide_eq_true_eq]
  omega
theorem clips_len (r : Rg) : (clips r).length ≤ 3 := by
  unfold clips
  have a := clipB_length 0 55295 r
  have b := clipB_length 57344 1114111 r
  have c := clipB_length 1114240 1114367 r
  simp only [List.length_append]; omega
theorem flat_len : ∀ l : List Rg, (l.flatMap clips).length ≤ 3 * l.length
  | [] => by simp
  | r :: l => by have := flat_len l; have := clips_len r; simp only [List.flatMap_cons, List.length_append, List.length_cons]; omega
theorem flat_mem : ∀ (l : List Rg) (u : Int), mem (l.flatMap clips) u = (isU u && mem l u)
  | [], u => by simp [mem]
  | r :: l, u => by rw [List.flatMap_cons, mem_app, clips_mem, flat_mem l u, mem_cons, Bool.and_or_distrib_left]
def allUp (l : List Rg) : Bool := l.all fun r => decide (r.f0 ≤ r.f1)
theorem make_is (l : List Rg) (hl : l.length ≤ 1073741824) (hup : allUp l = true) : ∃ g, Ev (fun k => sets_Make.f k l) (g, 0) ∧ Sound g ∧ (∀ u, mem g u = (isU u && mem l u)) ∧ g.length ≤ 3 * l.length := by
  have h3 := flat_len l
  obtain ⟨g, hg, h1, h2, h4⟩ := gather_is (l.flatMap clips) (by omega) (fun r hr => by
    obtain ⟨x, _, hx⟩ := List.mem_flatMap.1 hr
    exact clips_ok x r hx)
  refine ⟨g, ?_, h1, fun u => (h2 u).trans (flat_mem l u), by omega⟩
  unfold sets_Make.f
  exact ev_if_pos hl (ev_if_pos hup (Ev.bind hg (Ev.now _)))
end Go.Proofs.YtoggmegpodmfnaaDoor.Q
namespace Go.Proofs.YtoggmegpodmfnaaDoor.Q
open Go.RowKit Go.Proofs.YtoggmegpodmfnaaDoorW.PrintWords Go.Proofs.YtoggmegpodmfnaaDoorW.PrintLast Go.Proofs.YtoggmegpodmfnaaDoorW.PrintMore Go.Proofs.YtoggmegpodmfnaaDoor.PY Go.Proofs.YtoggmegpodmfnaaDoor.B
set_option linter.unusedVariables false
set_option linter.unusedSimpArgs false
theorem has1_is (x : Rg) (u : Int) : sets_has_1.f x.f0 x.f1 u = some (if x.f1 < u then -1 else if x.f0 > u then 1 else 0) := by
  unfold sets_has_1.f
  repeat' split
  all_goals rfl
theorem search0 (l : List Rg) (u : Int) (hl : l.length ≤ 1073741824) (h : Sound l) : ∀ (d i j : Nat), j - i = d → i ≤ j → j ≤ l.length → (∀ q (hq : q < l.length), q < i → l[q].f1 < u) → (∀ q (hq : q < l.length), j ≤ q → u ≤ l[q].f1) →
    ∃ p, Ev (fun k => api_Range_rune.l0 k l u (l.length : Int) (i : Int) (j : Int)) (p, mem l u) := by
  intro d
  induction d using Nat.strongRecOn with
  | ind d ih =>
    intro i j hd hij hj hlo hhi
    by_cases hlt : i < j
    · obtain ⟨m, hm⟩ : ∃ m : Nat, m = (i + j) / 2 := ⟨_, rfl⟩
      have hmi : i ≤ m := by omega
      have hmj : m < j := by omega
      have hml : m < l.length := by omega
      have em : wrap64 ((IntKind.u64.wrap (wrap64 ((i : Int) + (j : Int)))) / 2) = (m : Int) := by
        have e1 : wrap64 ((i : Int) + (j : Int)) = ((i + j : Nat) : Int) := by unfold wrap64; omega
        rw [e1]
        have e2 : IntKind.u64.wrap ((i + j : Nat) : Int) = ((i + j : Nat) : Int) := by
          show ((i + j : Nat) : Int) % 18446744073709551616 = _
          omega
        rw [e2]; unfold wrap64; omega
      by_cases hc : l[m].f1 < u
      · obtain ⟨p, hp⟩ := ih (j - (m + 1)) (by omega) (m + 1) j rfl (by omega) hj (fun q hq hqm => by
          by_cases e : q = m
          · subst e; exact hc
          · have h1 := List.pairwise_iff_getElem.1 h.2 q m hq hml (by omega)
            have h2 := (h.1 l[m] (List.getElem_mem hml)).2.2
            omega) hhi
        refine ⟨p, Ev.step (fun k => ?_) hp⟩
        rw [api_Range_rune.l0, if_pos (by omega), em, if_pos (by omega), if_pos (by omega), rdT l m hml, has1_is, if_pos hc]
        simp only [Option.bind_some]
        rw [if_pos (by omega), wrapS m (by omega)]
      · obtain ⟨p, hp⟩ := ih (m - i) (by omega) i m rfl hmi (by omega) hlo (fun q hq hqm => by
          by_cases e : q = m
          · subst e; omega
          · have h1 := List.pairwise_iff_getElem.1 h.2 m q hml hq (by omega)
            have h2 := (h.1 l[q] (List.getElem_mem hq)).2.2
            omega)
        refine ⟨p, Ev.step (fun k => ?_) hp⟩
        rw [api_Range_rune.l0, if_pos (by omega), em, if_pos (by omega), if_pos (by omega), rdT l m hml, has1_is, if_neg hc]
        simp only [Option.bind_some]
        rw [if_neg (by split <;> omega)]
    · obtain rfl : i = j := by omega
      by_cases hn : i < l.length
      · have hu := hhi i hn (by omega)
        have hmem : mem l u = decide (l[i].f0 ≤ u) := by
          rw [Bool.eq_iff_iff, mem_iff, decide_eq_true_eq]
          constructor
          · rintro ⟨r, hr, h0, h1⟩
            obtain ⟨q, hq, rfl⟩ := List.getElem_of_mem hr
            have := fun hlt => hlo q hq hlt
            by_cases e : q = i
            · subst e; exact h0
            · have h3 := List.pairwise_iff_getElem.1 h.2 i q hn hq (by omega)
              omega
          · exact fun h0 => ⟨l[i], List.getElem_mem hn, h0, hu⟩
        refine ⟨(i : Int), Ev.step (f := fun _ => some ((i : Int), mem l u)) (fun k => ?_) (Ev.now _)⟩
        rw [api_Range_rune.l0, if_neg (by omega), if_pos (by omega), if_pos (by omega), if_pos (by omega), rdT l i hn, has1_is, if_neg (by omega), hmem]
        simp only [Option.bind_some]
        by_cases h0 : l[i].f0 ≤ u
        · rw [if_neg (by omega), decide_eq_true h0]; rfl
        · rw [if_pos (by omega), decide_eq_false h0]; rfl
      · have hmem : mem l u = false := by
          rw [← Bool.not_eq_true, mem_iff]
          rintro ⟨r, hr, h0, h1⟩
          obtain ⟨q, hq, rfl⟩ := List.getElem_of_mem hr
          have := hlo q hq (by omega)
          omega
        refine ⟨(i : Int), Ev.step (f := fun _ => some ((i : Int), mem l u)) (fun k => ?_) (Ev.now _)⟩
        rw [api_Range_rune.l0, if_neg (by omega), if_neg (by omega), hmem]
theorem has_is (l : List Rg) (u : Int) (hl : l.length ≤ 1073741824) (h : Sound l) : Ev (fun k => sets_has.f k l u) (mem l u) := by
  obtain ⟨p, hp⟩ := search0 l u hl h l.length 0 l.length (by omega) (by omega) (by omega) (by omega) (by omega)
  unfold sets_has.f api_Range_rune.f
  exact Ev.bind hp (Ev.now _)
theorem Has_is (l : List Rg) (u : Int) (hl : l.length ≤ 1073741824) (h : Sound l) : Ev (fun k => sets_Has.f k l u) (mem l u, 0) := by
  unfold sets_Has.f
  refine Ev.bind (check_is l hl h.r32) ?_
  rw [if_pos h]
  exact ev_if_pos rfl (Ev.bind (has_is l u hl h) (Ev.now _))
def kindOf (u : Int) : Int := if u < 55296 then 1 else if u ≤ 1114111 then 2 else 3
theorem kind_is (u : Int) : thistlelaw02_kind.f u = some (kindOf u) := by
  unfold thistlelaw02_kind.f kindOf
  repeat' split
  all_goals rfl
theorem okR_law (r : Rg) : okR r ↔ isU r.f0 = true ∧ isU r.f1 = true ∧ ¬ r.f0 > r.f1 ∧ kindOf r.f0 = kindOf r.f1 := by
  have a := bandOf_cases r.f0
  have b := bandOf_cases r.f1
  unfold okR isU kindOf
  simp only [decide_eq_true_eq]
  constructor
  · intro h
    refine ⟨by omega, by omega, by omega, ?_⟩
    repeat' split
    all_goals omega
  · rintro ⟨h1, h2, h3, h4⟩
    repeat' split at h4
    all_goals omega
theorem wakes_is : Ev (fun k => thistlelaw02_wakes.f k) true := by
  unfold thistlelaw02_wakes.f
  obtain ⟨g, hg, h1, h2, _⟩ := make_is [⟨100, 100⟩, ⟨97, 99⟩] (by simp) (by decide)
  have hs : Sound [(⟨97, 100⟩ : Rg)] := by decide
  have : g = [⟨97, 100⟩] := sound_ext g _ h1 hs fun u => by
    rw [h2]
    have c := bandOf_cases u
    unfold isU
    rw [Bool.eq_iff_iff, Bool.and_eq_true, mem_iff, mem_iff]
    simp only [List.mem_cons, List.not_mem_nil, or_false, exists_eq_or_imp, exists_eq_left, decide_eq_true_eq]
    omega
  subst this
  refine Ev.bind hg ?_
  exact ⟨0, fun k _ => rfl⟩
end Go.Proofs.YtoggmegpodmfnaaDoor.Q
namespace Go.Proofs.YtoggmegpodmfnaaDoor.Q
open Go.RowKit Go.Proofs.YtoggmegpodmfnaaDoorW.PrintWords Go.Proofs.YtoggmegpodmfnaaDoorW.PrintLast Go.Proofs.YtoggmegpodmfnaaDoorW.PrintMore Go.Proofs.YtoggmegpodmfnaaDoor.PY Go.Proofs.YtoggmegpodmfnaaDoor.B
set_option linter.unusedVariables false
set_option linter.unusedSimpArgs false
theorem sound_len0 : ∀ (l : List Rg) (m : Int), 0 ≤ m → m ≤ 1114368 → Sound l → (∀ r ∈ l, m ≤ r.f0) → (l.length : Int) ≤ 1114368 - m
  | [], m, h0, h1, _, _ => by simp; omega
  | x :: l, m, h0, h1, h, hm => by
    have hx := h.1 x (by simp)
    have hmx := hm x (by simp)
    obtain ⟨a0, a1, a2⟩ := hx
    have b := bandOf_cases x.f1
    have ih := sound_len0 l (x.f1 + 1) (by omega) (by omega) h.tail (fun r hr => by have := (List.pairwise_cons.1 h.2).1 r hr; omega)
    simp only [List.length_cons]
    omega
theorem sound_len {l : List Rg} (h : Sound l) : l.length ≤ 1114368 := by
  have := sound_len0 l 0 (by omega) (by omega) h (fun r hr => by have a := h.1 r hr; have b := bandOf_cases r.f0; obtain ⟨a0, _, _⟩ := a; omega)
  omega
def sz (l : List Rg) : Int := (l.map fun r => r.f1 - r.f0 + 1).sum
theorem sz_bound0 : ∀ (l : List Rg) (m : Int), 0 ≤ m → m ≤ 1114368 → Sound l → (∀ r ∈ l, m ≤ r.f0) → 0 ≤ sz l ∧ sz l ≤ 1114368 - m
  | [], m, h0, h1, _, _ => by simp [sz]; omega
  | x :: l, m, h0, h1, h, hm => by
    have hx := h.1 x (by simp)
    have hmx := hm x (by simp)
    obtain ⟨a0, a1, a2⟩ := hx
    have b := bandOf_cases x.f1
    have ih := sz_bound0 l (x.f1 + 1) (by omega) (by omega) h.tail (fun r hr => by have := (List.pairwise_cons.1 h.2).1 r hr; omega)
    have e : sz (x :: l) = x.f1 - x.f0 + 1 + sz l := by simp [sz]
    omega
theorem sz_bound {l : List Rg} (h : Sound l) : 0 ≤ sz l ∧ sz l ≤ 1114368 := by
  have := sz_bound0 l 0 (by omega) (by omega) h (fun r hr => by have a := h.1 r hr; have b := bandOf_cases r.f0; obtain ⟨a0, _, _⟩ := a; omega)
  omega
theorem sz_app (a b : List Rg) : sz (a ++ b) = sz a + sz b := by simp [sz]
theorem size0 (l : List Rg) (h : Sound l) : ∀ (d i : Nat), l.length - i = d → i ≤ l.length → Ev (fun k => sets_Size.l0 k (sz (l.take i)) l (l.length : Int) (i : Int)) (sz l, 0)
  | 0, i, hd, hi => by
    rw [List.take_of_length_le (by omega)]
    refine Ev.step (f := fun _ => some (sz l, 0)) (fun k => ?_) (Ev.now _)
    rw [sets_Size.l0, if_neg (by omega)]
  | d + 1, i, hd, hi => by
    have hi : i < l.length := by omega
    have hl := sound_len h
    have hx := h.1 l[i] (List.getElem_mem hi)
    obtain ⟨a0, a1, a2⟩ := hx
    have b0 := bandOf_cases l[i].f0
    have b1 := bandOf_cases l[i].f1
    have ht : l.take (i + 1) = l.take i ++ [l[i]] := by rw [List.take_add_one, List.getElem?_eq_getElem hi]; rfl
    have hs : Sound (l.take i) := ⟨fun r hr => h.1 r (List.mem_of_mem_take hr), h.2.sublist (List.take_sublist _ _)⟩
    have hb := sz_bound hs
    have e : sz (l.take (i + 1)) = sz (l.take i) + (l[i].f1 - l[i].f0 + 1) := by rw [ht, sz_app]; simp [sz]
    refine Ev.step (fun k => ?_) (size0 l h d (i + 1) (by omega) (by omega))
    rw [sets_Size.l0, if_pos (by omega), if_pos (by omega), if_pos (by omega), rdT l i hi, wrap32_of _ (by omega), wrap64_of (l[i].f1 - l[i].f0) (by omega), wrap64_of (l[i].f1 - l[i].f0 + 1) (by omega), wrap64_of _ (by omega), wrapS i (by omega), e]
theorem size_is (l : List Rg) (h : Sound l) : Ev (fun k => sets_Size.f k l) (sz l, 0) := by
  have hl := sound_len h
  unfold sets_Size.f
  refine Ev.bind (check_is l (by omega) h.r32) ?_
  rw [if_pos h]
  exact ev_if_pos rfl (by simpa [sz] using size0 l h l.length 0 (by omega) (by omega))
end Go.Proofs.YtoggmegpodmfnaaDoor.Q
namespace Go.Proofs.YtoggmegpodmfnaaDoor.Q
open Go.RowKit Go.Proofs.YtoggmegpodmfnaaDoorW.PrintWords Go.Proofs.YtoggmegpodmfnaaDoorW.PrintLast Go.Proofs.YtoggmegpodmfnaaDoorW.PrintMore Go.Proofs.YtoggmegpodmfnaaDoor.PY Go.Proofs.YtoggmegpodmfnaaDoor.B
set_option linter.unusedVariables false
set_option linter.unusedSimpArgs false
theorem piece_ok {r : Rg} (hr : okR r) {lo hi : Int} (h0 : r.f0 ≤ lo) (h1 : lo ≤ hi) (h2 : hi ≤ r.f1) : okR ⟨lo, hi⟩ := by
  obtain ⟨a0, a1, a2⟩ := hr
  have a := bandOf_cases r.f0
  have b := bandOf_cases r.f1
  have c := bandOf_cases lo
  have d := bandOf_cases hi
  refine ⟨?_, ?_, h1⟩
  · show 0 ≤ bandOf lo; omega
  · show bandOf lo = bandOf hi; omega
theorem mem_single (lo hi u : Int) : mem [(⟨lo, hi⟩ : Rg)] u = decide (lo ≤ u ∧ u ≤ hi) := by simp [mem]
theorem wo2 (a b : List Rg) (ha : Sound a) (hb : Sound b) (i ki : Nat) (hi : i < a.length) (out0 : List Rg) (hm0 : ∀ u, mem out0 u = (mem (a.take i) u && !mem b u))
    (R : List Rg) (next : ∀ out2 : List Rg, Sound out2 → (∀ x ∈ out2, x.f1 ≤ a[i].f1) → (∀ u, mem out2 u = (mem (a.take (i + 1)) u && !mem b u)) → Ev (fun k => sets_without.l0 k b out2 (ki : Int) a (a.length : Int) ((i + 1 : Nat) : Int)) R)
    : ∀ (d j : Nat) (out : List Rg) (lo : Int), b.length - j = d → a[i].f0 ≤ lo → lo ≤ 1114369 → Sound out → (∀ x ∈ out, x.f1 + 1 < lo ∧ x.f1 ≤ a[i].f1) → (∀ q (hq : q < b.length), q < j → b[q].f1 < lo) → (∀ q (hq : q < b.length), j ≤ q → lo ≤ b[q].f1) →
      (∀ u, mem out u = (mem out0 u || (decide (a[i].f0 ≤ u ∧ u < lo ∧ u ≤ a[i].f1) && !mem b u))) → Ev (fun k => sets_without.l2 k b out (ki : Int) (j : Int) a (a.length : Int) (i : Int) lo a[i].f1) R := by
  have har := ha.1 a[i] (List.getElem_mem hi)
  have har32 := okR_r32 har
  unfold R32 I32 at har32
  have hal := sound_len ha
  have hbl := sound_len hb
  have fin : ∀ (j : Nat) (out : List Rg) (lo : Int), a[i].f0 ≤ lo → lo ≤ 1114369 → Sound out → (∀ x ∈ out, x.f1 + 1 < lo ∧ x.f1 ≤ a[i].f1) → (∀ q (hq : q < b.length), q < j → b[q].f1 < lo) → (∀ q (hq : q < b.length), j ≤ q → a[i].f1 < b[q].f0) →
      (∀ u, mem out u = (mem out0 u || (decide (a[i].f0 ≤ u ∧ u < lo ∧ u ≤ a[i].f1) && !mem b u))) → Ev (fun k => sets_without.j4 k b out (ki : Int) (j : Int) a (a.length : Int) (i : Int) false lo a[i].f1) R := by
    intro j out lo h0 h1 hso hx hq hq2 hm
    have hol := sound_len hso
    have hnb : ∀ u, lo ≤ u → u ≤ a[i].f1 → mem b u = false := by
      intro u hu1 hu2
      rw [← Bool.not_eq_true, mem_iff]
      rintro ⟨r, hr, hr0, hr1⟩
      obtain ⟨q, hqb, rfl⟩ := List.getElem_of_mem hr
      by_cases hqj : q < j
      · have := hq q hqb hqj; omega
      · have := hq2 q hqb (by omega); omega
    by_cases hle : lo ≤ a[i].f1
    · refine Ev.step (fun k => ?_) (next (out ++ [⟨lo, a[i].f1⟩]) (by rw [sound_snoc]; exact ⟨hso, piece_ok har h0 hle (Int.le_refl _), fun x hxo => (hx x hxo).1⟩) (fun x hxo => by
        rw [List.mem_append] at hxo
        rcases hxo with hxo | hxo
        · exact (hx x hxo).2
        · rw [List.mem_singleton] at hxo; subst hxo; exact Int.le_refl _) (fun u => ?_))
      · rw [sets_without.j4, if_neg (by simp), if_pos hle, if_pos (by omega), wrapS i (by omega)]
      · rw [mem_app, mem_single, hm, hm0, mem_take a i hi, mem_single]
        by_cases hu : lo ≤ u ∧ u ≤ a[i].f1
        · rw [decide_eq_true hu, hnb u hu.1 hu.2, decide_eq_true (show a[i].f0 ≤ u ∧ u ≤ a[i].f1 from ⟨by omega, hu.2⟩)]; simp
        · rw [decide_eq_false hu, Bool.or_false]
          have : decide (a[i].f0 ≤ u ∧ u < lo ∧ u ≤ a[i].f1) = decide (a[i].f0 ≤ u ∧ u ≤ a[i].f1) := by rw [decide_eq_decide]; omega
          rw [this, Bool.and_or_distrib_right]
    · refine Ev.step (fun k => ?_) (next out hso (fun x hxo => (hx x hxo).2) (fun u => ?_))
      · rw [sets_without.j4, if_neg (by simp), if_neg hle, wrapS i (by omega)]
      · rw [hm, hm0, mem_take a i hi, mem_single]
        have : decide (a[i].f0 ≤ u ∧ u < lo ∧ u ≤ a[i].f1) = decide (a[i].f0 ≤ u ∧ u ≤ a[i].f1) := by rw [decide_eq_decide]; omega
        rw [this, Bool.and_or_distrib_right]
  intro d
  induction d with
  | zero =>
    intro j out lo hd h0 h1 hso hx hq hqg hm
    refine Ev.step (fun k => ?_) (fin j out lo h0 h1 hso hx hq (fun q hq hj => by omega) hm)
    rw [sets_without.l2, if_neg (by omega)]
  | succ d ih =>
    intro j out lo hd h0 h1 hso hx hq hqg hm
    have hj : j < b.length := by omega
    have hbr := hb.1 b[j] (List.getElem_mem hj)
    have hbr1 := hbr.2.2
    have hbc := bandOf_cases b[j].f1
    have hb0c := bandOf_cases b[j].f0
    have hol := sound_len hso
    obtain ⟨bb0, bb1, bb2⟩ := hbr
    have hqg' : ∀ q (hq : q < b.length), j + 1 ≤ q → b[j].f1 + 1 ≤ b[q].f1 := by
      intro q hqb hqj
      have h1 := List.pairwise_iff_getElem.1 hb.2 j q hj hqb (by omega)
      have h2 := (hb.1 b[q] (List.getElem_mem hqb)).2.2
      omega
    have hge := hqg j hj (Nat.le_refl _)
    by_cases hc : b[j].f0 ≤ a[i].f1
    · have hq' : ∀ q (hq : q < b.length), q < j + 1 → b[q].f1 < b[j].f1 + 1 := by
        intro q hqb hqj
        by_cases e : q = j
        · subst e; omega
        · have := List.pairwise_iff_getElem.1 hb.2 q j hqb hj (by omega); omega
      by_cases hlt : b[j].f0 > lo
      · have h2 := ih (j + 1) (out ++ [⟨lo, b[j].f0 - 1⟩]) (b[j].f1 + 1) (by omega) (by omega) (by omega)
          (by rw [sound_snoc]; exact ⟨hso, piece_ok har h0 (by omega) (by omega), fun x hxo => (hx x hxo).1⟩)
          (fun x hxo => by
            rw [List.mem_append] at hxo
            rcases hxo with hxo | hxo
            · have := hx x hxo; omega
            · rw [List.mem_singleton] at hxo; subst hxo; simp only; omega) hq' hqg' (fun u => by
            rw [mem_app, mem_single, hm]
            have hin : b[j].f0 ≤ u → u ≤ b[j].f1 → mem b u = true := fun h1 h2 => (mem_iff b u).2 ⟨b[j], List.getElem_mem hj, h1, h2⟩
            have hout : lo ≤ u → u < b[j].f0 → mem b u = false := by
              intro hu1 hu2
              rw [← Bool.not_eq_true, mem_iff]
              rintro ⟨r, hr, hr0, hr1⟩
              obtain ⟨q, hqb, rfl⟩ := List.getElem_of_mem hr
              by_cases hqj : q < j
              · have := hq q hqb hqj; omega
              · by_cases e : q = j
                · subst e; omega
                · have := List.pairwise_iff_getElem.1 hb.2 j q hj hqb (by omega); omega
            by_cases hu1 : lo ≤ u ∧ u ≤ b[j].f0 - 1
            · rw [decide_eq_true hu1, hout hu1.1 (by omega), decide_eq_true (show a[i].f0 ≤ u ∧ u < b[j].f1 + 1 ∧ u ≤ a[i].f1 from ⟨by omega, by omega, by omega⟩)]; simp
            · rw [decide_eq_false hu1, Bool.or_false]
              by_cases hu2 : b[j].f0 ≤ u ∧ u ≤ b[j].f1
              · rw [hin hu2.1 hu2.2]; simp
              · have : decide (a[i].f0 ≤ u ∧ u < lo ∧ u ≤ a[i].f1) = decide (a[i].f0 ≤ u ∧ u < b[j].f1 + 1 ∧ u ≤ a[i].f1) := by rw [decide_eq_decide]; omega
                rw [this])
        refine Ev.step (f := fun k => sets_without.j4 k b out (ki : Int) (j : Int) a (a.length : Int) (i : Int) true lo a[i].f1) (fun k => ?_) (Ev.step (fun k => ?_) h2)
        · rw [sets_without.l2, if_pos (by omega), if_pos (by omega), rdT b j hj, decide_eq_true hc]
        · rw [sets_without.j4, if_pos rfl, if_pos (by omega), if_pos (by omega), rdT b j hj, if_pos hlt, if_pos (by omega), wrapS j (by omega), wrap32_of _ (by omega), wrap32_of _ (by omega)]
      · have h2 : Ev (fun k => sets_without.l2 k b out (ki : Int) ((j + 1 : Nat) : Int) a (a.length : Int) (i : Int) (b[j].f1 + 1) a[i].f1) R := by
          refine ih (j + 1) out (b[j].f1 + 1) (by omega) (by omega) (by omega) hso (fun x hxo => by have := hx x hxo; omega) hq' hqg' (fun u => by
              rw [hm]
              have hin : b[j].f0 ≤ u → u ≤ b[j].f1 → mem b u = true := fun h1 h2 => (mem_iff b u).2 ⟨b[j], List.getElem_mem hj, h1, h2⟩
              by_cases hu2 : b[j].f0 ≤ u ∧ u ≤ b[j].f1
              · rw [hin hu2.1 hu2.2]; simp
              · have : decide (a[i].f0 ≤ u ∧ u < lo ∧ u ≤ a[i].f1) = decide (a[i].f0 ≤ u ∧ u < b[j].f1 + 1 ∧ u ≤ a[i].f1) := by rw [decide_eq_decide]; omega
                rw [this])
        refine Ev.step (f := fun k => sets_without.j4 k b out (ki : Int) (j : Int) a (a.length : Int) (i : Int) true lo a[i].f1) (fun k => ?_) (Ev.step (fun k => ?_) h2)
        · rw [sets_without.l2, if_pos (by omega), if_pos (by omega), rdT b j hj, decide_eq_true hc]
        · rw [sets_without.j4, if_pos rfl, if_pos (by omega), if_pos (by omega), rdT b j hj, if_neg hlt, wrapS j (by omega), wrap32_of _ (by omega)]
    · refine Ev.step (fun k => ?_) (fin j out lo h0 h1 hso hx hq (fun q hqb hjq => by
        by_cases e : q = j
        · subst e; omega
        · have := List.pairwise_iff_getElem.1 hb.2 j q hj hqb (by omega); omega) hm)
      rw [sets_without.l2, if_pos (by omega), if_pos (by omega), rdT b j hj, decide_eq_false hc]
theorem wo1 (a b : List Rg) (ha : Sound a) (hb : Sound b) (i : Nat) (hi : i < a.length) (out : List Rg) (hso : Sound out) (hx : ∀ x ∈ out, x.f1 + 1 < a[i].f0) (hm0 : ∀ u, mem out u = (mem (a.take i) u && !mem b u))
    (R : List Rg) (next : ∀ (ki : Nat) (out2 : List Rg), ki ≤ b.length → Sound out2 → (∀ x ∈ out2, x.f1 ≤ a[i].f1) → (∀ q (hq : q < b.length), q < ki → b[q].f1 < a[i].f0) → (∀ u, mem out2 u = (mem (a.take (i + 1)) u && !mem b u)) → Ev (fun k => sets_without.l0 k b out2 (ki : Int) a (a.length : Int) ((i + 1 : Nat) : Int)) R) :
    ∀ (d ki : Nat), b.length - ki = d → ki ≤ b.length → (∀ q (hq : q < b.length), q < ki → b[q].f1 < a[i].f0) → Ev (fun k => sets_without.l1 k b out (ki : Int) a (a.length : Int) (i : Int) a[i].f0 a[i].f1) R := by
  have har := ha.1 a[i] (List.getElem_mem hi)
  have hac := bandOf_cases a[i].f0
  have hbl := sound_len hb
  obtain ⟨a0, a1, a2⟩ := har
  have stop : ∀ ki : Nat, ki ≤ b.length → (∀ q (hq : q < b.length), q < ki → b[q].f1 < a[i].f0) → (∀ q (hq : q < b.length), ki ≤ q → a[i].f0 ≤ b[q].f1) → Ev (fun k => sets_without.j2 k b out (ki : Int) a (a.length : Int) (i : Int) a[i].f0 a[i].f1) R := by
    intro ki hk h1 h2
    refine Ev.step (fun k => ?_) (wo2 a b ha hb i ki hi out hm0 R (fun out2 g1 g2 g3 => next ki out2 hk g1 g2 h1 g3) (b.length - ki) ki out a[i].f0 rfl (Int.le_refl _) (by omega) hso (fun x hxo => by have := hx x hxo; omega) h1 h2 (fun u => ?_))
    · rw [sets_without.j2]
    · rw [decide_eq_false (show ¬ (a[i].f0 ≤ u ∧ u < a[i].f0 ∧ u ≤ a[i].f1) by omega)]; simp
  intro d
  induction d with
  | zero =>
    intro ki hd hk h1
    refine Ev.step (fun k => ?_) (stop ki hk h1 (fun q hq hqk => by omega))
    rw [sets_without.l1, if_neg (by omega)]
  | succ d ih =>
    intro ki hd hk h1
    have hki : ki < b.length := by omega
    by_cases hc : b[ki].f1 < a[i].f0
    · refine Ev.step (fun k => ?_) (ih (ki + 1) (by omega) (by omega) (fun q hq hqk => by
        by_cases e : q = ki
        · subst e; exact hc
        · exact h1 q hq (by omega)))
      rw [sets_without.l1, if_pos (by omega), if_pos (by omega), rdT b ki hki, if_pos hc, wrapS ki (by omega)]
    · refine Ev.step (fun k => ?_) (stop ki hk h1 (fun q hq hqk => by
        by_cases e : q = ki
        · subst e; omega
        · have h3 := List.pairwise_iff_getElem.1 hb.2 ki q hki hq (by omega)
          have h4 := (hb.1 b[q] (List.getElem_mem hq)).2.2
          omega))
      rw [sets_without.l1, if_pos (by omega), if_pos (by omega), rdT b ki hki, if_neg hc]
theorem set_of (p : Int → Bool) (hp : ∀ u, p u = true → isU u = true) : ∃ R, Sound R ∧ ∀ u, mem R u = p u := by
  obtain ⟨g, _, h1, h2, _⟩ := gather_is (((List.range 1114368).filter fun n : Nat => p (n : Int)).map fun n : Nat => (⟨(n : Int), (n : Int)⟩ : Rg)) (by
    rw [List.length_map]
    have := List.length_filter_le (fun n : Nat => p (n : Int)) (List.range 1114368)
    rw [List.length_range] at this
    omega) (fun r hr => by
    obtain ⟨n, hn, rfl⟩ := List.mem_map.1 hr
    have h := hp _ (List.mem_filter.1 hn).2
    unfold isU at h
    exact ⟨by simpa using h, rfl, Int.le_refl _⟩)
  refine ⟨g, h1, fun u => ?_⟩
  rw [h2, Bool.eq_iff_iff, mem_iff]
  constructor
  · rintro ⟨r, hr, h3, h4⟩
    obtain ⟨n, hn, rfl⟩ := List.mem_map.1 hr
    simp only at h3 h4
    obtain rfl : u = (n : Int) := by omega
    exact (List.mem_filter.1 hn).2
  · intro h
    have hu := hp u h
    have hc := bandOf_cases u
    unfold isU at hu
    simp only [decide_eq_true_eq] at hu
    obtain ⟨n, rfl⟩ := Int.eq_ofNat_of_zero_le (show 0 ≤ u by omega)
    exact ⟨⟨(n : Int), (n : Int)⟩, List.mem_map.2 ⟨n, List.mem_filter.2 ⟨List.mem_range.2 (by omega), h⟩, rfl⟩, Int.le_refl _, Int.le_refl _⟩
theorem wo0 (a b : List Rg) (ha : Sound a) (hb : Sound b) : ∀ (d i ki : Nat) (out : List Rg), a.length - i = d → i ≤ a.length → ki ≤ b.length → Sound out → (∀ x ∈ out, ∀ r ∈ a.drop i, x.f1 + 1 < r.f0) → (∀ q (hq : q < b.length), q < ki → ∀ r ∈ a.drop i, b[q].f1 < r.f0) →
    (∀ u, mem out u = (mem (a.take i) u && !mem b u)) → ∃ R, Ev (fun k => sets_without.l0 k b out (ki : Int) a (a.length : Int) (i : Int)) R ∧ Sound R ∧ ∀ u, mem R u = (mem a u && !mem b u)
  | 0, i, ki, out, hd, hi, hk, hso, hx, hq, hm => by
    rw [List.take_of_length_le (by omega)] at hm
    refine ⟨out, Ev.step (f := fun _ => some out) (fun k => ?_) (Ev.now _), hso, hm⟩
    rw [sets_without.l0, if_neg (by omega)]
  | d + 1, i, ki, out, hd, hi, hk, hso, hx, hq, hm => by
    have hi : i < a.length := by omega
    have hal := sound_len ha
    have hdr : a.drop i = a[i] :: a.drop (i + 1) := List.drop_eq_getElem_cons hi
    have hmem : a[i] ∈ a.drop i := by rw [hdr]; exact List.mem_cons_self
    have hgap : ∀ r ∈ a.drop (i + 1), a[i].f1 + 1 < r.f0 := by
      have := (List.pairwise_append.1 (by rw [List.take_append_drop i a]; exact ha.2 : (a.take i ++ a.drop i).Pairwise _)).2.1
      rw [hdr] at this
      exact (List.pairwise_cons.1 this).1
    have har := (ha.1 a[i] (List.getElem_mem hi)).2.2
    obtain ⟨R0, hR0⟩ : ∃ R0 : List Rg, Sound R0 ∧ ∀ u, mem R0 u = (mem a u && !mem b u) := by
      exact set_of (fun u => mem a u && !mem b u) (fun u hu => ha.unit (by simp only [Bool.and_eq_true] at hu; exact hu.1))
    refine ⟨R0, ?_, hR0⟩
    refine Ev.step (fun k => ?_) (wo1 a b ha hb i hi out hso (fun x hxo => hx x hxo _ hmem) hm R0 (fun k2 out2 h1 h2 h3 h4 h5 => ?_) (b.length - ki) ki rfl hk (fun q hqb hqk => hq q hqb hqk _ hmem))
    · rw [sets_without.l0, if_pos (by omega), if_pos (by omega), if_pos (by omega), rdT a i hi]
    · obtain ⟨R, hR, hs, hmR⟩ := wo0 a b ha hb d (i + 1) k2 out2 (by omega) (by omega) h1 h2 (fun x hxo r hr => by have := h3 x hxo; have := hgap r hr; omega) (fun q hqb hqk r hr => by have := h4 q hqb hqk; have := hgap r hr; omega) h5
      have : R = R0 := sound_ext R R0 hs hR0.1 (fun u => (hmR u).trans (hR0.2 u).symm)
      rw [← this]; exact hR
theorem without_is (a b : List Rg) (ha : Sound a) (hb : Sound b) : ∃ R, Ev (fun k => sets_without.f k a b) R ∧ Sound R ∧ ∀ u, mem R u = (mem a u && !mem b u) := by
  unfold sets_without.f
  exact wo0 a b ha hb a.length 0 0 [] (by omega) (by omega) (by omega) ⟨by simp, by simp⟩ (by simp) (fun q hq hq0 => by omega) (fun u => by simp [mem])
theorem checks_two (a b : List Rg) (ha : Sound a) (hb : Sound b) : Ev (fun k => sets_check.f k [a, b]) 0 := by
  have hal := sound_len ha
  have hbl := sound_len hb
  unfold sets_check.f
  refine Ev.step (f := fun k => (sets_Check.f k a).bind fun t191 => if t191 = 0 then sets_check.l0 k [a, b] 2 1 else some 1) (fun k => ?_) (Ev.bind (check_is a (by omega) ha.r32) ?_)
  · rw [sets_check.l0, if_pos (by simp), if_pos (by omega), if_pos (by simp), show rd_L2 [a, b] 0 = a from rfl, show wrap64 (0 + 1) = 1 by unfold wrap64; omega]; rfl
  · rw [if_pos ha]
    refine ev_if_pos rfl (Ev.step (f := fun k => (sets_Check.f k b).bind fun t191 => if t191 = 0 then sets_check.l0 k [a, b] 2 2 else some 1) (fun k => ?_) (Ev.bind (check_is b (by omega) hb.r32) ?_))
    · rw [sets_check.l0, if_pos (by omega), if_pos (by omega), if_pos (by simp), show rd_L2 [a, b] 1 = b from rfl, show wrap64 (1 + 1) = 2 by unfold wrap64; omega]
    · rw [if_pos hb]
      exact ev_if_pos rfl (Ev.step (f := fun _ => some 0) (fun k => by rw [sets_check.l0, if_neg (by omega)]) (Ev.now _))
theorem or_is (a b : List Rg) (ha : Sound a) (hb : Sound b) : ∃ R, Ev (fun k => sets_Or.f k a b) (R, 0) ∧ Sound R ∧ ∀ u, mem R u = (mem a u || mem b u) := by
  have hal := sound_len ha
  have hbl := sound_len hb
  obtain ⟨g, hg, h1, h2, _⟩ := gather_is (a ++ b) (by simp; omega) (fun r hr => by
    rw [List.mem_append] at hr
    rcases hr with hr | hr
    · exact ha.1 r hr
    · exact hb.1 r hr)
  refine ⟨g, ?_, h1, fun u => by rw [h2, mem_app]⟩
  unfold sets_Or.f
  refine Ev.bind (checks_two a b ha hb) (ev_if_pos rfl (evb0 (a := a ++ b) ?_ (Ev.bind hg (Ev.now _))))
  show (if ([a, b] : List (List Rg)).flatten.length ≤ 4294967296 then some ([a, b] : List (List Rg)).flatten else none) = some (a ++ b)
  have : ([a, b] : List (List Rg)).flatten = a ++ b := by simp
  rw [this, if_pos (by simp; omega)]
theorem minus_is (a b : List Rg) (ha : Sound a) (hb : Sound b) : ∃ R, Ev (fun k => sets_Minus.f k a b) (R, 0) ∧ Sound R ∧ ∀ u, mem R u = (mem a u && !mem b u) := by
  obtain ⟨R, hR, h⟩ := without_is a b ha hb
  refine ⟨R, ?_, h⟩
  unfold sets_Minus.f
  exact Ev.bind (checks_two a b ha hb) (ev_if_pos rfl (Ev.bind hR (Ev.now _)))
def allB : List Rg := [⟨0, 55295⟩, ⟨57344, 1114111⟩, ⟨1114240, 1114367⟩]
theorem allB_sound : Sound allB := by decide
theorem allB_mem (u : Int) : mem allB u = isU u := by
  have c := bandOf_cases u
  unfold allB isU
  rw [Bool.eq_iff_iff, mem_iff]
  simp only [List.mem_cons, List.not_mem_nil, or_false, exists_eq_or_imp, exists_eq_left, decide_eq_true_eq]
  omega
theorem and_is (a b : List Rg) (ha : Sound a) (hb : Sound b) : ∃ R, Ev (fun k => sets_And.f k a b) (R, 0) ∧ Sound R ∧ ∀ u, mem R u = (mem a u && mem b u) := by
  obtain ⟨N, hN, hNs, hNm⟩ := without_is allB b allB_sound hb
  obtain ⟨R, hR, hRs, hRm⟩ := without_is a N ha hNs
  refine ⟨R, ?_, hRs, fun u => ?_⟩
  · unfold sets_And.f
    exact Ev.bind (checks_two a b ha hb) (ev_if_pos rfl (Ev.bind hN (Ev.bind hR (Ev.now _))))
  · rw [hRm, hNm, allB_mem]
    cases hm : mem a u with
    | false => simp
    | true => rw [ha.unit hm]; simp
theorem not_is (a : List Rg) (ha : Sound a) : ∃ R, Ev (fun k => sets_Not.f k a) (R, 0) ∧ Sound R ∧ ∀ u, mem R u = (isU u && !mem a u) := by
  have hal := sound_len ha
  obtain ⟨N, hN, hNs, hNm⟩ := without_is allB a allB_sound ha
  refine ⟨N, ?_, hNs, fun u => by rw [hNm, allB_mem]⟩
  unfold sets_Not.f
  refine Ev.bind (check_is a (by omega) ha.r32) ?_
  rw [if_pos ha]
  exact ev_if_pos rfl (Ev.bind hN (Ev.now _))
def allR : List Rg := [⟨0, 55295⟩, ⟨57344, 1114111⟩]
theorem allR_sound : Sound allR := by decide
theorem allR_mem (u : Int) : mem allR u = (isU u && decide (u ≤ 1114111)) := by
  have c := bandOf_cases u
  unfold allR isU
  rw [Bool.eq_iff_iff, mem_iff]
  simp only [List.mem_cons, List.not_mem_nil, or_false, exists_eq_or_imp, exists_eq_left, decide_eq_true_eq, Bool.and_eq_true]
  omega
theorem notRunes_is (a : List Rg) (ha : Sound a) : ∃ R, Ev (fun k => sets_NotRunes.f k a) (R, 0) ∧ Sound R ∧ ∀ u, mem R u = (isU u && decide (u ≤ 1114111) && !mem a u) := by
  have hal := sound_len ha
  obtain ⟨N, hN, hNs, hNm⟩ := without_is allR a allR_sound ha
  refine ⟨N, ?_, hNs, fun u => by rw [hNm, allR_mem]⟩
  unfold sets_NotRunes.f
  refine Ev.bind (check_is a (by omega) ha.r32) ?_
  rw [if_pos ha]
  exact ev_if_pos rfl (Ev.bind hN (Ev.now _))
def cnt (p : Int → Bool) : Nat := (List.range 1114368).countP fun u : Nat => p (u : Int)
end Go.Proofs.YtoggmegpodmfnaaDoor.Q
namespace Go.Proofs.YtoggmegpodmfnaaDoor.Q
open Go.RowKit Go.Proofs.YtoggmegpodmfnaaDoorW.PrintWords Go.Proofs.YtoggmegpodmfnaaDoorW.PrintLast Go.Proofs.YtoggmegpodmfnaaDoorW.PrintMore Go.Proofs.YtoggmegpodmfnaaDoor.PY Go.Proofs.YtoggmegpodmfnaaDoor.B
set_option linter.unusedVariables false
set_option linter.unusedSimpArgs false
theorem checks_no {a b : List Rg} (ha : a.length ≤ 1073741824) (hb : b.length ≤ 1073741824) (hra : ∀ r ∈ a, R32 r) (hrb : ∀ r ∈ b, R32 r) (h : ¬ (Sound a ∧ Sound b)) : Ev (fun k => sets_check.f k [a, b]) 1 := by
  unfold sets_check.f
  refine Ev.step (f := fun k => (sets_Check.f k a).bind fun t191 => if t191 = 0 then sets_check.l0 k [a, b] 2 1 else some 1) (fun k => ?_) (Ev.bind (check_is a ha hra) ?_)
  · rw [sets_check.l0, if_pos (by simp), if_pos (by omega), if_pos (by simp), show rd_L2 [a, b] 0 = a from rfl, show wrap64 (0 + 1) = 1 by unfold wrap64; omega]; rfl
  · by_cases hs : Sound a
    · rw [if_pos hs]
      have hb2 : ¬ Sound b := fun h2 => h ⟨hs, h2⟩
      refine ev_if_pos rfl (Ev.step (f := fun k => (sets_Check.f k b).bind fun t191 => if t191 = 0 then sets_check.l0 k [a, b] 2 2 else some 1) (fun k => ?_) (Ev.bind (check_is b hb hrb) ?_))
      · rw [sets_check.l0, if_pos (by omega), if_pos (by omega), if_pos (by simp), show rd_L2 [a, b] 1 = b from rfl, show wrap64 (1 + 1) = 2 by unfold wrap64; omega]
      · rw [if_neg hb2]
        exact ev_if_neg (by decide) (Ev.now _)
    · rw [if_neg hs]
      exact ev_if_neg (by decide) (Ev.now _)
section
variable {a b : List Rg} (ha : a.length ≤ 1073741824) (hb : b.length ≤ 1073741824) (hra : ∀ r ∈ a, R32 r) (hrb : ∀ r ∈ b, R32 r)
include ha hra
theorem or_no (hb : b.length ≤ 1073741824) (hrb : ∀ r ∈ b, R32 r) (h : ¬ (Sound a ∧ Sound b)) : Ev (fun k => sets_Or.f k a b) ([], 1) := by
  unfold sets_Or.f
  exact Ev.bind (checks_no ha hb hra hrb h) (ev_if_neg (by decide) (Ev.now _))
theorem and_no (hb : b.length ≤ 1073741824) (hrb : ∀ r ∈ b, R32 r) (h : ¬ (Sound a ∧ Sound b)) : Ev (fun k => sets_And.f k a b) ([], 1) := by
  unfold sets_And.f
  exact Ev.bind (checks_no ha hb hra hrb h) (ev_if_neg (by decide) (Ev.now _))
theorem minus_no (hb : b.length ≤ 1073741824) (hrb : ∀ r ∈ b, R32 r) (h : ¬ (Sound a ∧ Sound b)) : Ev (fun k => sets_Minus.f k a b) ([], 1) := by
  unfold sets_Minus.f
  exact Ev.bind (checks_no ha hb hra hrb h) (ev_if_neg (by decide) (Ev.now _))
theorem check_no (h : ¬ Sound a) : Ev (fun k => sets_Check.f k a) 1 := by
  have := check_is a ha hra
  rw [if_neg h] at this
  exact this
theorem not_no (h : ¬ Sound a) : Ev (fun k => sets_Not.f k a) ([], 1) := by
  unfold sets_Not.f
  exact Ev.bind (check_no ha hra h) (ev_if_neg (by decide) (Ev.now _))
theorem notRunes_no (h : ¬ Sound a) : Ev (fun k => sets_NotRunes.f k a) ([], 1) := by
  unfold sets_NotRunes.f
  exact Ev.bind (check_no ha hra h) (ev_if_neg (by decide) (Ev.now _))
theorem has_no (u : Int) (h : ¬ Sound a) : Ev (fun k => sets_Has.f k a u) (false, 1) := by
  unfold sets_Has.f
  exact Ev.bind (check_no ha hra h) (ev_if_neg (by decide) (Ev.now _))
theorem size_no (h : ¬ Sound a) : Ev (fun k => sets_Size.f k a) (0, 1) := by
  unfold sets_Size.f
  exact Ev.bind (check_no ha hra h) (ev_if_neg (by decide) (Ev.now _))
theorem pick_no (n : Int) (h : ¬ Sound a) : Ev (fun k => sets_Pick.f k a n) (0, 1) := by
  unfold sets_Pick.f
  exact Ev.bind (check_no ha hra h) (ev_if_neg (by decide) (Ev.now _))
theorem parts_no (hb : b.length ≤ 1073741824) (hrb : ∀ r ∈ b, R32 r) (h : ¬ (Sound a ∧ Sound b)) : Ev (fun k => sets_Parts.f k [a, b]) ([], 1) := by
  unfold sets_Parts.f
  exact Ev.bind (checks_no ha hb hra hrb h) (ev_if_neg (by decide) (Ev.now _))
end
end Go.Proofs.YtoggmegpodmfnaaDoor.Q
namespace Go.Proofs.YtoggmegpodmfnaaDoor.Q
open Go.RowKit Go.Proofs.YtoggmegpodmfnaaDoorW.PrintWords Go.Proofs.YtoggmegpodmfnaaDoorW.PrintLast Go.Proofs.YtoggmegpodmfnaaDoorW.PrintMore Go.Proofs.YtoggmegpodmfnaaDoor.PY Go.Proofs.YtoggmegpodmfnaaDoor.B
set_option linter.unusedVariables false
set_option linter.unusedSimpArgs false
def uR (r : Rg) : List Int := (List.range (r.f1 - r.f0 + 1).toNat).map fun i : Nat => r.f0 + (i : Int)
def units (l : List Rg) : List Int := l.flatMap uR
theorem uR_len (r : Rg) : (uR r).length = (r.f1 - r.f0 + 1).toNat := by simp [uR]
theorem units_app (a b : List Rg) : units (a ++ b) = units a ++ units b := by simp [units]
theorem units_one (r : Rg) : units [r] = uR r := by simp [units]
theorem units_cons (r : Rg) (l : List Rg) : units (r :: l) = uR r ++ units l := by simp [units]
theorem units_take (l : List Rg) (i : Nat) (h : i < l.length) : units (l.take (i + 1)) = units (l.take i) ++ uR l[i] := by
  rw [List.take_succ_eq_append_getElem h, units_app, units_one]
theorem units_split (l : List Rg) (i : Nat) (h : i < l.length) : units l = units (l.take i) ++ uR l[i] ++ units (l.drop (i + 1)) := by
  conv => lhs; rw [← List.take_append_drop (i + 1) l, units_app, units_take l i h]
theorem rd_left (a b : List Int) (k : Int) (h0 : 0 ≤ k) (h : k < a.length) : rd (a ++ b) k = rd a k := by
  unfold rd
  rw [List.getD_eq_getElem?_getD, List.getElem?_append_left (by omega), List.getD_eq_getElem?_getD]
theorem rd_right (a b : List Int) (k : Int) (h : (a.length : Int) ≤ k) : rd (a ++ b) k = rd b (k - a.length) := by
  unfold rd
  rw [List.getD_eq_getElem?_getD, List.getElem?_append_right (by omega), List.getD_eq_getElem?_getD]
  congr 2
  omega
theorem rd_uR (r : Rg) (k : Int) (h0 : 0 ≤ k) (h : k < r.f1 - r.f0 + 1) : rd (uR r) k = r.f0 + k := by
  unfold rd uR
  rw [List.getD_eq_getElem?_getD, List.getElem?_map, List.getElem?_range (by omega)]
  simp
  omega
theorem sz_cons (r : Rg) (l : List Rg) : sz (r :: l) = r.f1 - r.f0 + 1 + sz l := by simp [sz]
theorem pick0 (l : List Rg) (h : Sound l) : ∀ (d i : Nat) (k : Int), l.length - i = d → i ≤ l.length → 0 ≤ k → k ≤ 9223372036854775807 →
    Ev (fun n => sets_Pick.l0 n k l (l.length : Int) (i : Int)) (if k < sz (l.drop i) then (rd (units (l.drop i)) k, 0) else (0, 2))
  | 0, i, k, hd, hi, h0, hk => by
    have : l.drop i = [] := List.drop_eq_nil_of_le (by omega)
    rw [this, if_neg (by simp [sz]; omega)]
    refine Ev.step (f := fun _ => some (0, 2)) (fun n => ?_) (Ev.now _)
    rw [sets_Pick.l0, if_neg (by omega)]
  | d + 1, i, k, hd, hi, h0, hk => by
    have hi : i < l.length := by omega
    have hl := sound_len h
    have hx := h.1 l[i] (List.getElem_mem hi)
    obtain ⟨a0, a1, a2⟩ := hx
    have b0 := bandOf_cases l[i].f0
    have b1 := bandOf_cases l[i].f1
    have hdr : l.drop i = l[i] :: l.drop (i + 1) := by rw [List.drop_eq_getElem_cons hi]
    have e : sz (l.drop i) = l[i].f1 - l[i].f0 + 1 + sz (l.drop (i + 1)) := by rw [hdr, sz_cons]
    have hs : Sound (l.drop (i + 1)) := ⟨fun r hr => h.1 r (List.mem_of_mem_drop hr), h.2.sublist (List.drop_sublist _ _)⟩
    have hb := sz_bound hs
    have hn : ∀ n, sets_Pick.l0 (n + 1) k l (l.length : Int) (i : Int) = if k < l[i].f1 - l[i].f0 + 1 then some (l[i].f0 + k, 0) else sets_Pick.l0 n (k - (l[i].f1 - l[i].f0 + 1)) l (l.length : Int) ((i + 1 : Nat) : Int) := by
      intro n
      rw [sets_Pick.l0, if_pos (by omega), if_pos (by omega), if_pos (by omega), rdT l i hi, wrap32_of (l[i].f1 - l[i].f0) (by omega), wrap64_of (l[i].f1 - l[i].f0) (by omega), wrap64_of (l[i].f1 - l[i].f0 + 1) (by omega)]
      by_cases hc : k < l[i].f1 - l[i].f0 + 1
      · rw [if_pos hc, if_pos hc, wrap32_of k (by omega), wrap32_of _ (by omega)]
      · rw [if_neg hc, if_neg hc, wrap64_of _ (by omega), wrapS i (by omega)]
    by_cases hc : k < l[i].f1 - l[i].f0 + 1
    · rw [if_pos (by omega), hdr, units_cons, rd_left _ _ _ h0 (by rw [uR_len]; omega), rd_uR _ _ h0 hc]
      refine Ev.step (f := fun _ => some (l[i].f0 + k, 0)) (fun n => ?_) (Ev.now _)
      rw [hn, if_pos hc]
    · have ih := pick0 l h d (i + 1) (k - (l[i].f1 - l[i].f0 + 1)) (by omega) (by omega) (by omega) (by omega)
      have e2 : (if k < sz (l.drop i) then (rd (units (l.drop i)) k, (0 : Int)) else (0, 2)) = (if k - (l[i].f1 - l[i].f0 + 1) < sz (l.drop (i + 1)) then (rd (units (l.drop (i + 1))) (k - (l[i].f1 - l[i].f0 + 1)), 0) else (0, 2)) := by
        have hr : rd (units (l.drop i)) k = rd (units (l.drop (i + 1))) (k - (l[i].f1 - l[i].f0 + 1)) := by
          rw [hdr, units_cons, rd_right _ _ _ (by rw [uR_len]; omega), uR_len]
          congr 1
          omega
        rw [hr]
        by_cases hz : k < sz (l.drop i)
        · rw [if_pos hz, if_pos (by omega)]
        · rw [if_neg hz, if_neg (by omega)]
      rw [e2]
      refine Ev.step (fun n => ?_) ih
      rw [hn, if_neg hc]
theorem pick_is (l : List Rg) (h : Sound l) (k : Int) (hk : k ≤ 9223372036854775807) : Ev (fun n => sets_Pick.f n l k) (if 0 ≤ k ∧ k < sz l then (rd (units l) k, 0) else (0, 2)) := by
  have hl := sound_len h
  unfold sets_Pick.f
  refine Ev.bind (check_is l (by omega) h.r32) ?_
  rw [if_pos h]
  refine ev_if_pos rfl ?_
  by_cases h0 : k < 0
  · rw [if_neg (by omega)]
    exact ev_if_pos h0 (Ev.now _)
  · have := pick0 l h l.length 0 k (by omega) (by omega) (by omega) hk
    refine ev_if_neg h0 ?_
    by_cases hz : k < sz l
    · rw [if_pos ⟨by omega, hz⟩]; simpa [hz] using this
    · rw [if_neg (by omega)]; simpa [hz] using this
end Go.Proofs.YtoggmegpodmfnaaDoor.Q
namespace Go.Proofs.YtoggmegpodmfnaaDoor.Q
open Go.RowKit Go.Proofs.YtoggmegpodmfnaaDoorW.PrintWords Go.Proofs.YtoggmegpodmfnaaDoorW.PrintLast Go.Proofs.YtoggmegpodmfnaaDoorW.PrintMore Go.Proofs.YtoggmegpodmfnaaDoor.PY Go.Proofs.YtoggmegpodmfnaaDoor.B
set_option linter.unusedVariables false
set_option linter.unusedSimpArgs false
def dval (l : List UInt8) : Nat := l.foldl (fun a c => a * 10 + (c.toNat - 48)) 0
theorem dval_snoc (l : List UInt8) (c : UInt8) : dval (l ++ [c]) = dval l * 10 + (c.toNat - 48) := by simp [dval]
theorem digit_nat (d : Nat) (h : d < 10) : (UInt8.ofNat (48 + d)).toNat = 48 + d := by
  simp [UInt8.toNat_ofNat]
  omega
theorem dec_val (u : Nat) : dval (Lib.decDigits u) = u ∧ ∀ c ∈ Lib.decDigits u, c ≠ 44 := by
  induction u using Nat.strongRecOn with
  | _ u ih =>
    rw [Lib.decDigits]
    have hd : ∀ d : Nat, d < 10 → UInt8.ofNat (48 + d) ≠ 44 := fun d hd e => by
      have h1 := digit_nat d hd
      rw [e] at h1
      have : (44 : UInt8).toNat = 44 := rfl
      omega
    by_cases h : u < 10
    · rw [dif_pos h]
      refine ⟨?_, fun c hc => by rw [List.mem_singleton.1 hc]; exact hd u h⟩
      have := digit_nat u h
      show 0 * 10 + ((UInt8.ofNat (48 + u)).toNat - 48) = u
      omega
    · rw [dif_neg h]
      obtain ⟨h1, h2⟩ := ih (u / 10) (by omega)
      refine ⟨?_, fun c hc => ?_⟩
      · rw [dval_snoc, h1, digit_nat (u % 10) (by omega)]
        omega
      · rcases List.mem_append.1 hc with h3 | h3
        · exact h2 c h3
        · rw [List.mem_singleton.1 h3]; exact hd (u % 10) (by omega)
def toks : List UInt8 → List UInt8 → List Nat
  | _, [] => []
  | cur, c :: r => if c = 44 then dval cur :: toks [] r else toks (cur ++ [c]) r
theorem toks_word : ∀ (w cur r : List UInt8), (∀ c ∈ w, c ≠ 44) → toks cur (w ++ 44 :: r) = dval (cur ++ w) :: toks [] r
  | [], cur, r, _ => by simp [toks]
  | c :: w, cur, r, h => by
    rw [List.cons_append, toks, if_neg (h c (by simp)), toks_word w (cur ++ [c]) r (fun x hx => h x (by simp [hx]))]
    simp
theorem toks_key (j : Nat) (r : List UInt8) : toks [] (sets_Parts.keyB j ++ r) = j :: toks [] r := by
  have e : Lib.itoa (j : Int) = Lib.decDigits j := by unfold Lib.itoa; rw [if_neg (by omega)]; simp
  unfold sets_Parts.keyB
  rw [e, List.append_assoc, List.singleton_append, toks_word _ _ _ (dec_val j).2, List.nil_append, (dec_val j).1]
theorem toks_flat (p : Nat → Bool) : ∀ l : List Nat, toks [] (l.flatMap fun j => if p j = true then sets_Parts.keyB j else []) = l.filter p
  | [] => rfl
  | j :: l => by
    rw [List.flatMap_cons, List.filter_cons]
    cases h : p j with
    | true => rw [if_pos rfl, if_pos rfl, toks_key, toks_flat p l]
    | false => rw [if_neg (by simp), if_neg (by simp), List.nil_append, toks_flat p l]
theorem key_inj (l0 : List (List S29)) (u v : Int) (n : Nat) : sets_Parts.keyN l0 u n = sets_Parts.keyN l0 v n ↔ ∀ j, j < n → sets_Parts.inS (rd_L2 l0 (j : Int)) u = sets_Parts.inS (rd_L2 l0 (j : Int)) v := by
  have hk : ∀ u : Int, toks [] (sets_Parts.keyN l0 u n) = (List.range n).filter (fun j : Nat => sets_Parts.inS (rd_L2 l0 (j : Int)) u) := fun u => toks_flat _ _
  constructor
  · intro h j hj
    have h1 := hk u
    rw [h, hk v] at h1
    have h2 : ∀ j, j ∈ (List.range n).filter (fun j : Nat => sets_Parts.inS (rd_L2 l0 (j : Int)) v) ↔ j ∈ (List.range n).filter (fun j : Nat => sets_Parts.inS (rd_L2 l0 (j : Int)) u) := fun j => by rw [h1]
    have h3 := h2 j
    simp only [List.mem_filter, List.mem_range, hj, true_and] at h3
    rw [Bool.eq_iff_iff]
    exact h3.symm
  · intro h
    unfold sets_Parts.keyN
    have : ∀ l : List Nat, (∀ j ∈ l, j < n) → (l.flatMap fun (j : Nat) => if sets_Parts.inS (rd_L2 l0 (j : Int)) u then sets_Parts.keyB j else []) = (l.flatMap fun (j : Nat) => if sets_Parts.inS (rd_L2 l0 (j : Int)) v then sets_Parts.keyB j else []) := by
      intro l
      induction l with
      | nil => intro _; rfl
      | cons j l ih =>
        intro hl
        rw [List.flatMap_cons, List.flatMap_cons, ih (fun x hx => hl x (by simp [hx])), h j (hl j (by simp))]
    exact this _ (fun j hj => List.mem_range.1 hj)
end Go.Proofs.YtoggmegpodmfnaaDoor.Q
namespace Go.Proofs.YtoggmegpodmfnaaDoor.Q
open Go.RowKit Go.Proofs.YtoggmegpodmfnaaDoorW.PrintWords Go.Proofs.YtoggmegpodmfnaaDoorW.PrintLast Go.Proofs.YtoggmegpodmfnaaDoorW.PrintMore Go.Proofs.YtoggmegpodmfnaaDoor.PY Go.Proofs.YtoggmegpodmfnaaDoor.B
set_option linter.unusedVariables false
set_option linter.unusedSimpArgs false
theorem bandHi_eq (u : Int) (h : 0 ≤ bandOf u) : bandOf (sets_Parts.bandHi u) = bandOf u ∧ u ≤ sets_Parts.bandHi u ∧ ∀ x, u ≤ x → x ≤ sets_Parts.bandHi u → bandOf x = bandOf u := by
  have c := bandOf_cases u
  unfold sets_Parts.bandHi
  rcases c with ⟨e, h1, h2⟩ | ⟨e, h1, h2⟩ | ⟨e, h1, h2⟩ | ⟨e, _⟩
  · rw [e, if_pos rfl]; exact ⟨by decide, h2, fun x hx1 hx2 => bandOf_0 ⟨by omega, hx2⟩⟩
  · rw [e, if_neg (by decide), if_pos rfl]; exact ⟨by decide, h2, fun x hx1 hx2 => bandOf_1 ⟨by omega, hx2⟩⟩
  · rw [e, if_neg (by decide), if_neg (by decide)]; exact ⟨by decide, h2, fun x hx1 hx2 => bandOf_2 ⟨by omega, hx2⟩⟩
  · omega
theorem bandHi_same {x u : Int} (h : bandOf x = bandOf u) : sets_Parts.bandHi x = sets_Parts.bandHi u := by unfold sets_Parts.bandHi; rw [h]
section
variable {L : List (List Rg)}
theorem cs_at (i : Nat) (h : i < (sets_Parts.cs L).length) : (sets_Parts.cs L).getD i 0 = (sets_Parts.cs L)[i] := by simp [h]
theorem cs_get_mem (i : Nat) (h : i < (sets_Parts.cs L).length) : (sets_Parts.cs L).getD i 0 ∈ sets_Parts.cs L := by rw [cs_at i h]; exact List.getElem_mem h
theorem cs_lt {i j : Nat} (hj : j < (sets_Parts.cs L).length) (hij : i < j) : (sets_Parts.cs L).getD i 0 < (sets_Parts.cs L).getD j 0 := by
  rw [cs_at i (by omega), cs_at j hj]
  exact List.pairwise_iff_getElem.1 (sets_Parts.cs_asc L) i j (by omega) hj hij
theorem pc_hi (i : Nat) : (sets_Parts.pc (sets_Parts.cs L) i).f1 ≤ sets_Parts.bandHi ((sets_Parts.cs L).getD i 0) ∧ (i + 1 < (sets_Parts.cs L).length → (sets_Parts.pc (sets_Parts.cs L) i).f1 < (sets_Parts.cs L).getD (i + 1) 0) := by
  unfold sets_Parts.pc
  by_cases h : i + 1 < (sets_Parts.cs L).length
  · simp only [if_pos h]
    unfold mn
    constructor
    · split <;> omega
    · intro _; split <;> omega
  · simp only [if_neg h]
    exact ⟨Int.le_refl _, fun h' => absurd h' h⟩
theorem pc_ge {x : Int} (i : Nat) (hi : i < (sets_Parts.cs L).length) (h1 : x ≤ sets_Parts.bandHi ((sets_Parts.cs L).getD i 0)) (h2 : i + 1 < (sets_Parts.cs L).length → x < (sets_Parts.cs L).getD (i + 1) 0) : x ≤ (sets_Parts.pc (sets_Parts.cs L) i).f1 := by
  unfold sets_Parts.pc
  by_cases h : i + 1 < (sets_Parts.cs L).length
  · simp only [if_pos h]
    have := h2 h
    unfold mn
    split <;> omega
  · simp only [if_neg h]
    exact h1
theorem pc_ok (hg : sets_Parts.Good L) (i : Nat) (hi : i < (sets_Parts.cs L).length) : okR (sets_Parts.pc (sets_Parts.cs L) i) := by
  have hb := hg.bands _ (cs_get_mem i hi)
  obtain ⟨h1, h2, h3⟩ := bandHi_eq _ hb
  have hle : (sets_Parts.cs L).getD i 0 ≤ (sets_Parts.pc (sets_Parts.cs L) i).f1 := pc_ge i hi h2 (fun h => cs_lt h (Nat.lt_succ_self i))
  exact ⟨hb, (h3 _ hle (pc_hi i).1).symm, hle⟩
theorem pc_none {i : Nat} (hi : i < (sets_Parts.cs L).length) {v : Int} (hv : v ∈ sets_Parts.cs L) (h1 : (sets_Parts.cs L).getD i 0 < v) : (sets_Parts.pc (sets_Parts.cs L) i).f1 < v := by
  obtain ⟨t, ht, rfl⟩ := List.getElem_of_mem hv
  have hit : i < t := by
    rcases Nat.lt_trichotomy i t with h | h | h
    · exact h
    · subst h; rw [cs_at i hi] at h1; omega
    · have := cs_lt hi h; rw [cs_at t ht] at this; omega
  have h2 := (pc_hi (L := L) i).2 (by omega)
  rcases Nat.lt_or_ge (i + 1) t with h | h
  · have h3 := cs_lt ht h; rw [cs_at t ht] at h3; omega
  · have : t = i + 1 := by omega
    subst this
    rw [cs_at (i + 1) ht] at h2
    exact h2
theorem last_below (l : List Int) (x : Int) : (∃ v ∈ l, v ≤ x) → l.Pairwise (fun a b => a < b) → ∃ i, i < l.length ∧ l.getD i 0 ≤ x ∧ (i + 1 < l.length → x < l.getD (i + 1) 0) := by
  induction l with
  | nil => rintro ⟨v, hv, _⟩; cases hv
  | cons a l ih =>
    rintro ⟨v, hv, hvx⟩ hp
    have hp' := List.pairwise_cons.1 hp
    by_cases h : ∃ v ∈ l, v ≤ x
    · obtain ⟨i, h1, h2, h3⟩ := ih h hp'.2
      exact ⟨i + 1, by simp; omega, by simpa using h2, fun h4 => by have := h3 (by simp at h4; omega); simpa using this⟩
    · refine ⟨0, by simp, ?_, fun h4 => ?_⟩
      · rcases List.mem_cons.1 hv with rfl | hv'
        · simpa using hvx
        · exact absurd ⟨v, hv', hvx⟩ h
      · have h5 : 0 < l.length := by simp at h4; omega
        have h6 : ¬ l[0] ≤ x := fun h7 => h ⟨l[0], List.getElem_mem h5, h7⟩
        have e : (a :: l).getD (0 + 1) 0 = l[0] := by simp [h5]
        rw [e]
        omega
theorem pc_of (hg : sets_Parts.Good L) {x : Int} (hx : isU x = true) : ∃ i, i < (sets_Parts.cs L).length ∧ (sets_Parts.cs L).getD i 0 ≤ x ∧ x ≤ (sets_Parts.pc (sets_Parts.cs L) i).f1 := by
  have hb : 0 ≤ bandOf x := of_decide_eq_true hx
  obtain ⟨lo, hlo, hl1, hl2⟩ : ∃ lo, lo ∈ sets_Parts.cs L ∧ lo ≤ x ∧ ∀ v, lo ≤ v → v ≤ x → bandOf v = bandOf x := by
    rcases bandOf_cases x with ⟨e, h1, h2⟩ | ⟨e, h1, h2⟩ | ⟨e, h1, h2⟩ | ⟨e, _⟩
    · exact ⟨0, (sets_Parts.cs_mem L _).2 (by simp [sets_Parts.begins]), h1, fun v h3 h4 => by rw [e]; exact bandOf_0 ⟨h3, by omega⟩⟩
    · exact ⟨57344, (sets_Parts.cs_mem L _).2 (by simp [sets_Parts.begins]), h1, fun v h3 h4 => by rw [e]; exact bandOf_1 ⟨h3, by omega⟩⟩
    · exact ⟨1114240, (sets_Parts.cs_mem L _).2 (by simp [sets_Parts.begins]), h1, fun v h3 h4 => by rw [e]; exact bandOf_2 ⟨h3, by omega⟩⟩
    · omega
  obtain ⟨i, hi, h1, h2⟩ := last_below _ x ⟨lo, hlo, hl1⟩ (sets_Parts.cs_asc L)
  refine ⟨i, hi, h1, pc_ge i hi ?_ h2⟩
  have h3 : lo ≤ (sets_Parts.cs L).getD i 0 := by
    rcases Int.lt_or_le ((sets_Parts.cs L).getD i 0) lo with h4 | h4
    · obtain ⟨t, ht, rfl⟩ := List.getElem_of_mem hlo
      rw [← cs_at t ht] at h4 hl1
      have hit : i < t := by
        rcases Nat.lt_or_ge i t with h | h
        · exact h
        · rcases Nat.lt_or_ge t i with h5 | h5
          · have := cs_lt hi h5; omega
          · have : t = i := by omega
            subst this; omega
      have h5 := h2 (by omega)
      rcases Nat.lt_or_ge (i + 1) t with h | h
      · have := cs_lt ht h; omega
      · have : t = i + 1 := by omega
        subst this; omega
    · exact h4
  have h4 := hl2 _ h3 h1
  have h5 := (bandHi_eq x hb).2.1
  rw [bandHi_same h4.symm] at h5
  exact h5
theorem inS_piece (hg : sets_Parts.Good L) {l : List Rg} (hl : l ∈ L) {i : Nat} (hi : i < (sets_Parts.cs L).length) {x : Int} (h1 : (sets_Parts.cs L).getD i 0 ≤ x) (h2 : x ≤ (sets_Parts.pc (sets_Parts.cs L) i).f1) : sets_Parts.inS l x = sets_Parts.inS l ((sets_Parts.cs L).getD i 0) := by
  have hb := hg.bands _ (cs_get_mem i hi)
  obtain ⟨_, _, h3⟩ := bandHi_eq _ hb
  have hxh := Int.le_trans h2 (pc_hi i).1
  have beg : ∀ r ∈ l, ∀ v, v ∈ sets_Parts.beg1 r → v ∈ sets_Parts.cs L := fun r hr v hv => (sets_Parts.cs_mem L v).2 (by
    unfold sets_Parts.begins
    refine List.mem_append.2 (.inr (List.mem_flatMap.2 ⟨l, hl, ?_⟩))
    exact List.mem_flatMap.2 ⟨r, hr, hv⟩)
  unfold sets_Parts.inS
  rw [Bool.eq_iff_iff, List.any_eq_true, List.any_eq_true]
  constructor
  · rintro ⟨r, hr, h4⟩
    have h4 := of_decide_eq_true h4
    refine ⟨r, hr, decide_eq_true ⟨?_, by omega⟩⟩
    rcases Int.lt_or_le ((sets_Parts.cs L).getD i 0) r.f0 with h5 | h5
    · have := pc_none hi (beg r hr r.f0 (by simp [sets_Parts.beg1])) h5
      omega
    · exact h5
  · rintro ⟨r, hr, h4⟩
    have h4 := of_decide_eq_true h4
    refine ⟨r, hr, decide_eq_true ⟨by omega, ?_⟩⟩
    rcases Int.lt_or_le r.f1 x with h5 | h5
    · have h6 : bandOf (r.f1 + 1) = bandOf ((sets_Parts.cs L).getD i 0) := h3 _ (by omega) (by omega)
      have := pc_none hi (beg r hr (r.f1 + 1) (by unfold sets_Parts.beg1; rw [if_pos (by rw [h6]; exact hb)]; simp)) (by omega)
      omega
    · exact h5
theorem rdL {l : List (List Rg)} (j : Nat) (h : j < l.length) : rd_L2 l (j : Int) = l[j] := by simp [rd_L2, h]
theorem key_piece (hg : sets_Parts.Good L) {i : Nat} (hi : i < (sets_Parts.cs L).length) {x : Int} (h1 : (sets_Parts.cs L).getD i 0 ≤ x) (h2 : x ≤ (sets_Parts.pc (sets_Parts.cs L) i).f1) : sets_Parts.keyN L x L.length = sets_Parts.keyN L ((sets_Parts.cs L).getD i 0) L.length :=
  (key_inj L _ _ _).2 fun j hj => by rw [rdL j hj]; exact inS_piece hg (List.getElem_mem hj) hi h1 h2
end
end Go.Proofs.YtoggmegpodmfnaaDoor.Q
namespace Go.Proofs.YtoggmegpodmfnaaDoor.Q
open Go.RowKit Go.Proofs.YtoggmegpodmfnaaDoorW.PrintWords Go.Proofs.YtoggmegpodmfnaaDoorW.PrintLast Go.Proofs.YtoggmegpodmfnaaDoorW.PrintMore Go.Proofs.YtoggmegpodmfnaaDoor.PY Go.Proofs.YtoggmegpodmfnaaDoor.B
set_option linter.unusedVariables false
set_option linter.unusedSimpArgs false
def lo (g : List UInt8 × List Rg) : Int := (g.2.headD ⟨0, 0⟩).f0
structure Gs (L : List (List Rg)) (n : Nat) (gs : List (List UInt8 × List Rg)) : Prop where
  nd : gs.Pairwise (fun a b => a.1 ≠ b.1)
  inn : ∀ g ∈ gs, ∀ p ∈ g.2, ∃ i, i < n ∧ p = sets_Parts.pc (sets_Parts.cs L) i ∧ g.1 = sets_Parts.keyN L ((sets_Parts.cs L).getD i 0) L.length
  all : ∀ i, i < n → ∃ g ∈ gs, g.1 = sets_Parts.keyN L ((sets_Parts.cs L).getD i 0) L.length ∧ sets_Parts.pc (sets_Parts.cs L) i ∈ g.2
  asc : gs.Pairwise (fun a b => lo a < lo b)
  ne : ∀ g ∈ gs, g.2 ≠ [] ∧ ∀ p ∈ g.2, lo g ≤ p.f0
theorem idx_none {α : Type} : ∀ (gs : List (List UInt8 × α)) (k : List UInt8), sets_Parts.idxG gs k = none → ∀ g ∈ gs, g.1 ≠ k
  | [], _, _, g, hg => by cases hg
  | (k', l) :: r, k, h, g, hg => by
    unfold sets_Parts.idxG at h
    by_cases e : k' = k
    · rw [if_pos e] at h; cases h
    · rw [if_neg e] at h
      rcases List.mem_cons.1 hg with rfl | hg
      · exact e
      · exact idx_none r k (by simpa using h) g hg
theorem lo_mem {g : List UInt8 × List Rg} (h : g.2 ≠ []) : ∃ p ∈ g.2, lo g = p.f0 := by
  obtain ⟨k, l⟩ := g
  cases l with
  | nil => exact absurd rfl h
  | cons p l => exact ⟨p, by simp, rfl⟩
theorem gs_step {L : List (List Rg)} {n : Nat} {gs : List (List UInt8 × List Rg)} (h : Gs L n gs) (hn : n < (sets_Parts.cs L).length) :
    Gs L (n + 1) (sets_Parts.placeG gs (sets_Parts.keyN L ((sets_Parts.cs L).getD n 0) L.length) (sets_Parts.pc (sets_Parts.cs L) n)) := by
  obtain ⟨k, hk⟩ : ∃ k, k = sets_Parts.keyN L ((sets_Parts.cs L).getD n 0) L.length := ⟨_, rfl⟩
  obtain ⟨p, hp⟩ : ∃ p, p = sets_Parts.pc (sets_Parts.cs L) n := ⟨_, rfl⟩
  rw [← hk, ← hp]
  have hpl : p.f0 = (sets_Parts.cs L).getD n 0 := by rw [hp]; rfl
  have low : ∀ g ∈ gs, lo g < p.f0 := fun g hg => by
    obtain ⟨q, hq, e⟩ := lo_mem (h.ne g hg).1
    obtain ⟨i, hi, rfl, _⟩ := h.inn g hg q hq
    rw [e, hpl]
    exact cs_lt hn hi
  cases hidx : sets_Parts.idxG gs k with
  | none =>
    rw [sets_Parts.placeG_none gs k p hidx]
    have hno := idx_none gs k hidx
    refine ⟨?_, ?_, ?_, ?_, ?_⟩
    · rw [List.pairwise_append]
      exact ⟨h.nd, List.pairwise_singleton _ _, fun a ha b hb => by rw [List.mem_singleton.1 hb]; exact hno a ha⟩
    · intro g hg q hq
      rcases List.mem_append.1 hg with hg | hg
      · obtain ⟨i, hi, h1, h2⟩ := h.inn g hg q hq
        exact ⟨i, by omega, h1, h2⟩
      · rw [List.mem_singleton.1 hg] at hq ⊢
        exact ⟨n, by omega, by rw [List.mem_singleton.1 hq]; exact hp, hk⟩
    · intro i hi
      by_cases e : i = n
      · subst e
        exact ⟨(k, [p]), by simp, hk, by rw [hp]; simp⟩
      · obtain ⟨g, hg, h1⟩ := h.all i (by omega)
        exact ⟨g, by simp [hg], h1⟩
    · rw [List.pairwise_append]
      exact ⟨h.asc, List.pairwise_singleton _ _, fun a ha b hb => by rw [List.mem_singleton.1 hb]; exact low a ha⟩
    · intro g hg
      rcases List.mem_append.1 hg with hg | hg
      · exact h.ne g hg
      · rw [List.mem_singleton.1 hg]
        exact ⟨by simp, fun q hq => by rw [List.mem_singleton.1 hq]; exact Int.le_refl _⟩
  | some j =>
    obtain ⟨l, hl⟩ := sets_Parts.idxG_get gs k j hidx
    rw [sets_Parts.placeG_some gs k p j l hidx hl]
    have hjl := (List.getElem?_eq_some_iff.1 hl).1
    have hgm : (k, l) ∈ gs := List.mem_of_getElem? hl
    have hln := (h.ne _ hgm).1
    have hlo : lo (k, l ++ [p]) = lo (k, l) := by
      cases l with
      | nil => exact absurd rfl hln
      | cons q l => rfl
    have hmem : ∀ g, g ∈ gs.set j (k, l ++ [p]) → g ∈ gs ∨ g = (k, l ++ [p]) := fun g hg => List.mem_or_eq_of_mem_set hg
    have hin : (k, l ++ [p]) ∈ gs.set j (k, l ++ [p]) := List.mem_of_getElem? (List.getElem?_set_self hjl)
    have hkeep : ∀ g ∈ gs, g = (k, l) ∨ g ∈ gs.set j (k, l ++ [p]) := fun g hg => by
      obtain ⟨t, ht, e⟩ := List.getElem_of_mem hg
      by_cases etj : t = j
      · left
        subst etj
        rw [← e]
        exact (List.getElem?_eq_some_iff.1 hl).2
      · right
        exact List.mem_of_getElem? (i := t) (by rw [List.getElem?_set_ne (Ne.symm etj), List.getElem?_eq_getElem ht, e])
    have emap : (gs.set j (k, l ++ [p])).map (fun g => (g.1, lo g)) = gs.map (fun g => (g.1, lo g)) := by
      rw [List.map_set]
      apply List.ext_getElem?
      intro t
      by_cases etj : j = t
      · subst etj
        rw [List.getElem?_set_self (by simpa using hjl), List.getElem?_map, hl, hlo]
        rfl
      · rw [List.getElem?_set_ne etj]
    refine ⟨?_, ?_, ?_, ?_, ?_⟩
    · have h1 : ((gs.set j (k, l ++ [p])).map (fun g => (g.1, lo g))).Pairwise (fun a b => a.1 ≠ b.1) := by rw [emap, List.pairwise_map]; exact h.nd
      rw [List.pairwise_map] at h1
      exact h1
    · intro g hg q hq
      rcases hmem g hg with hg | rfl
      · obtain ⟨i, hi, h1, h2⟩ := h.inn g hg q hq
        exact ⟨i, by omega, h1, h2⟩
      · rcases List.mem_append.1 hq with hq | hq
        · obtain ⟨i, hi, h1, h2⟩ := h.inn _ hgm q hq
          exact ⟨i, by omega, h1, h2⟩
        · exact ⟨n, by omega, by rw [List.mem_singleton.1 hq]; exact hp, hk⟩
    · intro i hi
      by_cases e : i = n
      · subst e
        exact ⟨_, hin, hk, by rw [hp]; simp⟩
      · obtain ⟨g, hg, h1, h2⟩ := h.all i (by omega)
        rcases hkeep g hg with rfl | hg'
        · exact ⟨_, hin, h1, List.mem_append.2 (.inl h2)⟩
        · exact ⟨g, hg', h1, h2⟩
    · have h1 : ((gs.set j (k, l ++ [p])).map (fun g => (g.1, lo g))).Pairwise (fun a b => a.2 < b.2) := by rw [emap, List.pairwise_map]; exact h.asc
      rw [List.pairwise_map] at h1
      exact h1
    · intro g hg
      rcases hmem g hg with hg | rfl
      · exact h.ne g hg
      · refine ⟨by simp, fun q hq => ?_⟩
        rw [hlo]
        rcases List.mem_append.1 hq with hq | hq
        · exact (h.ne _ hgm).2 q hq
        · rw [List.mem_singleton.1 hq]
          exact Int.le_of_lt (low _ hgm)
theorem gs_all (L : List (List Rg)) : ∀ n, n ≤ (sets_Parts.cs L).length → Gs L n (sets_Parts.grpN (sets_Parts.cs L) (fun u => sets_Parts.keyN L u L.length) n)
  | 0, _ => ⟨List.Pairwise.nil, fun g hg => absurd hg List.not_mem_nil, fun i hi => absurd hi (Nat.not_lt_zero _), List.Pairwise.nil, fun g hg => absurd hg List.not_mem_nil⟩
  | n + 1, h => by rw [sets_Parts.grpN_succ]; exact gs_step (gs_all L n (by omega)) (by omega)
theorem grp_mem {L : List (List Rg)} (hg : sets_Parts.Good L) {gs : List (List UInt8 × List Rg)} (h : Gs L (sets_Parts.cs L).length gs) {g : List UInt8 × List Rg} (hgm : g ∈ gs) (x : Int) : mem g.2 x = (isU x && decide (sets_Parts.keyN L x L.length = g.1)) := by
  rw [Bool.eq_iff_iff, Bool.and_eq_true, decide_eq_true_eq, mem_iff]
  constructor
  · rintro ⟨p, hp, h1, h2⟩
    obtain ⟨i, hi, rfl, hk⟩ := h.inn g hgm p hp
    exact ⟨okR_unit (pc_ok hg i hi) h1 h2, by rw [hk]; exact key_piece hg hi h1 h2⟩
  · rintro ⟨hx, hk⟩
    obtain ⟨i, hi, h1, h2⟩ := pc_of hg hx
    obtain ⟨g', hg', e, hp⟩ := h.all i hi
    have e2 : g'.1 = g.1 := by rw [e, ← hk, key_piece hg hi h1 h2]
    have : g' = g := by
      obtain ⟨t, ht, rfl⟩ := List.getElem_of_mem hg'
      obtain ⟨q, hq, rfl⟩ := List.getElem_of_mem hgm
      rcases Nat.lt_trichotomy t q with h3 | h3 | h3
      · exact absurd e2 (List.pairwise_iff_getElem.1 h.nd t q ht hq h3)
      · subst h3; rfl
      · exact absurd e2.symm (List.pairwise_iff_getElem.1 h.nd q t hq ht h3)
    rw [← this]
    exact ⟨_, hp, h1, h2⟩
theorem grp_ok {L : List (List Rg)} (hg : sets_Parts.Good L) {gs : List (List UInt8 × List Rg)} (h : Gs L (sets_Parts.cs L).length gs) {g : List UInt8 × List Rg} (hgm : g ∈ gs) : ∀ p ∈ g.2, okR p := fun p hp => by
  obtain ⟨i, hi, rfl, _⟩ := h.inn g hgm p hp
  exact pc_ok hg i hi
theorem placeG_tot : ∀ (gs : List (List UInt8 × List Rg)) (k : List UInt8) (p : Rg), sets_Parts.tot ((sets_Parts.placeG gs k p).map Prod.snd) = sets_Parts.tot (gs.map Prod.snd) + 1
  | [], k, p => rfl
  | (k', l) :: r, k, p => by
    have ih := placeG_tot r k p
    unfold sets_Parts.placeG
    by_cases e : k' = k
    · rw [if_pos e]; simp [sets_Parts.tot]; omega
    · rw [if_neg e]
      simp only [sets_Parts.tot, List.map_cons, List.sum_cons] at ih ⊢
      omega
theorem grpN_tot (L : List (List Rg)) (cs : List Int) : ∀ n, sets_Parts.tot ((sets_Parts.grpN cs (fun u => sets_Parts.keyN L u L.length) n).map Prod.snd) = n
  | 0 => rfl
  | n + 1 => by rw [sets_Parts.grpN_succ, placeG_tot, grpN_tot L cs n]
end Go.Proofs.YtoggmegpodmfnaaDoor.Q
namespace Go.Proofs.YtoggmegpodmfnaaDoor.Q
open Go.RowKit Go.Proofs.YtoggmegpodmfnaaDoorW.PrintWords Go.Proofs.YtoggmegpodmfnaaDoorW.PrintLast Go.Proofs.YtoggmegpodmfnaaDoorW.PrintMore Go.Proofs.YtoggmegpodmfnaaDoor.PY Go.Proofs.YtoggmegpodmfnaaDoor.B
set_option linter.unusedVariables false
set_option linter.unusedSimpArgs false
def hd (r : List Rg) : Int := (r.headD ⟨0, 0⟩).f0
theorem checkAll0 (L : List (List Rg)) (hL : ∀ l ∈ L, Sound l) (hl : L.length ≤ 16777216) : ∀ (d i : Nat), L.length - i = d → Ev (fun k => sets_check.l0 k L (L.length : Int) (i : Int)) 0
  | 0, i, hd => Ev.step (f := fun _ => some 0) (fun k => by rw [sets_check.l0, if_neg (by omega)]) (Ev.now _)
  | d + 1, i, hd => by
    have hi : i < L.length := by omega
    have hs := hL _ (List.getElem_mem hi)
    have hsl := sound_len hs
    refine Ev.step (f := fun k => (sets_Check.f k L[i]).bind fun t => if t = 0 then sets_check.l0 k L (L.length : Int) ((i + 1 : Nat) : Int) else some 1) (fun k => ?_) (Ev.bind (check_is L[i] (by omega) hs.r32) ?_)
    · rw [sets_check.l0, if_pos (by omega), if_pos (by omega), if_pos (by omega), rdL i hi, wrapS i (by omega)]
    · rw [if_pos hs]
      exact ev_if_pos rfl (checkAll0 L hL hl d (i + 1) (by omega))
theorem checkAll (L : List (List Rg)) (hL : ∀ l ∈ L, Sound l) (hl : L.length ≤ 16777216) : Ev (fun k => sets_check.f k L) 0 := by
  unfold sets_check.f
  exact checkAll0 L hL hl L.length 0 (by omega)
theorem gat_is : ∀ ls : List (List Rg), (∀ l ∈ ls, (∀ r ∈ l, okR r) ∧ l.length ≤ 4294967296) → ∃ rs, Ev (fun k => sets_Parts.gat k ls) rs ∧ sets_Parts.tot rs ≤ sets_Parts.tot ls ∧ rs.length = ls.length ∧ ∀ (j : Nat) (r l : List Rg), rs[j]? = some r → ls[j]? = some l → Sound r ∧ ∀ u, mem r u = mem l u
  | [], _ => ⟨[], Ev.now _, Nat.le_refl _, rfl, fun j r l hj _ => by simp at hj⟩
  | l :: ls, h => by
    obtain ⟨r, hr, h1, h2, h9⟩ := gather_is l (h l (by simp)).2 (h l (by simp)).1
    obtain ⟨rs, hrs, h8, h3, h4⟩ := gat_is ls (fun x hx => h x (by simp [hx]))
    refine ⟨r :: rs, Ev.bind hr (Ev.bind hrs (Ev.now _)), by simp only [sets_Parts.tot, List.map_cons, List.sum_cons] at h8 ⊢; omega, by simp [h3], fun j r' l' hj hl => ?_⟩
    cases j with
    | zero => obtain rfl := Option.some.inj hj; obtain rfl := Option.some.inj hl; exact ⟨h1, h2⟩
    | succ j => exact h4 j r' l' hj hl
theorem good_of {L : List (List Rg)} (hL : ∀ l ∈ L, Sound l) (h1 : L.length ≤ 16777216) (h2 : sets_Parts.tot L ≤ 16777216) : sets_Parts.Good L := by
  refine ⟨h1, h2, fun l hl r hr => ?_, fun l hl => (hL l hl).2⟩
  obtain ⟨a, b, c⟩ := (hL l hl).1 r hr
  refine ⟨a, c, ?_⟩
  have := bandOf_cases r.f1
  omega
theorem first_is {r l : List Rg} {g : List UInt8 × List Rg} (hr : Sound r) (hm : ∀ u, mem r u = mem g.2 u) (hok : ∀ p ∈ g.2, okR p) (hne : g.2 ≠ [] ∧ ∀ p ∈ g.2, lo g ≤ p.f0) : r ≠ [] ∧ hd r = lo g := by
  obtain ⟨p, hp, e⟩ := lo_mem hne.1
  have hlo : mem r (lo g) = true := by
    rw [hm, mem_iff]
    exact ⟨p, hp, by rw [e]; exact Int.le_refl _, by rw [e]; exact (hok p hp).2.2⟩
  cases r with
  | nil => rw [show mem [] (lo g) = false from rfl] at hlo; cases hlo
  | cons q r' =>
    refine ⟨by simp, ?_⟩
    show q.f0 = lo g
    have hq := (hr.1 q (by simp)).2.2
    have h1 : mem g.2 q.f0 = true := by
      rw [← hm, mem_iff]
      exact ⟨q, by simp, Int.le_refl _, hq⟩
    obtain ⟨p', hp', h2, _⟩ := (mem_iff _ _).1 h1
    have h3 := hne.2 p' hp'
    obtain ⟨q', hq', h4, _⟩ := (mem_iff _ _).1 hlo
    have h5 : q.f0 ≤ q'.f0 := by
      rcases List.mem_cons.1 hq' with rfl | hq'
      · exact Int.le_refl _
      · have := (List.pairwise_cons.1 hr.2).1 q' hq'
        omega
    omega
structure PartsOk (L rs : List (List Rg)) (Ks : List (List UInt8)) : Prop where
  len : Ks.length = rs.length
  big : rs.length ≤ 67108864
  tot : sets_Parts.tot rs ≤ 67108864
  sound : ∀ r ∈ rs, Sound r
  ne : ∀ r ∈ rs, r ≠ []
  asc : rs.Pairwise (fun a b => hd a < hd b)
  mem : ∀ (j : Nat) (r : List Rg) (K : List UInt8), rs[j]? = some r → Ks[j]? = some K → ∀ x, mem r x = (isU x && decide (sets_Parts.keyN L x L.length = K))
  nd : Ks.Pairwise (fun a b => a ≠ b)
  all : ∀ x, isU x = true → sets_Parts.keyN L x L.length ∈ Ks
theorem Parts_is (L : List (List Rg)) (hL : ∀ l ∈ L, Sound l) (h1 : L.length ≤ 16777216) (h2 : sets_Parts.tot L ≤ 16777216) : ∃ (rs : List (List Rg)) (Ks : List (List UInt8)), Ev (fun k => sets_Parts.f k L) (rs, 0) ∧ PartsOk L rs Ks := by
  have hg := good_of hL h1 h2
  have hgs := gs_all L _ (Nat.le_refl _)
  obtain ⟨gs, hgse⟩ : ∃ gs, gs = sets_Parts.grpN (sets_Parts.cs L) (fun u => sets_Parts.keyN L u L.length) (sets_Parts.cs L).length := ⟨_, rfl⟩
  have hlen := sets_Parts.grpN_len (sets_Parts.cs L) (fun u => sets_Parts.keyN L u L.length) (sets_Parts.cs L).length
  have hin := sets_Parts.grpN_in (sets_Parts.cs L) (fun u => sets_Parts.keyN L u L.length) (sets_Parts.cs L).length
  have hcl := sets_Parts.cs_len L h2
  have htot := grpN_tot L (sets_Parts.cs L) (sets_Parts.cs L).length
  rw [← hgse] at hgs hlen hin htot
  have hgr : sets_Parts.groups L = gs.map Prod.snd := by unfold sets_Parts.groups; rw [hgse]
  obtain ⟨rs, hrs, hrt, hrl, hrg⟩ := gat_is (gs.map Prod.snd) (fun l hl => by
    obtain ⟨g, hgm, rfl⟩ := List.mem_map.1 hl
    exact ⟨grp_ok hg hgs hgm, by have := hin g hgm; omega⟩)
  rw [List.length_map] at hrl
  have each : ∀ (j : Nat) (r : List Rg), rs[j]? = some r → ∃ g, gs[j]? = some g ∧ g ∈ gs ∧ Sound r ∧ (∀ u, Q.mem r u = Q.mem g.2 u) ∧ r ≠ [] ∧ hd r = lo g := by
    intro j r hj
    have hjl := (List.getElem?_eq_some_iff.1 hj).1
    have hjg : j < gs.length := by omega
    have hgj : gs[j]? = some gs[j] := List.getElem?_eq_getElem hjg
    obtain ⟨h3, h4⟩ := hrg j r gs[j].2 hj (by rw [List.getElem?_map, hgj]; rfl)
    have hgm : gs[j] ∈ gs := List.getElem_mem hjg
    obtain ⟨h5, h6⟩ := first_is (l := []) h3 h4 (grp_ok hg hgs hgm) (hgs.ne _ hgm)
    exact ⟨_, hgj, hgm, h3, h4, h5, h6⟩
  refine ⟨rs, gs.map Prod.fst, ?_, ⟨by simp [hrl], by omega, by omega, fun r hr => ?_, fun r hr => ?_, ?_, ?_, ?_, ?_⟩⟩
  · unfold sets_Parts.f
    refine Ev.bind (checkAll L hL h1) ?_
    refine ev_if_pos rfl (ev_if_pos ((sets_Parts.good_iff L).2 hg) ?_)
    rw [hgr]
    exact Ev.bind hrs (Ev.now _)
  · obtain ⟨j, hj, rfl⟩ := List.getElem_of_mem hr
    obtain ⟨_, _, _, h, _⟩ := each j _ (List.getElem?_eq_getElem hj)
    exact h
  · obtain ⟨j, hj, rfl⟩ := List.getElem_of_mem hr
    obtain ⟨_, _, _, _, _, h, _⟩ := each j _ (List.getElem?_eq_getElem hj)
    exact h
  · rw [List.pairwise_iff_getElem]
    intro i j hi hj hij
    obtain ⟨g1, e1, _, _, _, _, f1⟩ := each i _ (List.getElem?_eq_getElem hi)
    obtain ⟨g2, e2, _, _, _, _, f2⟩ := each j _ (List.getElem?_eq_getElem hj)
    rw [f1, f2]
    obtain ⟨hi', e1⟩ := List.getElem?_eq_some_iff.1 e1
    obtain ⟨hj', e2⟩ := List.getElem?_eq_some_iff.1 e2
    rw [← e1, ← e2]
    exact List.pairwise_iff_getElem.1 hgs.asc i j hi' hj' hij
  · intro j r K hj hK x
    obtain ⟨g, e, hgm, _, hm, _, _⟩ := each j r hj
    rw [List.getElem?_map, e] at hK
    obtain rfl := Option.some.inj hK
    rw [hm, grp_mem hg hgs hgm]
  · rw [List.pairwise_map]
    exact hgs.nd
  · intro x hx
    obtain ⟨i, hi, h3, h4⟩ := pc_of hg hx
    obtain ⟨g, hgm, e, _⟩ := hgs.all i hi
    rw [key_piece hg hi h3 h4, ← e]
    exact List.mem_map.2 ⟨g, hgm, rfl⟩
end Go.Proofs.YtoggmegpodmfnaaDoor.Q
namespace Go.Proofs.YtoggmegpodmfnaaDoor.Q
open Go.RowKit Go.Proofs.YtoggmegpodmfnaaDoorW.PrintWords Go.Proofs.YtoggmegpodmfnaaDoorW.PrintLast Go.Proofs.YtoggmegpodmfnaaDoorW.PrintMore Go.Proofs.YtoggmegpodmfnaaDoor.PY Go.Proofs.YtoggmegpodmfnaaDoor.B
set_option linter.unusedVariables false
set_option linter.unusedSimpArgs false
def good : List Rg := [⟨97, 99⟩]
theorem good_sound : Sound good := by decide
def kdI (i : Nat) : Int := if i < 2 then 3 else if i < 4 then 4 else if i < 6 then 5 else (i : Int)
def inA (i : Nat) : Nat := if i = 1 ∨ i = 3 ∨ i = 5 then 1 else if i = 11 then 2 else 0
def inB (i : Nat) : Nat := if i = 0 ∨ i = 2 ∨ i = 4 then 1 else if i = 1 ∨ i = 3 ∨ i = 5 then 0 else 2
def pickL (a : List Rg) (j : Nat) : List Rg := if j = 0 then a else if j = 1 then good else []
abbrev Ans := List Rg × List (List Rg) × Bool × Int × Int × List Int × Int
def err (x : Ans) : Int := x.2.2.2.2.2.2
theorem ev_all {α : Type} (g : Nat → Nat → Option α) (P : Nat → α → Prop) : ∀ n, (∀ i, i < n → ∃ r, Ev (fun k => g k i) r ∧ P i r) → ∃ K, ∀ k, K ≤ k → ∀ i, i < n → ∃ r, g k i = some r ∧ P i r
  | 0, _ => ⟨0, fun k _ i hi => by omega⟩
  | n + 1, h => by
    obtain ⟨K, hK⟩ := ev_all g P n (fun i hi => h i (by omega))
    obtain ⟨r, ⟨K2, hK2⟩, hp⟩ := h n (by omega)
    refine ⟨max K K2, fun k hk i hi => ?_⟩
    by_cases e : i = n
    · subst e; exact ⟨r, hK2 k (by omega), hp⟩
    · exact hK k (by omega) i (by omega)
def playI (a : List Rg) (u n : Int) (k i : Nat) : Option Ans := thistlelaw02_plays.f k (kdI i) (pickL a (inA i)) (pickL a (inB i)) (if i = 8 then u else 0) (if i = 10 then n else 0) (if i = 11 then [good, a] else [])
theorem plays_no (a : List Rg) (u n : Int) (hl : a.length ≤ 1048576) (hra : ∀ r ∈ a, R32 r) (h : ¬ Sound a) (i : Nat) (hi : i < 12) : ∃ r, Ev (fun k => playI a u n k i) r ∧ r = (([], [], false, 0, 0, [], 1) : Ans) := by
  have hl' : a.length ≤ 1073741824 := by omega
  have gl : good.length ≤ 1073741824 := by decide
  have gr : ∀ r ∈ good, R32 r := good_sound.r32
  have n1 : ¬ (Sound a ∧ Sound good) := fun x => h x.1
  have n2 : ¬ (Sound good ∧ Sound a) := fun x => h x.2
  refine ⟨_, ?_, rfl⟩
  unfold playI thistlelaw02_plays.f
  match i, hi with
  | 0, _ => simp [kdI, inA, inB, pickL]; exact Ev.bind (or_no hl' hra gl gr n1) (Ev.now _)
  | 1, _ => simp [kdI, inA, inB, pickL]; exact Ev.bind (or_no gl gr hl' hra n2) (Ev.now _)
  | 2, _ => simp [kdI, inA, inB, pickL]; exact Ev.bind (and_no hl' hra gl gr n1) (Ev.now _)
  | 3, _ => simp [kdI, inA, inB, pickL]; exact Ev.bind (and_no gl gr hl' hra n2) (Ev.now _)
  | 4, _ => simp [kdI, inA, inB, pickL]; exact Ev.bind (minus_no hl' hra gl gr n1) (Ev.now _)
  | 5, _ => simp [kdI, inA, inB, pickL]; exact Ev.bind (minus_no gl gr hl' hra n2) (Ev.now _)
  | 6, _ => simp [kdI, inA, inB, pickL]; exact Ev.bind (not_no hl' hra h) (Ev.now _)
  | 7, _ => simp [kdI, inA, inB, pickL]; exact Ev.bind (notRunes_no hl' hra h) (Ev.now _)
  | 8, _ => simp [kdI, inA, inB, pickL]; exact Ev.bind (has_no hl' hra u h) (Ev.now _)
  | 9, _ => simp [kdI, inA, inB, pickL]; exact Ev.bind (size_no hl' hra h) (Ev.now _)
  | 10, _ => simp [kdI, inA, inB, pickL]; exact Ev.bind (pick_no hl' hra n h) (Ev.now _)
  | 11, _ => simp [kdI, inA, inB, pickL]; exact Ev.bind (parts_no gl gr hl' hra n2) (Ev.now _)
theorem plays_yes (a : List Rg) (u n : Int) (hl : a.length ≤ 1048576) (hn : n ≤ 9223372036854775807) (h : Sound a) (i : Nat) (hi : i < 12) : ∃ r, Ev (fun k => playI a u n k i) r ∧ err r ≠ 1 := by
  have hg := good_sound
  have hl' : a.length ≤ 1073741824 := by omega
  have fin : ∀ {g : Nat → Option Ans} {r : Ans}, Ev g r → err r ≠ 1 → ∃ r, Ev g r ∧ err r ≠ 1 := fun h1 h2 => ⟨_, h1, h2⟩
  unfold playI thistlelaw02_plays.f
  match i, hi with
  | 0, _ => obtain ⟨R, hR, _⟩ := or_is a good h hg; exact fin (by simp [kdI, inA, inB, pickL]; exact Ev.bind hR (Ev.now _)) (by simp [err])
  | 1, _ => obtain ⟨R, hR, _⟩ := or_is good a hg h; exact fin (by simp [kdI, inA, inB, pickL]; exact Ev.bind hR (Ev.now _)) (by simp [err])
  | 2, _ => obtain ⟨R, hR, _⟩ := and_is a good h hg; exact fin (by simp [kdI, inA, inB, pickL]; exact Ev.bind hR (Ev.now _)) (by simp [err])
  | 3, _ => obtain ⟨R, hR, _⟩ := and_is good a hg h; exact fin (by simp [kdI, inA, inB, pickL]; exact Ev.bind hR (Ev.now _)) (by simp [err])
  | 4, _ => obtain ⟨R, hR, _⟩ := minus_is a good h hg; exact fin (by simp [kdI, inA, inB, pickL]; exact Ev.bind hR (Ev.now _)) (by simp [err])
  | 5, _ => obtain ⟨R, hR, _⟩ := minus_is good a hg h; exact fin (by simp [kdI, inA, inB, pickL]; exact Ev.bind hR (Ev.now _)) (by simp [err])
  | 6, _ => obtain ⟨R, hR, _⟩ := not_is a h; exact fin (by simp [kdI, inA, inB, pickL]; exact Ev.bind hR (Ev.now _)) (by simp [err])
  | 7, _ => obtain ⟨R, hR, _⟩ := notRunes_is a h; exact fin (by simp [kdI, inA, inB, pickL]; exact Ev.bind hR (Ev.now _)) (by simp [err])
  | 8, _ => exact fin (by simp [kdI, inA, inB, pickL]; exact Ev.bind (Has_is a u hl' h) (Ev.now _)) (by simp [err])
  | 9, _ => exact fin (by simp [kdI, inA, inB, pickL]; exact Ev.bind (size_is a h) (Ev.now _)) (by simp [err])
  | 10, _ => exact fin (by simp [kdI, inA, inB, pickL]; exact Ev.bind (pick_is a h n hn) (Ev.now _)) (by simp only [err]; split <;> simp)
  | 11, _ =>
    obtain ⟨rs, Ks, hR, _⟩ := Parts_is [good, a] (fun l hm => by simp at hm; rcases hm with rfl | rfl <;> assumption) (by simp) (by simp [sets_Parts.tot, good]; omega)
    exact fin (by simp [kdI, inA, inB, pickL]; exact Ev.bind hR (Ev.now _)) (by simp [err])
theorem same_err : Ev (fun k => thistlelaw02_same.f k [] [] false 0 0 [] 1 [] [] false 0 0 [] 1) true := by
  unfold thistlelaw02_same.f
  refine Ev.bind (a := true) (Ev.step (f := fun _ => some true) (fun k => ?_) (Ev.now _)) (Ev.bind (a := true) (Ev.step (f := fun _ => some true) (fun k => ?_) (Ev.now _)) (Ev.bind (a := true) (Ev.step (f := fun _ => some true) (fun k => ?_) (Ev.now _)) (by simpa using Ev.now true)))
  · simp [thistleref02_SameRanges.f, thistleref02_SameRanges.l0]
  · simp [thistleref02_SameSets.f, thistleref02_SameSets.l0]
  · simp [thistleref02_SameRunes.f, thistleref02_SameRunes.l0]
theorem soundD0 (l : List Rg) (hl : l.length ≤ 1073741824) (hr : ∀ r ∈ l, R32 r) : ∀ (d i : Nat), l.length - i = d → i ≤ l.length → Sound (l.take i) → Ev (fun k => thistlelaw02_sound.l0 k l (i : Int)) (decide (Sound l))
  | 0, i, hd, hi, hs => by
    rw [List.take_of_length_le (by omega)] at hs
    rw [decide_eq_true hs]
    refine Ev.step (f := fun _ => some true) (fun k => ?_) (Ev.now _)
    rw [thistlelaw02_sound.l0, if_neg (by omega)]
  | d + 1, i, hd, hi, hs => by
    have hi : i < l.length := by omega
    have h32 := hr l[i] (List.getElem_mem hi)
    have htk : l.take (i + 1) = l.take i ++ [l[i]] := by rw [List.take_add_one, List.getElem?_eq_getElem hi]; rfl
    have hall : l = l.take (i + 1) ++ l.drop (i + 1) := (List.take_append_drop _ _).symm
    have hcont : Sound (l.take (i + 1)) → Ev (fun k => thistlelaw02_sound.l0 k l ((i + 1 : Nat) : Int)) (decide (Sound l)) := fun h => soundD0 l hl hr d (i + 1) (by omega) (by omega) h
    have hstop : ¬ Sound (l.take (i + 1)) → decide (Sound l) = false := fun h => decide_eq_false (by rw [hall]; exact not_sound_prefix h)
    unfold R32 I32 at h32
    obtain ⟨bad, hbad⟩ : ∃ b : Bool, b = !decide (okR l[i]) := ⟨_, rfl⟩
    refine Ev.step (f := fun k => thistlelaw02_sound.j1 k l (i : Int) l[i].f0 bad) (fun k => ?_) ?_
    · rw [thistlelaw02_sound.l0, if_pos (by omega), if_pos (by omega), rdT l i hi, wrap64_of _ (by omega), wrap64_of l[i].f1 (by omega), unit_is]
      simp only [Option.bind_some]
      have hlaw := okR_law l[i]
      by_cases h1 : isU l[i].f0 = true
      · rw [if_pos h1, unit_is]
        simp only [Option.bind_some]
        by_cases h2 : isU l[i].f1 = true
        · rw [if_pos h2]
          by_cases h3 : l[i].f0 > l[i].f1
          · rw [if_pos h3, show bad = true by rw [hbad, decide_eq_false (fun h => (hlaw.1 h).2.2.1 h3)]; rfl]
          · rw [if_neg h3, kind_is, kind_is]
            simp only [Option.bind_some]
            rw [show (kindOf l[i].f0 != kindOf l[i].f1) = bad by
              rw [hbad]
              by_cases h4 : kindOf l[i].f0 = kindOf l[i].f1
              · rw [decide_eq_true (hlaw.2 ⟨h1, h2, h3, h4⟩)]; simp [h4]
              · rw [decide_eq_false (fun h => h4 (hlaw.1 h).2.2.2)]; simpa using h4]
        · rw [if_neg h2, show bad = true by rw [hbad, decide_eq_false (fun h => h2 (hlaw.1 h).2.1)]; rfl]
      · rw [if_neg h1, show bad = true by rw [hbad, decide_eq_false (fun h => h1 (hlaw.1 h).1)]; rfl]
    · by_cases hok : okR l[i]
      · obtain rfl : bad = false := by rw [hbad]; simp [hok]
        by_cases h0 : i = 0
        · subst h0
          have hs1 : Sound (l.take 1) := by rw [htk, sound_snoc]; exact ⟨hs, hok, by simp⟩
          refine Ev.step (f := fun k => thistlelaw02_sound.l0 k l ((1 : Nat) : Int)) (fun k => ?_) (hcont hs1)
          rw [thistlelaw02_sound.j1, if_neg (by simp), if_neg (by omega), wrapS 0 (by omega)]
        · obtain ⟨j, rfl⟩ : ∃ j, i = j + 1 := ⟨i - 1, by omega⟩
          have hj : j < l.length := by omega
          have h32j := hr l[j] (List.getElem_mem hj)
          unfold R32 I32 at h32j
          have htj : l.take (j + 1) = l.take j ++ [l[j]] := by rw [List.take_add_one, List.getElem?_eq_getElem hj]; rfl
          have e1 : wrap64 (((j + 1 : Nat) : Int) - 1) = (j : Int) := by unfold wrap64; omega
          have hiff : Sound (l.take (j + 1 + 1)) ↔ l[j].f1 + 1 < l[j + 1].f0 := by
            rw [htk, sound_snoc]
            constructor
            · rintro ⟨_, _, h⟩; exact h _ (by rw [htj]; exact List.mem_append_right _ (List.mem_singleton.2 rfl))
            · intro h
              refine ⟨hs, hok, ?_⟩
              rw [htj] at hs ⊢
              exact (sound_last hs).2 h
          refine Ev.step (f := fun k => if l[j].f1 + 1 < l[j + 1].f0 then thistlelaw02_sound.l0 k l ((j + 1 + 1 : Nat) : Int) else some false) (fun k => ?_) ?_
          · rw [thistlelaw02_sound.j1, if_neg (by simp), if_pos (by omega), e1, if_pos (by omega), if_pos (by omega), rdT l j hj, wrap64_of l[j].f1 (by omega), wrap64_of _ (by omega), wrapS (j + 1) (by omega)]
            by_cases h1 : l[j + 1].f0 ≤ l[j].f1 + 1
            · rw [if_pos h1, if_neg (by omega)]
            · rw [if_neg h1, if_pos (by omega)]
          · by_cases h : l[j].f1 + 1 < l[j + 1].f0
            · exact ev_if_pos h (hcont (hiff.2 h))
            · rw [hstop (fun hs => h (hiff.1 hs))]; exact ev_if_neg h (Ev.now _)
      · obtain rfl : bad = true := by rw [hbad]; simp [hok]
        have : ¬ Sound (l.take (i + 1)) := by rw [htk, sound_snoc]; exact fun h => hok h.2.1
        rw [hstop this]
        refine Ev.step (f := fun _ => some false) (fun k => ?_) (Ev.now _)
        rw [thistlelaw02_sound.j1, if_pos rfl]
theorem sound_dec (l : List Rg) (hl : l.length ≤ 1073741824) (hr : ∀ r ∈ l, R32 r) : Ev (fun k => thistlelaw02_sound.f k l) (decide (Sound l)) := by
  simpa [thistlelaw02_sound.f] using soundD0 l hl hr l.length 0 (by omega) (by omega) ⟨by simp, by simp⟩
theorem walk_is (l : List Rg) (hl : l.length ≤ 1048576) (hr : ∀ r ∈ l, R32 r) (n : Int) : Ev (fun k => thistlelaw02_walk.f k l n) ((WalkT.units (if Sound l then l else [])).take (WalkT.stopAt n)) := by
  unfold thistlelaw02_walk.f
  refine ev_if_pos (by omega) (Ev.bind (check_is l (by omega) hr) ?_)
  by_cases hs : Sound l
  · have hs' : WalkT.Sound l := hs
    simp only [if_pos hs, if_true]
    rw [if_pos hs']
    exact Ev.now _
  · simp only [if_neg hs]
    have e : WalkT.Sound (if (1 : Int) = 0 then l else []) := by rw [if_neg (by decide)]; exact ⟨by simp, by simp⟩
    rw [if_pos e, if_neg (by decide)]
    exact Ev.now _
end Go.Proofs.YtoggmegpodmfnaaDoor.Q
namespace Go.Proofs.YtoggmegpodmfnaaDoor.Q
open Go.RowKit Go.Proofs.YtoggmegpodmfnaaDoorW.PrintWords Go.Proofs.YtoggmegpodmfnaaDoorW.PrintLast Go.Proofs.YtoggmegpodmfnaaDoorW.PrintMore Go.Proofs.YtoggmegpodmfnaaDoor.PY Go.Proofs.YtoggmegpodmfnaaDoor.B
set_option linter.unusedVariables false
set_option linter.unusedSimpArgs false
open Go.Shelf
theorem blk_on {W W' : World} {b : Nat} {o : Obj} (h : W.heap[b]? = some o) (hb : Below W.heap.size W W') : W'.heap[b]? = some o := (hb.block b (lt_of_block h)).trans h
def opsCells (a g : Value) (u n : Int) (L : Value) : Array Value :=
  #[.int .i64 3, a, g, .int .i32 0, .int .i64 0, .slice none 0 0, .int .i64 3, g, a, .int .i32 0, .int .i64 0, .slice none 0 0,
    .int .i64 4, a, g, .int .i32 0, .int .i64 0, .slice none 0 0, .int .i64 4, g, a, .int .i32 0, .int .i64 0, .slice none 0 0,
    .int .i64 5, a, g, .int .i32 0, .int .i64 0, .slice none 0 0, .int .i64 5, g, a, .int .i32 0, .int .i64 0, .slice none 0 0,
    .int .i64 6, a, .slice none 0 0, .int .i32 0, .int .i64 0, .slice none 0 0, .int .i64 7, a, .slice none 0 0, .int .i32 0, .int .i64 0, .slice none 0 0,
    .int .i64 8, a, .slice none 0 0, .int .i32 u, .int .i64 0, .slice none 0 0, .int .i64 9, a, .slice none 0 0, .int .i32 0, .int .i64 0, .slice none 0 0,
    .int .i64 10, a, .slice none 0 0, .int .i32 0, .int .i64 n, .slice none 0 0, .int .i64 11, .slice none 0 0, .slice none 0 0, .int .i32 0, .int .i64 0, L]
structure Lits (g : Nat) (a : Value) (u n : Int) (W : World) : Prop where
  bG : W.heap[g]? = some (.cells #[.int .i32 97, .int .i32 99] 29 (0, 0))
  bL : W.heap[g + 1]? = some (.cells #[.slice (some ⟨g, 0, none⟩) 1 1, a] 22 (0, 0))
  bO : W.heap[g + 1 + 1]? = some (.cells (opsCells a (.slice (some ⟨g, 0, none⟩) 1 1) u n (.slice (some ⟨g + 1, 0, none⟩) 2 2)) 60 (0, 0))
theorem Lits.on {g : Nat} {a : Value} {u n : Int} {W W' : World} (h : Lits g a u n W) (hb : Below W.heap.size W W') : Lits g a u n W' := ⟨blk_on h.bG hb, blk_on h.bL hb, blk_on h.bO hb⟩
theorem lits_mk (w1 : World) (a : Value) (u n : Int) : Lits w1.heap.size a u n (((w1.alloc (.cells #[.int .i32 97, .int .i32 99] 29)).alloc (.cells #[.slice (some ⟨w1.heap.size, 0, none⟩) 1 1, a] 22)).alloc (.cells (opsCells a (.slice (some ⟨w1.heap.size, 0, none⟩) 1 1) u n (.slice (some ⟨w1.heap.size + 1, 0, none⟩) 2 2)) 60)) := by
  have h1 := World.alloc_heap_new w1 (.cells #[.int .i32 97, .int .i32 99] 29)
  have h2 := World.alloc_heap_new (w1.alloc (.cells #[.int .i32 97, .int .i32 99] 29)) (.cells #[.slice (some ⟨w1.heap.size, 0, none⟩) 1 1, a] 22)
  have h3 := World.alloc_heap_new ((w1.alloc (.cells #[.int .i32 97, .int .i32 99] 29)).alloc (.cells #[.slice (some ⟨w1.heap.size, 0, none⟩) 1 1, a] 22)) (.cells (opsCells a (.slice (some ⟨w1.heap.size, 0, none⟩) 1 1) u n (.slice (some ⟨w1.heap.size + 1, 0, none⟩) 2 2)) 60)
  rw [World.size_alloc] at h2
  rw [World.size_alloc, World.size_alloc] at h3
  exact ⟨blk_on (blk_on h1 (below_alloc (Below.refl _ _) _)) (below_alloc (Below.refl _ _) _), blk_on h2 (below_alloc (Below.refl _ _) _), h3⟩
theorem good_C {g : Nat} {W : World} (h : W.heap[g]? = some (.cells #[.int .i32 97, .int .i32 99] 29 (0, 0))) : Kd.C k29 W (some ⟨g, 0, none⟩) good.length good := by
  refine ⟨rfl, by decide, fun _ => ⟨⟨g, 0, none⟩, rfl, fun j p hp => ?_⟩⟩
  match j, hp with
  | 0, hp =>
    obtain rfl := Option.some.inj hp
    refine ⟨[.int .i32 97, .int .i32 99], rfl, k29_mk W ⟨97, 99⟩, fun i v hv => ?_⟩
    match i, hv with
    | 0, hv => obtain rfl := Option.some.inj hv; exact cell_of_row W g 0 _ _ _ h
    | 1, hv => obtain rfl := Option.some.inj hv; exact cell_of_row W g 1 _ _ _ h
theorem list_C {g : Nat} {A0 : Option Addr} {c0 : Nat} {l0 : List Rg} {W : World} (h0 : W.heap[g]? = some (.cells #[.int .i32 97, .int .i32 99] 29 (0, 0))) (h : W.heap[g + 1]? = some (.cells #[.slice (some ⟨g, 0, none⟩) 1 1, .slice A0 l0.length c0] 22 (0, 0)))
    (hr0 : Kd.C k29 W A0 l0.length l0) (hc0 : l0.length ≤ c0) : Kd.C (Kd.slice 29 k29) W (some ⟨g + 1, 0, none⟩) [good, l0].length [good, l0] := by
  refine ⟨rfl, by simp, fun _ => ⟨⟨g + 1, 0, none⟩, rfl, fun j p hp => ?_⟩⟩
  match j, hp with
  | 0, hp =>
    obtain rfl := Option.some.inj hp
    refine ⟨[.slice (some ⟨g, 0, none⟩) 1 1], rfl, ⟨_, _, rfl, Nat.le_refl 1, good_C h0⟩, fun i v hv => ?_⟩
    match i, hv with
    | 0, hv => obtain rfl := Option.some.inj hv; exact cell_of_row W (g + 1) 0 _ _ _ h
  | 1, hp =>
    obtain rfl := Option.some.inj hp
    refine ⟨[.slice A0 l0.length c0], rfl, ⟨_, _, rfl, hc0, hr0⟩, fun i v hv => ?_⟩
    match i, hv with
    | 0, hv => obtain rfl := Option.some.inj hv; exact cell_of_row W (g + 1) 1 _ _ _ h
  | j + 2, hp => simp at hp
structure Lies (W : World) (A : Option Addr) (c : Nat) (l : List Rg) : Prop where
  read : Kd.C k29 W A l.length l
  cap : l.length ≤ c
theorem lies_nil (W : World) : Lies W none 0 [] := ⟨Kd.C_nil _ _, Nat.le_refl _⟩
theorem op_at {g : Nat} {A0 : Option Addr} {c0 : Nat} {l0 : List Rg} {u n : Int} {W : World} (h : Lits g (.slice A0 l0.length c0) u n W) (hr0 : Kd.C k29 W A0 l0.length l0) (hc0 : l0.length ≤ c0) (i : Nat) (hi : i < 12) :
    ∃ (Aa : Option Addr) (ca : Nat) (la : List Rg) (Ab : Option Addr) (cb : Nat) (lb : List Rg) (uu nn kk : Int) (AL : Option Addr) (cL : Nat) (LL : List (List Rg)),
      (W.cell? ⟨g + 1 + 1, i * 6, none⟩ = some (.int .i64 kk) ∧ W.cell? ⟨g + 1 + 1, i * 6 + 1, none⟩ = some (.slice Aa la.length ca) ∧ W.cell? ⟨g + 1 + 1, i * 6 + 2, none⟩ = some (.slice Ab lb.length cb) ∧ W.cell? ⟨g + 1 + 1, i * 6 + 3, none⟩ = some (.int .i32 uu) ∧ W.cell? ⟨g + 1 + 1, i * 6 + 4, none⟩ = some (.int .i64 nn) ∧ W.cell? ⟨g + 1 + 1, i * 6 + 5, none⟩ = some (.slice AL LL.length cL)) ∧
      Lies W Aa ca la ∧ Lies W Ab cb lb ∧ (Kd.C (Kd.slice 29 k29) W AL LL.length LL ∧ LL.length ≤ cL) ∧ ∀ k, thistlelaw02_plays.f k kk la lb uu nn LL = playI l0 u n k i := by
  have c : ∀ j v, (opsCells (.slice A0 l0.length c0) (.slice (some ⟨g, 0, none⟩) 1 1) u n (.slice (some ⟨g + 1, 0, none⟩) 2 2))[j]? = some v → W.cell? ⟨g + 1 + 1, j, none⟩ = some v := fun j v hj => (cell_of_row W (g + 1 + 1) j _ _ _ h.bO).trans hj
  have la : Lies W A0 c0 l0 := ⟨hr0, hc0⟩
  have lg : Lies W (some ⟨g, 0, none⟩) 1 good := ⟨good_C h.bG, Nat.le_refl 1⟩
  have ln := lies_nil W
  have Ln : Kd.C (Kd.slice 29 k29) W none ([] : List (List Rg)).length [] ∧ ([] : List (List Rg)).length ≤ 0 := ⟨Kd.C_nil _ _, Nat.le_refl _⟩
  match i, hi with
  | 0, _ => exact ⟨_, _, l0, _, _, good, 0, 0, 3, _, _, [], ⟨c 0 _ rfl, c 1 _ rfl, c 2 _ rfl, c 3 _ rfl, c 4 _ rfl, c 5 _ rfl⟩, la, lg, Ln, fun _ => rfl⟩
  | 1, _ => exact ⟨_, _, good, _, _, l0, 0, 0, 3, _, _, [], ⟨c 6 _ rfl, c 7 _ rfl, c 8 _ rfl, c 9 _ rfl, c 10 _ rfl, c 11 _ rfl⟩, lg, la, Ln, fun _ => rfl⟩
  | 2, _ => exact ⟨_, _, l0, _, _, good, 0, 0, 4, _, _, [], ⟨c 12 _ rfl, c 13 _ rfl, c 14 _ rfl, c 15 _ rfl, c 16 _ rfl, c 17 _ rfl⟩, la, lg, Ln, fun _ => rfl⟩
  | 3, _ => exact ⟨_, _, good, _, _, l0, 0, 0, 4, _, _, [], ⟨c 18 _ rfl, c 19 _ rfl, c 20 _ rfl, c 21 _ rfl, c 22 _ rfl, c 23 _ rfl⟩, lg, la, Ln, fun _ => rfl⟩
  | 4, _ => exact ⟨_, _, l0, _, _, good, 0, 0, 5, _, _, [], ⟨c 24 _ rfl, c 25 _ rfl, c 26 _ rfl, c 27 _ rfl, c 28 _ rfl, c 29 _ rfl⟩, la, lg, Ln, fun _ => rfl⟩
  | 5, _ => exact ⟨_, _, good, _, _, l0, 0, 0, 5, _, _, [], ⟨c 30 _ rfl, c 31 _ rfl, c 32 _ rfl, c 33 _ rfl, c 34 _ rfl, c 35 _ rfl⟩, lg, la, Ln, fun _ => rfl⟩
  | 6, _ => exact ⟨_, _, l0, _, _, [], 0, 0, 6, _, _, [], ⟨c 36 _ rfl, c 37 _ rfl, c 38 _ rfl, c 39 _ rfl, c 40 _ rfl, c 41 _ rfl⟩, la, ln, Ln, fun _ => rfl⟩
  | 7, _ => exact ⟨_, _, l0, _, _, [], 0, 0, 7, _, _, [], ⟨c 42 _ rfl, c 43 _ rfl, c 44 _ rfl, c 45 _ rfl, c 46 _ rfl, c 47 _ rfl⟩, la, ln, Ln, fun _ => rfl⟩
  | 8, _ => exact ⟨_, _, l0, _, _, [], u, 0, 8, _, _, [], ⟨c 48 _ rfl, c 49 _ rfl, c 50 _ rfl, c 51 _ rfl, c 52 _ rfl, c 53 _ rfl⟩, la, ln, Ln, fun _ => rfl⟩
  | 9, _ => exact ⟨_, _, l0, _, _, [], 0, 0, 9, _, _, [], ⟨c 54 _ rfl, c 55 _ rfl, c 56 _ rfl, c 57 _ rfl, c 58 _ rfl, c 59 _ rfl⟩, la, ln, Ln, fun _ => rfl⟩
  | 10, _ => exact ⟨_, _, l0, _, _, [], 0, n, 10, _, _, [], ⟨c 60 _ rfl, c 61 _ rfl, c 62 _ rfl, c 63 _ rfl, c 64 _ rfl, c 65 _ rfl⟩, la, ln, Ln, fun _ => rfl⟩
  | 11, _ => exact ⟨_, _, [], _, _, [], 0, 0, 11, _, _, [good, l0], ⟨c 66 _ rfl, c 67 _ rfl, c 68 _ rfl, c 69 _ rfl, c 70 _ rfl, c 71 _ rfl⟩, ln, ln, ⟨list_C h.bG h.bL hr0 hc0, Nat.le_refl 2⟩, fun _ => rfl⟩
theorem wrap12 {i : Nat} (h : i < 12) : wrap64 ((i : Int) + 1) = (i : Int) + 1 := by unfold wrap64; omega
theorem meas12 {i : Nat} {j : Int} (h : i < 12) (hj : wrap64 ((i : Int) + 1) = j) : 12 - (intOf (.int .i64 (wrap64 ((i : Int) + 1)))).toNat < 12 - (intOf (.int .i64 (i : Int))).toNat := by rw [wrap12 h]; simp [intOf]; omega
theorem units_take1 {l : List Rg} (h : Sound l) {R : List Int} (hR : R = (WalkT.units l).take (WalkT.stopAt 1)) : R.length = 0 ↔ l.length = 0 := by
  have e : WalkT.stopAt 1 = 1 := by decide
  rw [hR, e]
  cases l with
  | nil => simp [WalkT.units]
  | cons x l =>
    have hx := (h.1 x (by simp)).2.2
    have : (WalkT.units (x :: l)).length ≥ 1 := by rw [WalkT.units_cons, List.length_append, WalkT.uR_len]; omega
    simp only [List.length_take, List.length_cons]
    omega
end Go.Proofs.YtoggmegpodmfnaaDoor.Q
namespace Go.Proofs.YtoggmegpodmfnaaDoor.Q
open Go.RowKit Go.Proofs.YtoggmegpodmfnaaDoorW.PrintWords Go.Proofs.YtoggmegpodmfnaaDoorW.PrintLast Go.Proofs.YtoggmegpodmfnaaDoorW.PrintMore Go.Proofs.YtoggmegpodmfnaaDoor.PY Go.Proofs.YtoggmegpodmfnaaDoor.B
set_option linter.unusedVariables false
set_option linter.unusedSimpArgs false
open Go.Shelf
set_option maxHeartbeats 8000000 in
set_option maxRecDepth 100000 in
theorem uns_no (A0 : Option Addr) (c0 : Nat) (l0 : List Rg) (u n : Int) (hl : l0.length ≤ 1048576) (hra : ∀ r ∈ l0, R32 r) (hn : n ≤ 9223372036854775807) (hs : ¬ Sound l0) (w : World)
    (hr0 : Kd.C k29 w A0 l0.length l0) (hc0 : l0.length ≤ c0) (hG : Glob w) :
    Calls Tryd.prog 7 #[.slice A0 l0.length c0, .int .i32 u, .int .i64 n] w fun e w' => e = .returned (.bool true) ∧ Below w.heap.size w w' := by
  obtain ⟨Kw, hkw⟩ := wakes_is
  have hw := hkw Kw (Nat.le_refl _)
  obtain ⟨Ks, hks⟩ := sound_dec l0 (by omega) hra
  have hsd := hks Ks (Nat.le_refl _)
  obtain ⟨Kc, hkc⟩ := check_is l0 (by omega) hra
  have hck := hkc Kc (Nat.le_refl _)
  obtain ⟨Kp, hkp⟩ := ev_all (playI l0 u n) (fun _ r => r = (([], [], false, 0, 0, [], 1) : Ans)) 12 (fun i hi => plays_no l0 u n hl hra hs i hi)
  have hpl := hkp Kp (Nat.le_refl _)
  obtain ⟨Ke, hke⟩ := same_err
  have hse := hke Ke (Nat.le_refl _)
  obtain ⟨Kl, hkl⟩ := walk_is l0 hl hra 1
  have hwk := hkl Kl (Nat.le_refl _)
  rw [decide_eq_false hs] at hsd
  rw [if_neg hs] at hck hwk
  have HW := Aside0.mk hw
  have HSD := Aside0.mk hsd
  have HCK := Aside0.mk hck
  have HPL := Aside0.mk hpl
  have HSE := Aside0.mk hse
  have HWK := Aside0.mk hwk
  have HR0 := Aside0.mk hr0
  have HC0 := Aside0.mk hc0
  have HG := Aside0.mk hG
  have HS := Aside0.mk hs
  clear hw hkw hr0 hG hsd hks hck hkc hpl hkp hse hke hwk hkl hs hl hra hn hc0
  go_enter Tryd.func7, Tryd.ntmps7
  go_wp2_with (first
    | (go_at_call 8; (with_reducible refine (thistlelaw02_wakes.calls Kw true _ HG.out HW.out).mono ?_); rintro e w1 ⟨rfl, hb1⟩; have B1 := Aside0.mk hb1; clear hb1)
    | (go_at_call 11; (refine (thistlelaw02_sound.calls Ks A0 c0 l0 false _ (Kd.C_alloc (Kd.C_alloc (Kd.C_alloc (Kd.C_below HR0.out B1.out) _) _) _) HC0.out HSD.out).mono ?_); rintro e w2 ⟨rfl, ⟨nd, hw2⟩⟩; have HL2 := Aside0.mk (show Lits w1.heap.size (.slice A0 l0.length c0) u n w2 by rw [hw2]; exact (lits_mk w1 _ u n).on (pw_below_drewN (Below.refl _ _) nd)); have B2 := Aside0.mk (show Below w.heap.size w w2 by rw [hw2]; exact pw_below_drewN (below_alloc (below_alloc (below_alloc B1.out _) _) _) nd); clear hw2)
    | (go_at_call 10; (with_reducible refine (sets_Check.calls Kc A0 c0 l0 1 _ (Kd.C_below HR0.out B2.out) HC0.out (HG.out.of_below B2.out) HCK.out).mono ?_); rintro e w3 ⟨rfl, hb3⟩; have B3 := Aside0.mk (below_step B2.out hb3); have HL3 := Aside0.mk (HL2.out.on hb3); clear hb3))
  obtain ⟨g, hg⟩ : ∃ g, g = w1.heap.size := ⟨_, rfl⟩
  rw [← hg] at HL3
  try rw [← hg]
  clear hg
  go_loopw [11] (fun vi wr => ∃ i : Nat, vi = .int .i64 (i : Int) ∧ i ≤ 12 ∧ Aside0 (Below w3.heap.size w3 wr)) (fun vi _ => 12 - (intOf vi).toNat)
  case atStart => exact ⟨0, rfl, Nat.zero_le _, ⟨Below.refl _ _⟩⟩
  case round =>
    obtain ⟨i, rfl, hi, HBR⟩ := hrel
    by_cases hlt : i < 12
    · have hd1 : decide ((i : Int) < 12) = true := decide_eq_true (by omega)
      have hp0 := eq_true (Int.natCast_nonneg i)
      have hq0 := eq_true (show (i : Int) < 12 by omega)
      obtain ⟨Aa, ca, la, Ab, cb, lb, uu, nn, kk, AL, cL, LL, ⟨x0, x1, x2, x3, x4, x5⟩, ya, yb, yL, hpf⟩ := op_at (HL3.out.on HBR.out) (Kd.C_below HR0.out (below_step B3.out HBR.out)) HC0.out i hlt
      obtain ⟨r, hr, hP⟩ := HPL.out i hlt
      rw [← hpf] at hr
      have X := Aside0.mk (And.intro x0 (And.intro x1 (And.intro x2 (And.intro x3 (And.intro x4 x5)))))
      have YA := Aside0.mk ya
      have YB := Aside0.mk yb
      have YL := Aside0.mk yL
      have HR := Aside0.mk hr
      have HP := Aside0.mk hP
      have HLT := Aside0.mk hlt
      clear ya yb yL hpf hr hP hlt hi X
      obtain ⟨r1, r2, r3, r4, r5, r6, r7⟩ := r
      have hb7 : (r7 == 1) = true := (by have := HP.out; simp only [Prod.mk.injEq] at this; rw [this.2.2.2.2.2.2]; rfl)
      have HSE2 := Aside0.mk (show thistlelaw02_same.f Ke r1 r2 r3 r4 r5 r6 r7 [] [] false 0 0 [] 1 = some true by have h := HP.out; simp only [Prod.mk.injEq] at h; rw [h.1, h.2.1, h.2.2.1, h.2.2.2.1, h.2.2.2.2.1, h.2.2.2.2.2.1, h.2.2.2.2.2.2]; exact HSE.out)
      have hww := wrap12 HLT.out
      go_wp2_with (first
        | (go_at_call 31; (refine (thistlelaw02_plays.calls Kp kk Aa ca la Ab cb lb uu nn AL cL LL r1 r2 r3 r4 r5 r6 r7 wr YA.out.read YA.out.cap YB.out.read YB.out.cap YL.out.1 YL.out.2 (HG.out.of_below (below_step B3.out HBR.out)) HR.out).mono ?_); rintro e w4 ⟨v0, v1, v5, rfl, hv0, hv1, hv5, hb4⟩; have B4 := Aside0.mk (below_step HBR.out hb4); obtain ⟨Q0, d0, rfl, hd0, hC0⟩ := Kd.R_reads hv0; obtain ⟨Q1, d1, rfl, hd1, hC1⟩ := Kd.R_reads (Kd.S_R hv1); obtain ⟨Q5, d5, rfl, hd5, hC5⟩ := Kd.R_reads hv5; have V0 := Aside0.mk (And.intro hd0 hC0); have V1 := Aside0.mk (And.intro hd1 hC1); have V5 := Aside0.mk (And.intro hd5 hC5); clear hb4 hv0 hv1 hv5 hd0 hd1 hd5 hC0 hC1 hC5 x0 x1 x2 x3 x4 x5)
        | (go_at_call 32; (refine (thistlelaw02_same.calls Ke Q0 d0 r1 Q1 d1 r2 r3 r4 r5 Q5 d5 r6 r7 none 0 [] none 0 [] false 0 0 none 0 [] 1 true _ (Kd.C_alloc V0.out.2 _) V0.out.1 (Kd.C_alloc V1.out.2 _) V1.out.1 (Kd.C_alloc V5.out.2 _) V5.out.1 (Kd.C_nil _ _) (Nat.le_refl _) (Kd.C_nil _ _) (Nat.le_refl _) (Kd.C_nil _ _) (Nat.le_refl _) HSE2.out).mono ?_); rintro e w5 ⟨rfl, hb5⟩; have B5 := Aside0.mk (below_step (below_alloc B4.out _) hb5); clear hb5))
      exact ⟨⟨i + 1, by rw [hww]; rfl, HLT.out, ⟨B5.out⟩⟩, meas12 HLT.out hww⟩
    · have hd1 : decide ((i : Int) < 12) = false := decide_eq_false (by omega)
      obtain ⟨R, hRe⟩ : ∃ R, R = (WalkT.units []).take (WalkT.stopAt 1) := ⟨_, rfl⟩
      have hwk := HWK.out
      rw [← hRe] at hwk
      have HK1 := Aside0.mk hwk
      obtain rfl : R = [] := by rw [hRe]; simp [WalkT.units]
      clear hwk hlt hi hRe
      go_wp2_with (go_at_call 33; (refine (thistlelaw02_walk.calls Kl A0 c0 l0 1 [] wr (Kd.C_below HR0.out (below_step B3.out HBR.out)) HC0.out (HG.out.of_below (below_step B3.out HBR.out)) HK1.out).mono ?_); rintro e w4 ⟨v0, rfl, hv0, hb4⟩; have B4 := Aside0.mk (below_step (below_step B3.out HBR.out) hb4); obtain ⟨Q0, d0, rfl, hd0, hC0⟩ := Kd.R_reads hv0; clear hb4 hv0 hd0 hC0)
      go_ret
      exact ⟨by first | rfl | simp, B4.out⟩
set_option maxHeartbeats 8000000 in
set_option maxRecDepth 100000 in
theorem uns_yes (A0 : Option Addr) (c0 : Nat) (l0 : List Rg) (u n : Int) (hl : l0.length ≤ 1048576) (hra : ∀ r ∈ l0, R32 r) (hn : n ≤ 9223372036854775807) (hs : Sound l0) (w : World)
    (hr0 : Kd.C k29 w A0 l0.length l0) (hc0 : l0.length ≤ c0) (hG : Glob w) :
    Calls Tryd.prog 7 #[.slice A0 l0.length c0, .int .i32 u, .int .i64 n] w fun e w' => e = .returned (.bool true) ∧ Below w.heap.size w w' := by
  obtain ⟨Kw, hkw⟩ := wakes_is
  have hw := hkw Kw (Nat.le_refl _)
  obtain ⟨Ks, hks⟩ := sound_dec l0 (by omega) hra
  have hsd := hks Ks (Nat.le_refl _)
  obtain ⟨Kc, hkc⟩ := check_is l0 (by omega) hra
  have hck := hkc Kc (Nat.le_refl _)
  obtain ⟨Kp, hkp⟩ := ev_all (playI l0 u n) (fun _ r => err r ≠ 1) 12 (fun i hi => plays_yes l0 u n hl hn hs i hi)
  have hpl := hkp Kp (Nat.le_refl _)
  obtain ⟨Ke, hke⟩ := same_err
  have hse := hke Ke (Nat.le_refl _)
  obtain ⟨Kl, hkl⟩ := walk_is l0 hl hra 1
  have hwk := hkl Kl (Nat.le_refl _)
  rw [decide_eq_true hs] at hsd
  rw [if_pos hs] at hck hwk
  have HW := Aside0.mk hw
  have HSD := Aside0.mk hsd
  have HCK := Aside0.mk hck
  have HPL := Aside0.mk hpl
  have HSE := Aside0.mk hse
  have HWK := Aside0.mk hwk
  have HR0 := Aside0.mk hr0
  have HC0 := Aside0.mk hc0
  have HG := Aside0.mk hG
  have HS := Aside0.mk hs
  clear hw hkw hr0 hG hsd hks hck hkc hpl hkp hse hke hwk hkl hs hl hra hn hc0
  go_enter Tryd.func7, Tryd.ntmps7
  go_wp2_with (first
    | (go_at_call 8; (with_reducible refine (thistlelaw02_wakes.calls Kw true _ HG.out HW.out).mono ?_); rintro e w1 ⟨rfl, hb1⟩; have B1 := Aside0.mk hb1; clear hb1)
    | (go_at_call 11; (refine (thistlelaw02_sound.calls Ks A0 c0 l0 true _ (Kd.C_alloc (Kd.C_alloc (Kd.C_alloc (Kd.C_below HR0.out B1.out) _) _) _) HC0.out HSD.out).mono ?_); rintro e w2 ⟨rfl, ⟨nd, hw2⟩⟩; have HL2 := Aside0.mk (show Lits w1.heap.size (.slice A0 l0.length c0) u n w2 by rw [hw2]; exact (lits_mk w1 _ u n).on (pw_below_drewN (Below.refl _ _) nd)); have B2 := Aside0.mk (show Below w.heap.size w w2 by rw [hw2]; exact pw_below_drewN (below_alloc (below_alloc (below_alloc B1.out _) _) _) nd); clear hw2)
    | (go_at_call 10; (with_reducible refine (sets_Check.calls Kc A0 c0 l0 0 _ (Kd.C_below HR0.out B2.out) HC0.out (HG.out.of_below B2.out) HCK.out).mono ?_); rintro e w3 ⟨rfl, hb3⟩; have B3 := Aside0.mk (below_step B2.out hb3); have HL3 := Aside0.mk (HL2.out.on hb3); clear hb3))
  obtain ⟨g, hg⟩ : ∃ g, g = w1.heap.size := ⟨_, rfl⟩
  rw [← hg] at HL3
  try rw [← hg]
  clear hg
  go_loopw [11] (fun vi wr => ∃ i : Nat, vi = .int .i64 (i : Int) ∧ i ≤ 12 ∧ Aside0 (Below w3.heap.size w3 wr)) (fun vi _ => 12 - (intOf vi).toNat)
  case atStart => exact ⟨0, rfl, Nat.zero_le _, ⟨Below.refl _ _⟩⟩
  case round =>
    obtain ⟨i, rfl, hi, HBR⟩ := hrel
    by_cases hlt : i < 12
    · have hd1 : decide ((i : Int) < 12) = true := decide_eq_true (by omega)
      have hp0 := eq_true (Int.natCast_nonneg i)
      have hq0 := eq_true (show (i : Int) < 12 by omega)
      obtain ⟨Aa, ca, la, Ab, cb, lb, uu, nn, kk, AL, cL, LL, ⟨x0, x1, x2, x3, x4, x5⟩, ya, yb, yL, hpf⟩ := op_at (HL3.out.on HBR.out) (Kd.C_below HR0.out (below_step B3.out HBR.out)) HC0.out i hlt
      obtain ⟨r, hr, hP⟩ := HPL.out i hlt
      rw [← hpf] at hr
      have X := Aside0.mk (And.intro x0 (And.intro x1 (And.intro x2 (And.intro x3 (And.intro x4 x5)))))
      have YA := Aside0.mk ya
      have YB := Aside0.mk yb
      have YL := Aside0.mk yL
      have HR := Aside0.mk hr
      have HP := Aside0.mk hP
      have HLT := Aside0.mk hlt
      clear ya yb yL hpf hr hP hlt hi X
      obtain ⟨r1, r2, r3, r4, r5, r6, r7⟩ := r
      have hb7 : (r7 == 1) = false := (by simpa [err] using HP.out)
      have hww := wrap12 HLT.out
      go_wp2_with (first
        | (go_at_call 31; (refine (thistlelaw02_plays.calls Kp kk Aa ca la Ab cb lb uu nn AL cL LL r1 r2 r3 r4 r5 r6 r7 wr YA.out.read YA.out.cap YB.out.read YB.out.cap YL.out.1 YL.out.2 (HG.out.of_below (below_step B3.out HBR.out)) HR.out).mono ?_); rintro e w4 ⟨v0, v1, v5, rfl, hv0, hv1, hv5, hb4⟩; have B4 := Aside0.mk (below_step HBR.out hb4); obtain ⟨Q0, d0, rfl, hd0, hC0⟩ := Kd.R_reads hv0; obtain ⟨Q1, d1, rfl, hd1, hC1⟩ := Kd.R_reads (Kd.S_R hv1); obtain ⟨Q5, d5, rfl, hd5, hC5⟩ := Kd.R_reads hv5; have V0 := Aside0.mk (And.intro hd0 hC0); have V1 := Aside0.mk (And.intro hd1 hC1); have V5 := Aside0.mk (And.intro hd5 hC5); clear hb4 hv0 hv1 hv5 hd0 hd1 hd5 hC0 hC1 hC5 x0 x1 x2 x3 x4 x5))
      exact ⟨⟨i + 1, by rw [hww]; rfl, HLT.out, ⟨below_alloc B4.out _⟩⟩, meas12 HLT.out hww⟩
    · have hd1 : decide ((i : Int) < 12) = false := decide_eq_false (by omega)
      obtain ⟨R, hRe⟩ : ∃ R, R = (WalkT.units l0).take (WalkT.stopAt 1) := ⟨_, rfl⟩
      have hwk := HWK.out
      rw [← hRe] at hwk
      have HK1 := Aside0.mk hwk
      have hRl := units_take1 HS.out (R := R) hRe
      clear hwk hlt hi hRe
      by_cases hz : l0.length = 0
      case' pos => have hy := hRl.2 hz; have hz1 : ((l0.length : Int) == 0) = true := (by rw [hz]; rfl); have hy1 : ((R.length : Int) == 0) = true := (by rw [hy]; rfl)
      case' neg => have hy := fun e => hz (hRl.1 e); have hz1 : ((l0.length : Int) == 0) = false := (by simpa using hz); have hy1 : ((R.length : Int) == 0) = false := (by simpa using hy)
      all_goals
       clear hRl hy hz
       go_wp2_with (go_at_call 33; (refine (thistlelaw02_walk.calls Kl A0 c0 l0 1 R wr (Kd.C_below HR0.out (below_step B3.out HBR.out)) HC0.out (HG.out.of_below (below_step B3.out HBR.out)) HK1.out).mono ?_); rintro e w4 ⟨v0, rfl, hv0, hb4⟩; have B4 := Aside0.mk (below_step (below_step B3.out HBR.out) hb4); obtain ⟨Q0, d0, rfl, hd0, hC0⟩ := Kd.R_reads hv0; clear hb4 hv0 hd0 hC0)
       go_ret
       exact ⟨by first | rfl | simp, B4.out⟩
theorem uns_calls (A0 : Option Addr) (c0 : Nat) (l0 : List Rg) (u n : Int) (hl : l0.length ≤ 1048576) (hra : ∀ r ∈ l0, R32 r) (_hu : (Lit.int .i32 u).wf = true) (hn : (Lit.int .i64 n).wf = true) (w : World)
    (hr0 : Kd.C k29 w A0 l0.length l0) (hc0 : l0.length ≤ c0) (hG : Glob w) :
    Calls Tryd.prog 7 #[.slice A0 l0.length c0, .int .i32 u, .int .i64 n] w fun e w' => e = .returned (.bool true) ∧ Below w.heap.size w w' := by
  have hn' : n ≤ 9223372036854775807 := by
    simp [Lit.wf] at hn
    have m1 : IntKind.i64.max = 9223372036854775807 := rfl
    omega
  by_cases hs : Sound l0
  · exact uns_yes A0 c0 l0 u n hl hra hn' hs w hr0 hc0 hG
  · exact uns_no A0 c0 l0 u n hl hra hn' hs w hr0 hc0 hG
end Go.Proofs.YtoggmegpodmfnaaDoor.Q
