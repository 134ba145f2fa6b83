/- The law's plain side (SetsRef): what the printed functions come to; each theorem states its own conditions. -/
import Derived.Test.YtoggmegpodmfnaaDoorPTx0
import Derived.Test.YtoggmegpodmfnaaDoorPTx2
import Derived.Test.YtoggmegpodmfnaaDoorPTx3
import Derived.Test.YtoggmegpodmfnaaDoorBSetsBand
import Derived.Test.YtoggmegpodmfnaaDoorPTx1
import Derived.Test.YtoggmegpodmfnaaDoorPTx4
import Derived.Test.YtoggmegpodmfnaaDoorPTx5
import Derived.Test.YtoggmegpodmfnaaDoorPTx6
namespace Go.Proofs.YtoggmegpodmfnaaDoor.Q
open Go.RowKit Go.Proofs.YtoggmegpodmfnaaDoorW.PrintWords Go.Proofs.YtoggmegpodmfnaaDoorW.PrintLast Go.Proofs.YtoggmegpodmfnaaDoorW.PrintMore Go.Proofs.YtoggmegpodmfnaaDoor.PT Go.Proofs.YtoggmegpodmfnaaDoor.B
set_option linter.unusedVariables false
set_option linter.unusedSimpArgs false
abbrev Rg := S29
theorem ev_some {α : Type} {g : Nat → Option α} {r : α} (h : ∀ k, g k = some r) : Ev g r := ⟨0, fun k _ => h k⟩
theorem ev_if_pos {α : Type} {g f : Nat → Option α} {r : α} {c : Prop} [Decidable c] (hc : c) (h : Ev g r) : Ev (fun k => if c then g k else f k) r := by
  simp only [if_pos hc]; exact h
theorem ev_if_neg {α : Type} {g f : Nat → Option α} {r : α} {c : Prop} [Decidable c] (hc : ¬ c) (h : Ev f r) : Ev (fun k => if c then g k else f k) r := by
  simp only [if_neg hc]; exact h
theorem evb0 {α β : Type} {x : Option α} {f : Nat → α → Option β} {a : α} {r : β} (h : x = some a) (k : Ev (fun n => f n a) r) : Ev (fun n => x.bind (f n)) r := by
  subst h; exact k
theorem wrap64_of (x : Int) (h : -9223372036854775808 ≤ x ∧ x ≤ 9223372036854775807) : wrap64 x = x := by unfold wrap64; omega
theorem wrap32_of (x : Int) (h : -2147483648 ≤ x ∧ x ≤ 2147483647) : wrap32 x = x := by unfold wrap32; omega
theorem wrapS (i : Nat) (h : i ≤ 1099511627776) : wrap64 ((i : Int) + 1) = ((i + 1 : Nat) : Int) := by unfold wrap64; omega
theorem rdT (l : List Rg) (i : Nat) (h : i < l.length) : rd_T29 l (i : Int) = l[i] := by
  unfold rd_T29; rw [Int.toNat_natCast, List.getD_eq_getElem?_getD, List.getElem?_eq_getElem h]; rfl
/-- A number that the kind rune has. -/
def I32 (x : Int) : Prop := -2147483648 ≤ x ∧ x ≤ 2147483647
/-- A range whose ends are runes. -/
def R32 (r : Rg) : Prop := I32 r.f0 ∧ I32 r.f1
/-- Does one of the ranges hold the number? -/
def mem (l : List Rg) (u : Int) : Bool := l.any fun r => decide (r.f0 ≤ u ∧ u ≤ r.f1)
theorem mem_iff (l : List Rg) (u : Int) : mem l u = true ↔ ∃ r ∈ l, r.f0 ≤ u ∧ u ≤ r.f1 := by simp [mem]
theorem mem_cons (r : Rg) (l : List Rg) (u : Int) : mem (r :: l) u = (decide (r.f0 ≤ u ∧ u ≤ r.f1) || mem l u) := by simp [mem]
theorem mem_app (a b : List Rg) (u : Int) : mem (a ++ b) u = (mem a u || mem b u) := by simp [mem]
/-- Is u a unit? -/
def isU (u : Int) : Bool := decide (0 ≤ bandOf u)
theorem bandOf_cases (u : Int) : (bandOf u = 0 ∧ 0 ≤ u ∧ u ≤ 55295) ∨ (bandOf u = 1 ∧ 57344 ≤ u ∧ u ≤ 1114111) ∨ (bandOf u = 2 ∧ 1114240 ≤ u ∧ u ≤ 1114367) ∨ (bandOf u = -1 ∧ ¬ (0 ≤ u ∧ u ≤ 55295) ∧ ¬ (57344 ≤ u ∧ u ≤ 1114111) ∧ ¬ (1114240 ≤ u ∧ u ≤ 1114367)) := by
  unfold bandOf
  repeat' split
  all_goals omega
/-- A range that lies in one band. -/
def okR (r : Rg) : Prop := 0 ≤ bandOf r.f0 ∧ bandOf r.f0 = bandOf r.f1 ∧ r.f0 ≤ r.f1
instance (r : Rg) : Decidable (okR r) := inferInstanceAs (Decidable (_ ∧ _))
/-- A sound set. -/
def Sound (l : List Rg) : Prop := (∀ r ∈ l, okR r) ∧ l.Pairwise (fun a b => a.f1 + 1 < b.f0)
instance (l : List Rg) : Decidable (Sound l) := inferInstanceAs (Decidable (_ ∧ _))
theorem Sound.tail {r : Rg} {l : List Rg} (h : Sound (r :: l)) : Sound l := ⟨fun x hx => h.1 x (List.mem_cons_of_mem _ hx), (List.pairwise_cons.1 h.2).2⟩
theorem okR_r32 {r : Rg} (h : okR r) : R32 r := by
  obtain ⟨h0, h1, h2⟩ := h
  have a := bandOf_cases r.f0
  have b := bandOf_cases r.f1
  unfold R32 I32
  omega
theorem Sound.r32 {l : List Rg} (h : Sound l) : ∀ r ∈ l, R32 r := fun r hr => okR_r32 (h.1 r hr)
theorem okR_unit {r : Rg} (h : okR r) {u : Int} (h0 : r.f0 ≤ u) (h1 : u ≤ r.f1) : isU u = true := by
  obtain ⟨a0, a1, a2⟩ := h
  have a := bandOf_cases r.f0
  have b := bandOf_cases r.f1
  have c := bandOf_cases u
  unfold isU
  simp only [decide_eq_true_eq]
  omega
theorem Sound.unit {l : List Rg} (h : Sound l) {u : Int} (hu : mem l u = true) : isU u = true := by
  obtain ⟨r, hr, h0, h1⟩ := (mem_iff l u).1 hu
  exact okR_unit (h.1 r hr) h0 h1
/-! ### band, unit, kind, small -/
theorem band_is (u : Int) : sets_band.f u = some (bandOf u) := rfl
theorem unit_is (u : Int) : thistlelaw02_unit.f u = some (isU u) := by
  have c := bandOf_cases u
  unfold thistlelaw02_unit.f isU
  repeat' split
  all_goals (congr 1; first | (symm; rw [decide_eq_true_eq]; omega) | (symm; rw [decide_eq_false_iff_not]; omega) | (rw [decide_eq_decide]; omega))
theorem within0 (l : List Rg) (u : Int) (hl : l.length ≤ 1073741824) (hr : ∀ r ∈ l, R32 r) : ∀ (d i : Nat), l.length - i = d → Ev (fun k => thistlelaw02_within.l0 k l u (i : Int)) (mem (l.drop i) u)
  | 0, i, hd => by
    rw [List.drop_eq_nil_of_le (by omega)]
    refine Ev.step (f := fun _ => some false) (fun k => ?_) (Ev.now _)
    rw [thistlelaw02_within.l0, if_neg (by omega)]
  | d + 1, i, hd => by
    have hi : i < l.length := by omega
    have h32 := hr l[i] (List.getElem_mem hi)
    unfold R32 I32 at h32
    rw [List.drop_eq_getElem_cons hi, mem_cons]
    refine Ev.step (f := fun k => if l[i].f0 ≤ u ∧ u ≤ l[i].f1 then some true else thistlelaw02_within.l0 k l u ((i + 1 : Nat) : Int)) (fun k => ?_) ?_
    · rw [thistlelaw02_within.l0, if_pos (by omega), if_pos (by omega), rdT l i hi, wrap64_of _ (by omega), wrap64_of l[i].f1 (by omega), wrapS i (by omega)]
      by_cases h1 : l[i].f0 ≤ u
      · rw [if_pos (by omega)]
        by_cases h2 : u ≤ l[i].f1
        · rw [if_pos h2, if_pos ⟨h1, h2⟩]
        · rw [if_neg h2, if_neg (fun h => h2 h.2)]
      · rw [if_neg (by omega), if_neg (fun h => h1 h.1)]
    · have ih := within0 l u hl hr d (i + 1) (by omega)
      by_cases h : l[i].f0 ≤ u ∧ u ≤ l[i].f1
      · rw [decide_eq_true h, Bool.true_or]; exact ev_if_pos h (Ev.now _)
      · rw [decide_eq_false h, Bool.false_or]; exact ev_if_neg h ih
theorem within_is (l : List Rg) (u : Int) (hl : l.length ≤ 1073741824) (hr : ∀ r ∈ l, R32 r) : Ev (fun k => thistlelaw02_within.f k l u) (mem l u) := by
  unfold thistlelaw02_within.f
  simpa using within0 l u hl hr l.length 0 (by omega)
/-! ### Check -/
theorem sound_snoc (a : List Rg) (r : Rg) : Sound (a ++ [r]) ↔ Sound a ∧ okR r ∧ ∀ x ∈ a, x.f1 + 1 < r.f0 := by
  unfold Sound
  rw [List.pairwise_append]
  constructor
  · rintro ⟨h1, h2, _, h3⟩
    exact ⟨⟨fun x hx => h1 x (by simp [hx]), h2⟩, h1 r (by simp), fun x hx => h3 x hx r (by simp)⟩
  · rintro ⟨⟨h1, h2⟩, h3, h4⟩
    refine ⟨fun x hx => ?_, h2, by simp, fun x hx y hy => ?_⟩
    · rw [List.mem_append] at hx
      rcases hx with hx | hx
      · exact h1 x hx
      · rw [List.mem_singleton] at hx; subst hx; exact h3
    · rw [List.mem_singleton] at hy; subst hy; exact h4 x hx
theorem sound_last {a : List Rg} {x r : Rg} (h : Sound (a ++ [x])) : (∀ y ∈ a ++ [x], y.f1 + 1 < r.f0) ↔ x.f1 + 1 < r.f0 := by
  constructor
  · exact fun h => h x (by simp)
  · intro hx y hy
    rw [List.mem_append] at hy
    rcases hy with hy | hy
    · have h1 := ((sound_snoc a x).1 h).2.2 y hy
      have h2 := ((sound_snoc a x).1 h).2.1.2.2
      omega
    · rw [List.mem_singleton] at hy; subst hy; exact hx
theorem not_sound_prefix {a b : List Rg} (h : ¬ Sound a) : ¬ Sound (a ++ b) := fun hs => h ⟨fun r hr => hs.1 r (by simp [hr]), (List.pairwise_append.1 hs.2).1⟩
theorem check0 (l : List Rg) (hl : l.length ≤ 1073741824) (hr : ∀ r ∈ l, R32 r) : ∀ (d i : Nat), l.length - i = d → i ≤ l.length → Sound (l.take i) →
    Ev (fun k => sets_Check.l0 k l l (l.length : Int) (i : Int)) (if Sound l then 0 else 1)
  | 0, i, hd, hi, hs => by
    rw [List.take_of_length_le (by omega)] at hs
    rw [if_pos hs]
    refine Ev.step (f := fun _ => some 0) (fun k => ?_) (Ev.now _)
    rw [sets_Check.l0, if_neg (by omega)]
  | d + 1, i, hd, hi, hs => by
    have hi : i < l.length := by omega
    have h32 := hr l[i] (List.getElem_mem hi)
    have htk : l.take (i + 1) = l.take i ++ [l[i]] := by rw [List.take_add_one, List.getElem?_eq_getElem hi]; rfl
    have hall : l = l.take (i + 1) ++ l.drop (i + 1) := (List.take_append_drop _ _).symm
    have hcont : Sound (l.take (i + 1)) → Ev (fun k => sets_Check.l0 k l l (l.length : Int) ((i + 1 : Nat) : Int)) (if Sound l then 0 else 1) := fun h => check0 l hl hr d (i + 1) (by omega) (by omega) h
    have hstop : ¬ Sound (l.take (i + 1)) → (if Sound l then (0 : Int) else 1) = 1 := fun h => if_neg (by rw [hall]; exact not_sound_prefix h)
    obtain ⟨bad, hbad⟩ : ∃ b : Bool, b = !decide (okR l[i]) := ⟨_, rfl⟩
    refine Ev.step (f := fun k => sets_Check.j1 k l (i : Int) l (l.length : Int) (i : Int) bad l[i].f0 l[i].f1) (fun k => ?_) ?_
    · rw [sets_Check.l0, if_pos (by omega), if_pos (by omega), if_pos (by omega), rdT l i hi, band_is]
      simp only [Option.bind_some]
      by_cases h1 : bandOf l[i].f0 < 0
      · rw [if_pos h1, show bad = true by rw [hbad, decide_eq_false (fun h : okR l[i] => by have := h.1; omega)]; rfl]
      · rw [if_neg h1, band_is]
        simp only [Option.bind_some]
        by_cases h2 : bandOf l[i].f0 = bandOf l[i].f1
        · rw [if_pos h2, show decide (l[i].f0 > l[i].f1) = bad by
            rw [hbad]
            by_cases h3 : l[i].f0 ≤ l[i].f1
            · rw [decide_eq_true (show okR l[i] from ⟨by omega, h2, h3⟩), decide_eq_false (by omega)]; rfl
            · rw [decide_eq_false (fun h : okR l[i] => h3 h.2.2), decide_eq_true (by omega)]; rfl]
        · rw [if_neg h2, show bad = true by rw [hbad, decide_eq_false (fun h : okR l[i] => h2 h.2.1)]; rfl]
    · by_cases hok : okR l[i]
      · obtain rfl : bad = false := by rw [hbad]; simp [hok]
        by_cases h0 : i = 0
        · subst h0
          have hs1 : Sound (l.take 1) := by rw [htk, sound_snoc]; exact ⟨hs, hok, by simp⟩
          refine Ev.step (f := fun k => sets_Check.l0 k l l (l.length : Int) ((1 : Nat) : Int)) (fun k => ?_) (hcont hs1)
          rw [sets_Check.j1, if_neg (by simp), if_neg (by omega), wrapS 0 (by omega)]
        · obtain ⟨j, rfl⟩ : ∃ j, i = j + 1 := ⟨i - 1, by omega⟩
          have hj : j < l.length := by omega
          have h32j := hr l[j] (List.getElem_mem hj)
          have htj : l.take (j + 1) = l.take j ++ [l[j]] := by rw [List.take_add_one, List.getElem?_eq_getElem hj]; rfl
          unfold R32 I32 at h32j h32
          have hokj : okR l[j] := hs.1 l[j] (by rw [htj]; exact List.mem_append_right _ (List.mem_singleton.2 rfl))
          have hjm := okR_r32 hokj
          have hb := bandOf_cases l[j].f1
          obtain ⟨b0, b1, b2⟩ := hokj
          have e1 : wrap64 (((j + 1 : Nat) : Int) - 1) = (j : Int) := by unfold wrap64; omega
          have hiff : Sound (l.take (j + 1 + 1)) ↔ l[j].f1 + 1 < l[j + 1].f0 := by
            rw [htk, sound_snoc]
            constructor
            · rintro ⟨_, _, h⟩; exact h _ (by rw [htj]; exact List.mem_append_right _ (List.mem_singleton.2 rfl))
            · intro h
              refine ⟨hs, hok, ?_⟩
              rw [htj] at hs ⊢
              exact (sound_last hs).2 h
          refine Ev.step (f := fun k => if l[j].f1 + 1 < l[j + 1].f0 then sets_Check.l0 k l l (l.length : Int) ((j + 1 + 1 : Nat) : Int) else some 1) (fun k => ?_) ?_
          · rw [sets_Check.j1, if_neg (by simp), if_pos (by omega), e1, if_pos (by omega), if_pos (by omega), rdT l j hj, wrap32_of _ (by omega), wrapS (j + 1) (by omega)]
            by_cases h1 : l[j + 1].f0 ≤ l[j].f1
            · rw [if_pos h1, if_neg (by omega)]
            · rw [if_neg h1]
              by_cases h2 : l[j + 1].f0 = l[j].f1 + 1
              · rw [if_pos h2, if_neg (by omega)]
              · rw [if_neg h2, if_pos (by omega)]
          · by_cases h : l[j].f1 + 1 < l[j + 1].f0
            · exact ev_if_pos h (hcont (hiff.2 h))
            · rw [hstop (fun hs => h (hiff.1 hs))]; exact ev_if_neg h (Ev.now _)
      · obtain rfl : bad = true := by rw [hbad]; simp [hok]
        have : ¬ Sound (l.take (i + 1)) := by rw [htk, sound_snoc]; exact fun h => hok h.2.1
        rw [hstop this]
        refine Ev.step (f := fun _ => some 1) (fun k => ?_) (Ev.now _)
        rw [sets_Check.j1, if_pos rfl]
theorem check_is (l : List Rg) (hl : l.length ≤ 1073741824) (hr : ∀ r ∈ l, R32 r) : Ev (fun k => sets_Check.f k l) (if Sound l then 0 else 1) := by
  simpa [sets_Check.f] using check0 l hl hr l.length 0 (by omega) (by omega) ⟨by simp, by simp⟩

end Go.Proofs.YtoggmegpodmfnaaDoor.Q
/- The law's plain side (SetsRef2): what the printed functions come to; each theorem states its own conditions. -/
namespace Go.Proofs.YtoggmegpodmfnaaDoor.Q
open Go.RowKit Go.Proofs.YtoggmegpodmfnaaDoorW.PrintWords Go.Proofs.YtoggmegpodmfnaaDoorW.PrintLast Go.Proofs.YtoggmegpodmfnaaDoorW.PrintMore Go.Proofs.YtoggmegpodmfnaaDoor.PT Go.Proofs.YtoggmegpodmfnaaDoor.B
set_option linter.unusedVariables false
set_option linter.unusedSimpArgs false
/-! ### A set is told by what it holds -/
theorem mem_gap {x : Rg} {l : List Rg} (h : Sound (x :: l)) {u : Int} (hu : mem l u = true) : x.f1 + 1 < u := by
  obtain ⟨r, hr, h0, h1⟩ := (mem_iff l u).1 hu
  have := (List.pairwise_cons.1 h.2).1 r hr
  omega
theorem sound_ext : ∀ (a b : List Rg), Sound a → Sound b → (∀ u, mem a u = mem b u) → a = b
  | [], [], _, _, _ => rfl
  | [], y :: b, _, hb, h => by
    have h1 := h y.f0
    have h2 := (hb.1 y (by simp)).2.2
    rw [mem_cons, decide_eq_true (show y.f0 ≤ y.f0 ∧ y.f0 ≤ y.f1 from ⟨by omega, h2⟩)] at h1
    simp [mem] at h1
  | x :: a, [], ha, _, h => by
    have h1 := h x.f0
    have h2 := (ha.1 x (by simp)).2.2
    rw [mem_cons, decide_eq_true (show x.f0 ≤ x.f0 ∧ x.f0 ≤ x.f1 from ⟨by omega, h2⟩)] at h1
    simp [mem] at h1
  | x :: a, y :: b, ha, hb, h => by
    have hx := (ha.1 x (by simp)).2.2
    have hy := (hb.1 y (by simp)).2.2
    have key : ∀ (x y : Rg) (a b : List Rg), Sound (x :: a) → Sound (y :: b) → (∀ u, mem (x :: a) u = mem (y :: b) u) → x.f0 ≤ x.f1 → y.f0 ≤ x.f0 := by
      intro x y a b ha hb h hx
      have h1 := h x.f0
      rw [mem_cons, decide_eq_true (show x.f0 ≤ x.f0 ∧ x.f0 ≤ x.f1 from ⟨by omega, hx⟩), Bool.true_or] at h1
      have h2 := h1.symm
      rw [mem_cons, Bool.or_eq_true, decide_eq_true_eq] at h2
      rcases h2 with h2 | h2
      · exact h2.1
      · have := mem_gap hb h2; have := (hb.1 y (by simp)).2.2; omega
    have e0 : x.f0 = y.f0 := by
      have h1 := key x y a b ha hb h hx
      have h2 := key y x b a hb ha (fun u => (h u).symm) hy
      omega
    have key2 : ∀ (x y : Rg) (a b : List Rg), Sound (x :: a) → (∀ u, mem (x :: a) u = mem (y :: b) u) → x.f0 ≤ x.f1 → y.f0 ≤ x.f0 → y.f1 ≤ x.f1 := by
      intro x y a b ha h hx h0
      refine Decidable.byContradiction fun hlt => ?_
      have h1 := h (x.f1 + 1)
      rw [mem_cons y, decide_eq_true (show y.f0 ≤ x.f1 + 1 ∧ x.f1 + 1 ≤ y.f1 from ⟨by omega, by omega⟩), Bool.true_or, mem_cons, Bool.or_eq_true, decide_eq_true_eq] at h1
      rcases h1 with h1 | h1
      · omega
      · have := mem_gap ha h1; omega
    have e1 : x.f1 = y.f1 := by
      have h1 := key2 x y a b ha h hx (by omega)
      have h2 := key2 y x b a hb (fun u => (h u).symm) hy (by omega)
      omega
    obtain rfl : x = y := by cases x; cases y; simp_all
    have : a = b := sound_ext a b ha.tail hb.tail fun u => by
      have hu := h u
      rw [mem_cons, mem_cons] at hu
      by_cases hin : x.f0 ≤ u ∧ u ≤ x.f1
      · have n1 : mem a u = false := by
          rw [← Bool.not_eq_true]; intro hm; have := mem_gap ha hm; omega
        have n2 : mem b u = false := by
          rw [← Bool.not_eq_true]; intro hm; have := mem_gap hb hm; omega
        rw [n1, n2]
      · rw [decide_eq_false hin, Bool.false_or, Bool.false_or] at hu
        exact hu
    rw [this]
/-! ### gather -/
theorem merge_ok {x r : Rg} (hx : okR x) (hr : okR r) (h0 : x.f0 ≤ r.f0) (h1 : r.f0 ≤ x.f1 + 1) : okR ⟨x.f0, mx x.f1 r.f1⟩ := by
  obtain ⟨x0, x1, x2⟩ := hx
  obtain ⟨r0, r1, r2⟩ := hr
  unfold okR mx
  simp only
  have a := bandOf_cases x.f0
  have b := bandOf_cases x.f1
  have c := bandOf_cases r.f0
  have d := bandOf_cases r.f1
  split <;> omega
theorem merge_mem {x r : Rg} (hx : x.f0 ≤ x.f1) (hr : r.f0 ≤ r.f1) (h0 : x.f0 ≤ r.f0) (h1 : r.f0 ≤ x.f1 + 1) (u : Int) :
    mem [⟨x.f0, mx x.f1 r.f1⟩] u = (mem [x] u || mem [r] u) := by
  unfold mx
  rw [Bool.eq_iff_iff, Bool.or_eq_true, mem_iff, mem_iff, mem_iff]
  simp only [List.mem_singleton, exists_eq_left]
  split <;> omega
theorem mem_take (s : List Rg) (i : Nat) (hi : i < s.length) (u : Int) : mem (s.take (i + 1)) u = (mem (s.take i) u || mem [s[i]] u) := by
  rw [List.take_add_one, List.getElem?_eq_getElem hi, ← mem_app]; rfl
theorem set_last (o : List Rg) (x y : Rg) : (o ++ [x]).set o.length y = o ++ [y] := by simp
theorem eta (r : Rg) : (⟨r.f0, r.f1⟩ : Rg) = r := rfl
theorem gather0 (s : List Rg) (hs : s.length ≤ 4294967296) (hok : ∀ r ∈ s, okR r) (hsort : s.Pairwise (fun a b => a.f0 ≤ b.f0)) : ∀ (d i : Nat) (out : List Rg), s.length - i = d → i ≤ s.length → Sound out → out.length ≤ i →
    (∀ x ∈ out, ∀ r ∈ s.drop i, x.f0 ≤ r.f0) → (∀ u, mem out u = mem (s.take i) u) →
    ∃ g, Ev (fun k => sets_gather.l0 k out s (s.length : Int) (i : Int)) g ∧ Sound g ∧ (∀ u, mem g u = mem s u) ∧ g.length ≤ s.length
  | 0, i, out, hd, hi, hso, hl, hlo, hm => by
    rw [List.take_of_length_le (by omega)] at hm
    refine ⟨out, Ev.step (f := fun _ => some out) (fun k => ?_) (Ev.now _), hso, hm, by omega⟩
    rw [sets_gather.l0, if_neg (by omega)]
  | d + 1, i, out, hd, hi, hso, hl, hlo, hm => by
    have hi : i < s.length := by omega
    have hdr : s.drop i = s[i] :: s.drop (i + 1) := List.drop_eq_getElem_cons hi
    have hor := hok s[i] (List.getElem_mem hi)
    have hrest : ∀ r ∈ s.drop (i + 1), s[i].f0 ≤ r.f0 := by
      have := (List.pairwise_append.1 (by rw [List.take_append_drop i s]; exact hsort : (s.take i ++ s.drop i).Pairwise _)).2.1
      rw [hdr] at this
      exact (List.pairwise_cons.1 this).1
    have next : ∀ out2 : List Rg, Sound out2 → out2.length ≤ i + 1 → (∀ x ∈ out2, x.f0 ≤ s[i].f0) → (∀ u, mem out2 u = (mem out u || mem [s[i]] u)) →
        ∃ g, Ev (fun k => sets_gather.l0 k out2 s (s.length : Int) ((i + 1 : Nat) : Int)) g ∧ Sound g ∧ (∀ u, mem g u = mem s u) ∧ g.length ≤ s.length := by
      intro out2 h1 h2 h3 h4
      refine gather0 s hs hok hsort d (i + 1) out2 (by omega) (by omega) h1 h2 (fun x hx r hr => ?_) (fun u => by rw [h4, hm, mem_take s i hi])
      have := h3 x hx; have := hrest r hr; omega
    have hlo0 : ∀ x ∈ out, x.f0 ≤ s[i].f0 := fun x hx => hlo x hx s[i] (by rw [hdr]; exact List.mem_cons_self)
    by_cases hout : out = []
    · subst hout
      obtain ⟨g, hg, h⟩ := next [s[i]] ⟨by simpa using hor, by simp⟩ (by simp) (by simp) (fun u => by simp [mem])
      refine ⟨g, Ev.step (fun k => ?_) hg, h⟩
      rw [sets_gather.l0, if_pos (by omega), if_pos (by omega), if_pos (by omega), if_neg (by simp), if_pos (by simp), rdT s i hi, wrapS i (by omega)]
      rfl
    · obtain ⟨o, x, rfl⟩ : ∃ o x, out = o ++ [x] := ⟨out.dropLast, out.getLast hout, (List.dropLast_concat_getLast hout).symm⟩
      have hll : (o ++ [x]).length = o.length + 1 := by simp
      have hxo := (sound_snoc o x).1 hso
      have h32 := okR_r32 hxo.2.1
      have hx01 := hxo.2.1.2.2
      have e1 : wrap64 (((o ++ [x]).length : Int) - 1) = (o.length : Int) := by rw [hll]; unfold wrap64; omega
      have erd : rd_T29 (o ++ [x]) (o.length : Int) = x := by rw [rdT _ _ (by omega)]; simp
      have hb := bandOf_cases x.f1
      have hx0 := hlo0 x (by simp)
      unfold R32 I32 at h32
      obtain ⟨bx0, bx1, bx2⟩ := hxo.2.1
      by_cases hc : s[i].f0 ≤ x.f1 + 1
      · obtain ⟨g, hg, h⟩ := next (o ++ [⟨x.f0, mx x.f1 s[i].f1⟩]) (by rw [sound_snoc]; exact ⟨hxo.1, merge_ok hxo.2.1 hor hx0 hc, hxo.2.2⟩) (by simp at hl ⊢; omega)
          (fun y hy => by
            rw [List.mem_append] at hy
            rcases hy with hy | hy
            · exact hlo0 y (List.mem_append_left _ hy)
            · rw [List.mem_singleton] at hy; subst hy; exact hx0)
          (fun u => by rw [mem_app, mem_app, merge_mem hx01 hor.2.2 hx0 hc, Bool.or_assoc])
        refine ⟨g, Ev.step (fun k => ?_) hg, h⟩
        rw [sets_gather.l0, if_pos (by omega), if_pos (by omega), if_pos (by omega), if_pos (by omega), e1, if_pos (by omega), if_pos (by omega), erd, rdT s i hi, wrap32_of _ (by omega), if_pos hc, wrapS i (by omega), Int.toNat_natCast, set_last]
      · obtain ⟨g, hg, h⟩ := next (o ++ [x] ++ [s[i]]) (by rw [sound_snoc]; exact ⟨hso, hor, (sound_last hso).2 (by omega)⟩) (by simp at hl ⊢; omega)
          (fun y hy => by
            rw [List.mem_append] at hy
            rcases hy with hy | hy
            · exact hlo0 y hy
            · rw [List.mem_singleton] at hy; subst hy; omega)
          (fun u => by rw [mem_app])
        refine ⟨g, Ev.step (fun k => ?_) hg, h⟩
        rw [sets_gather.l0, if_pos (by omega), if_pos (by omega), if_pos (by omega), if_pos (by omega), e1, if_pos (by omega), if_pos (by omega), erd, rdT s i hi, wrap32_of _ (by omega), if_neg hc, if_pos (by omega), wrapS i (by omega)]
theorem mem_perm {a b : List Rg} (h : a.Perm b) (u : Int) : mem a u = mem b u := by
  rw [Bool.eq_iff_iff, mem_iff, mem_iff]
  exact ⟨fun ⟨r, hr, hu⟩ => ⟨r, h.mem_iff.1 hr, hu⟩, fun ⟨r, hr, hu⟩ => ⟨r, h.mem_iff.2 hr, hu⟩⟩
theorem gather_is (l : List Rg) (hl : l.length ≤ 4294967296) (hok : ∀ r ∈ l, okR r) : ∃ g, Ev (fun k => sets_gather.f k l) g ∧ Sound g ∧ (∀ u, mem g u = mem l u) ∧ g.length ≤ l.length := by
  have hp := sortRanges_perm l
  have hln := sortRanges_length l
  obtain ⟨g, hg, h1, h2, h3⟩ := gather0 (sortRanges l) (by omega) (fun r hr => hok r (hp.mem_iff.1 hr)) (sortRanges_sorted l) (sortRanges l).length 0 [] (by omega) (by omega) ⟨by simp, by simp⟩ (by simp) (by simp) (by simp [mem])
  refine ⟨g, ?_, h1, fun u => (h2 u).trans (mem_perm hp u), by omega⟩
  unfold sets_gather.f
  exact ev_if_pos hl hg
/-! ### Make -/
theorem clipB_facts (lo hi : Int) (r : Rg) (hb : ∀ u, lo ≤ u → u ≤ hi → bandOf u = bandOf lo) (h0 : 0 ≤ bandOf lo) : (∀ x ∈ clipB lo hi r, okR x) ∧ ∀ u, mem (clipB lo hi r) u = (decide (lo ≤ u ∧ u ≤ hi) && decide (r.f0 ≤ u ∧ u ≤ r.f1)) := by
  have hL : (mx r.f0 lo = r.f0 ∨ mx r.f0 lo = lo) ∧ r.f0 ≤ mx r.f0 lo ∧ lo ≤ mx r.f0 lo := by unfold mx; split <;> omega
  have hH : (mn r.f1 hi = r.f1 ∨ mn r.f1 hi = hi) ∧ mn r.f1 hi ≤ r.f1 ∧ mn r.f1 hi ≤ hi := by unfold mn; split <;> omega
  unfold clipB
  generalize mx r.f0 lo = L at *
  generalize mn r.f1 hi = H at *
  by_cases h : L ≤ H
  · rw [if_pos h]
    have h1 := hb L (by omega) (by omega)
    have h2 := hb H (by omega) (by omega)
    refine ⟨fun x hx => ?_, fun u => ?_⟩
    · rw [List.mem_singleton] at hx
      subst hx
      exact ⟨by show 0 ≤ bandOf L; omega, by show bandOf L = bandOf H; omega, h⟩
    · rw [Bool.eq_iff_iff, Bool.and_eq_true, decide_eq_true_eq, decide_eq_true_eq, mem_iff]
      simp only [List.mem_singleton, exists_eq_left]
      omega
  · rw [if_neg h]
    refine ⟨by simp, fun u => ?_⟩
    rw [Bool.eq_iff_iff, Bool.and_eq_true, decide_eq_true_eq, decide_eq_true_eq, mem_iff]
    simp only [List.not_mem_nil, false_and, exists_false, false_iff]
    omega
theorem clips_ok (r : Rg) : ∀ x ∈ clips r, okR x := by
  intro x hx
  unfold clips at hx
  rw [List.mem_append, List.mem_append] at hx
  rcases hx with (hx | hx) | hx
  · exact (clipB_facts 0 55295 r (fun u a b => by rw [bandOf_0 ⟨a, b⟩]; rfl) (by decide)).1 x hx
  · exact (clipB_facts 57344 1114111 r (fun u a b => by rw [bandOf_1 ⟨a, b⟩]; rfl) (by decide)).1 x hx
  · exact (clipB_facts 1114240 1114367 r (fun u a b => by rw [bandOf_2 ⟨a, b⟩]; rfl) (by decide)).1 x hx
theorem clips_mem (r : Rg) (u : Int) : mem (clips r) u = (isU u && decide (r.f0 ≤ u ∧ u ≤ r.f1)) := by
  unfold clips
  rw [mem_app, mem_app, (clipB_facts 0 55295 r (fun u a b => by rw [bandOf_0 ⟨a, b⟩]; rfl) (by decide)).2, (clipB_facts 57344 1114111 r (fun u a b => by rw [bandOf_1 ⟨a, b⟩]; rfl) (by decide)).2,
    (clipB_facts 1114240 1114367 r (fun u a b => by rw [bandOf_2 ⟨a, b⟩]; rfl) (by decide)).2, ← Bool.and_or_distrib_right, ← Bool.and_or_distrib_right]
  congr 1
  have c := bandOf_cases u
  unfold isU
  rw [Bool.eq_iff_iff]
  simp only [Bool.or_eq_true, decide_eq_true_eq]
  omega
theorem clips_len (r : Rg) : (clips r).length ≤ 3 := by
  unfold clips
  have a := clipB_length 0 55295 r
  have b := clipB_length 57344 1114111 r
  have c := clipB_length 1114240 1114367 r
  simp only [List.length_append]; omega
theorem flat_len : ∀ l : List Rg, (l.flatMap clips).length ≤ 3 * l.length
  | [] => by simp
  | r :: l => by have := flat_len l; have := clips_len r; simp only [List.flatMap_cons, List.length_append, List.length_cons]; omega
theorem flat_mem : ∀ (l : List Rg) (u : Int), mem (l.flatMap clips) u = (isU u && mem l u)
  | [], u => by simp [mem]
  | r :: l, u => by rw [List.flatMap_cons, mem_app, clips_mem, flat_mem l u, mem_cons, Bool.and_or_distrib_left]
def allUp (l : List Rg) : Bool := l.all fun r => decide (r.f0 ≤ r.f1)
theorem make_is (l : List Rg) (hl : l.length ≤ 1073741824) (hup : allUp l = true) : ∃ g, Ev (fun k => sets_Make.f k l) (g, 0) ∧ Sound g ∧ (∀ u, mem g u = (isU u && mem l u)) ∧ g.length ≤ 3 * l.length := by
  have h3 := flat_len l
  obtain ⟨g, hg, h1, h2, h4⟩ := gather_is (l.flatMap clips) (by omega) (fun r hr => by
    obtain ⟨x, _, hx⟩ := List.mem_flatMap.1 hr
    exact clips_ok x r hx)
  refine ⟨g, ?_, h1, fun u => (h2 u).trans (flat_mem l u), by omega⟩
  unfold sets_Make.f
  exact ev_if_pos hl (ev_if_pos hup (Ev.bind hg (Ev.now _)))
theorem make_no (l : List Rg) (hl : l.length ≤ 1073741824) (hup : allUp l = false) : Ev (fun k => sets_Make.f k l) ([], 2) := by
  unfold sets_Make.f
  exact ev_if_pos hl (ev_if_neg (by unfold allUp at hup; simp [hup]) (Ev.now _))
theorem sound_up {l : List Rg} (h : Sound l) : allUp l = true := by
  unfold allUp
  rw [List.all_eq_true]
  exact fun r hr => by simpa using (h.1 r hr).2.2
theorem make_sound (l : List Rg) (hl : l.length ≤ 1073741824) (h : Sound l) : Ev (fun k => sets_Make.f k l) (l, 0) := by
  obtain ⟨g, hg, h1, h2, _⟩ := make_is l hl (sound_up h)
  have : g = l := sound_ext g l h1 h fun u => by
    rw [h2]
    cases hm : mem l u with
    | true => rw [h.unit hm]; rfl
    | false => rw [Bool.and_false]
  rw [← this]; rw [this] at hg ⊢; exact hg

end Go.Proofs.YtoggmegpodmfnaaDoor.Q
/- The law's plain side (SetsRef3): what the printed functions come to; each theorem states its own conditions. -/
namespace Go.Proofs.YtoggmegpodmfnaaDoor.Q
open Go.RowKit Go.Proofs.YtoggmegpodmfnaaDoorW.PrintWords Go.Proofs.YtoggmegpodmfnaaDoorW.PrintLast Go.Proofs.YtoggmegpodmfnaaDoorW.PrintMore Go.Proofs.YtoggmegpodmfnaaDoor.PT Go.Proofs.YtoggmegpodmfnaaDoor.B
set_option linter.unusedVariables false
set_option linter.unusedSimpArgs false
/-! ### has, Has -/
def kindOf (u : Int) : Int := if u < 55296 then 1 else if u ≤ 1114111 then 2 else 3
theorem kind_is (u : Int) : thistlelaw02_kind.f u = some (kindOf u) := by
  unfold thistlelaw02_kind.f kindOf
  repeat' split
  all_goals rfl
theorem okR_law (r : Rg) : okR r ↔ isU r.f0 = true ∧ isU r.f1 = true ∧ ¬ r.f0 > r.f1 ∧ kindOf r.f0 = kindOf r.f1 := by
  have a := bandOf_cases r.f0
  have b := bandOf_cases r.f1
  unfold okR isU kindOf
  simp only [decide_eq_true_eq]
  constructor
  · intro h
    refine ⟨by omega, by omega, by omega, ?_⟩
    repeat' split
    all_goals omega
  · rintro ⟨h1, h2, h3, h4⟩
    repeat' split at h4
    all_goals omega
theorem sound0 (l : List Rg) (hl : l.length ≤ 1073741824) (h : Sound l) : ∀ (d i : Nat), l.length - i = d → Ev (fun k => thistlelaw02_sound.l0 k l (i : Int)) true
  | 0, i, hd => by
    refine Ev.step (f := fun _ => some true) (fun k => ?_) (Ev.now _)
    rw [thistlelaw02_sound.l0, if_neg (by omega)]
  | d + 1, i, hd => by
    have hi : i < l.length := by omega
    have ih := sound0 l hl h d (i + 1) (by omega)
    have hok := h.1 l[i] (List.getElem_mem hi)
    have h32 := okR_r32 hok
    unfold R32 I32 at h32
    obtain ⟨h1, h2, h3, h4⟩ := (okR_law l[i]).1 hok
    refine Ev.step (f := fun k => thistlelaw02_sound.j1 k l (i : Int) l[i].f0 false) (fun k => ?_) ?_
    · rw [thistlelaw02_sound.l0, if_pos (by omega), if_pos (by omega), rdT l i hi, wrap64_of _ (by omega), wrap64_of l[i].f1 (by omega), unit_is, h1]
      simp only [Option.bind_some, if_true]
      rw [unit_is, h2]
      simp only [Option.bind_some, if_true]
      rw [if_neg h3, kind_is, kind_is, h4]
      simp
    · by_cases h0 : i = 0
      · subst h0
        refine Ev.step (fun k => ?_) ih
        rw [thistlelaw02_sound.j1, if_neg (by simp), if_neg (by omega), wrapS 0 (by omega)]
      · obtain ⟨j, rfl⟩ : ∃ j, i = j + 1 := ⟨i - 1, by omega⟩
        have hj : j < l.length := by omega
        have h32j := okR_r32 (h.1 l[j] (List.getElem_mem hj))
        unfold R32 I32 at h32j
        have hg := List.pairwise_iff_getElem.1 h.2 j (j + 1) hj hi (by omega)
        have e1 : wrap64 (((j + 1 : Nat) : Int) - 1) = (j : Int) := by unfold wrap64; omega
        refine Ev.step (fun k => ?_) ih
        rw [thistlelaw02_sound.j1, if_neg (by simp), if_pos (by omega), e1, if_pos (by omega), if_pos (by omega), rdT l j hj, wrap64_of l[j].f1 (by omega), wrap64_of _ (by omega), if_neg (by omega), wrapS (j + 1) (by omega)]
theorem sound_is (l : List Rg) (hl : l.length ≤ 1073741824) (h : Sound l) : Ev (fun k => thistlelaw02_sound.f k l) true := by
  unfold thistlelaw02_sound.f
  simpa using sound0 l hl h l.length 0 (by omega)
/-! ### SameRanges at a list and itself -/
theorem ends0 (l : List Rg) (hl : l.length ≤ 1073741824) : ∀ (d i : Nat) (acc : List Int), l.length - i = d → acc.length ≤ 13 + 6 * i → i ≤ l.length → ∃ es, Ev (fun k => thistlelaw02_ends.l0 k l acc (i : Int)) es ∧ es.length ≤ 13 + 6 * l.length
  | 0, i, acc, hd, ha, hi => by
    refine ⟨acc, Ev.step (f := fun _ => some acc) (fun k => ?_) (Ev.now _), by omega⟩
    rw [thistlelaw02_ends.l0, if_neg (by omega)]
  | d + 1, i, acc, hd, ha, hi => by
    have hi : i < l.length := by omega
    have one : ∀ (x : Int) (acc : List Int) (r : List Int), -1 ≤ x → x ≤ 1 → acc.length ≤ 13 + 6 * i + 2 * (x + 1).toNat → Ev (fun k => thistlelaw02_ends.l1 k l (acc ++ [wrap64 (wrap64 l[i].f0 + x)] ++ [wrap64 (wrap64 l[i].f1 + x)]) (i : Int) (x + 1)) r → Ev (fun k => thistlelaw02_ends.l1 k l acc (i : Int) x) r := by
      intro x acc r h1 h2 h3 h
      refine Ev.step (fun k => ?_) h
      rw [thistlelaw02_ends.l1, if_pos (by omega), if_pos (by omega), if_pos (by omega), if_pos (by omega), rdT l i hi]
      simp only [Option.bind_some]
      rw [if_pos (by simp only [List.length_append, List.length_singleton]; omega), wrap64_of (x + 1) (by omega)]
    obtain ⟨es, he, hle⟩ := ends0 l hl d (i + 1) (acc ++ [wrap64 (wrap64 l[i].f0 + -1)] ++ [wrap64 (wrap64 l[i].f1 + -1)] ++ [wrap64 (wrap64 l[i].f0 + 0)] ++ [wrap64 (wrap64 l[i].f1 + 0)] ++ [wrap64 (wrap64 l[i].f0 + 1)] ++ [wrap64 (wrap64 l[i].f1 + 1)]) (by omega) (by simp; omega) (by omega)
    refine ⟨es, ?_, hle⟩
    refine Ev.step (f := fun k => thistlelaw02_ends.l1 k l acc (i : Int) (-1)) (fun k => ?_) ?_
    · rw [thistlelaw02_ends.l0, if_pos (by omega)]
    · refine one (-1) _ _ (by omega) (by omega) (by simp; omega) (one 0 _ _ (by omega) (by omega) (by simp; omega) (one 1 _ _ (by omega) (by omega) (by simp; omega) ?_))
      refine Ev.step (fun k => ?_) he
      rw [thistlelaw02_ends.l1, if_neg (by omega), wrapS i (by omega)]
theorem ends_is (l : List Rg) (hl : l.length ≤ 1073741824) : ∃ es, Ev (fun k => thistlelaw02_ends.f k l) es ∧ es.length ≤ 13 + 6 * l.length := by
  unfold thistlelaw02_ends.f
  exact ends0 l hl l.length 0 _ (by omega) (by simp) (by omega)
/-! ### wakes -/
theorem wakes_is : Ev (fun k => thistlelaw02_wakes.f k) true := by
  unfold thistlelaw02_wakes.f
  obtain ⟨g, hg, h1, h2, _⟩ := make_is [⟨100, 100⟩, ⟨97, 99⟩] (by simp) (by decide)
  have hs : Sound [(⟨97, 100⟩ : Rg)] := by decide
  have : g = [⟨97, 100⟩] := sound_ext g _ h1 hs fun u => by
    rw [h2]
    have c := bandOf_cases u
    unfold isU
    rw [Bool.eq_iff_iff, Bool.and_eq_true, mem_iff, mem_iff]
    simp only [List.mem_cons, List.not_mem_nil, or_false, exists_eq_or_imp, exists_eq_left, decide_eq_true_eq]
    omega
  subst this
  refine Ev.bind hg ?_
  exact ⟨0, fun k _ => rfl⟩

end Go.Proofs.YtoggmegpodmfnaaDoor.Q
/- The law's plain side (SetsSize): what the printed functions come to; each theorem states its own conditions. -/
namespace Go.Proofs.YtoggmegpodmfnaaDoor.Q
open Go.RowKit Go.Proofs.YtoggmegpodmfnaaDoorW.PrintWords Go.Proofs.YtoggmegpodmfnaaDoorW.PrintLast Go.Proofs.YtoggmegpodmfnaaDoorW.PrintMore Go.Proofs.YtoggmegpodmfnaaDoor.PT Go.Proofs.YtoggmegpodmfnaaDoor.B
set_option linter.unusedVariables false
set_option linter.unusedSimpArgs false
theorem sound_len0 : ∀ (l : List Rg) (m : Int), 0 ≤ m → m ≤ 1114368 → Sound l → (∀ r ∈ l, m ≤ r.f0) → (l.length : Int) ≤ 1114368 - m
  | [], m, h0, h1, _, _ => by simp; omega
  | x :: l, m, h0, h1, h, hm => by
    have hx := h.1 x (by simp)
    have hmx := hm x (by simp)
    obtain ⟨a0, a1, a2⟩ := hx
    have b := bandOf_cases x.f1
    have ih := sound_len0 l (x.f1 + 1) (by omega) (by omega) h.tail (fun r hr => by have := (List.pairwise_cons.1 h.2).1 r hr; omega)
    simp only [List.length_cons]
    omega
theorem sound_len {l : List Rg} (h : Sound l) : l.length ≤ 1114368 := by
  have := sound_len0 l 0 (by omega) (by omega) h (fun r hr => by have a := h.1 r hr; have b := bandOf_cases r.f0; obtain ⟨a0, _, _⟩ := a; omega)
  omega
def sz (l : List Rg) : Int := (l.map fun r => r.f1 - r.f0 + 1).sum
theorem sz_bound0 : ∀ (l : List Rg) (m : Int), 0 ≤ m → m ≤ 1114368 → Sound l → (∀ r ∈ l, m ≤ r.f0) → 0 ≤ sz l ∧ sz l ≤ 1114368 - m
  | [], m, h0, h1, _, _ => by simp [sz]; omega
  | x :: l, m, h0, h1, h, hm => by
    have hx := h.1 x (by simp)
    have hmx := hm x (by simp)
    obtain ⟨a0, a1, a2⟩ := hx
    have b := bandOf_cases x.f1
    have ih := sz_bound0 l (x.f1 + 1) (by omega) (by omega) h.tail (fun r hr => by have := (List.pairwise_cons.1 h.2).1 r hr; omega)
    have e : sz (x :: l) = x.f1 - x.f0 + 1 + sz l := by simp [sz]
    omega
theorem sz_bound {l : List Rg} (h : Sound l) : 0 ≤ sz l ∧ sz l ≤ 1114368 := by
  have := sz_bound0 l 0 (by omega) (by omega) h (fun r hr => by have a := h.1 r hr; have b := bandOf_cases r.f0; obtain ⟨a0, _, _⟩ := a; omega)
  omega
theorem sz_app (a b : List Rg) : sz (a ++ b) = sz a + sz b := by simp [sz]

end Go.Proofs.YtoggmegpodmfnaaDoor.Q
/- The law's plain side (SetsKey): what the printed functions come to; each theorem states its own conditions. -/
namespace Go.Proofs.YtoggmegpodmfnaaDoor.Q
open Go.RowKit Go.Proofs.YtoggmegpodmfnaaDoorW.PrintWords Go.Proofs.YtoggmegpodmfnaaDoorW.PrintLast Go.Proofs.YtoggmegpodmfnaaDoorW.PrintMore Go.Proofs.YtoggmegpodmfnaaDoor.PT Go.Proofs.YtoggmegpodmfnaaDoor.B
set_option linter.unusedVariables false
set_option linter.unusedSimpArgs false
/-! the marks: which sets have a unit, told as text; the text tells it -/
def dval (l : List UInt8) : Nat := l.foldl (fun a c => a * 10 + (c.toNat - 48)) 0
theorem dval_snoc (l : List UInt8) (c : UInt8) : dval (l ++ [c]) = dval l * 10 + (c.toNat - 48) := by simp [dval]
theorem digit_nat (d : Nat) (h : d < 10) : (UInt8.ofNat (48 + d)).toNat = 48 + d := by
  simp [UInt8.toNat_ofNat]
  omega
theorem dec_val (u : Nat) : dval (Lib.decDigits u) = u ∧ ∀ c ∈ Lib.decDigits u, c ≠ 44 := by
  induction u using Nat.strongRecOn with
  | _ u ih =>
    rw [Lib.decDigits]
    have hd : ∀ d : Nat, d < 10 → UInt8.ofNat (48 + d) ≠ 44 := fun d hd e => by
      have h1 := digit_nat d hd
      rw [e] at h1
      have : (44 : UInt8).toNat = 44 := rfl
      omega
    by_cases h : u < 10
    · rw [dif_pos h]
      refine ⟨?_, fun c hc => by rw [List.mem_singleton.1 hc]; exact hd u h⟩
      have := digit_nat u h
      show 0 * 10 + ((UInt8.ofNat (48 + u)).toNat - 48) = u
      omega
    · rw [dif_neg h]
      obtain ⟨h1, h2⟩ := ih (u / 10) (by omega)
      refine ⟨?_, fun c hc => ?_⟩
      · rw [dval_snoc, h1, digit_nat (u % 10) (by omega)]
        omega
      · rcases List.mem_append.1 hc with h3 | h3
        · exact h2 c h3
        · rw [List.mem_singleton.1 h3]; exact hd (u % 10) (by omega)
def toks : List UInt8 → List UInt8 → List Nat
  | _, [] => []
  | cur, c :: r => if c = 44 then dval cur :: toks [] r else toks (cur ++ [c]) r
theorem toks_word : ∀ (w cur r : List UInt8), (∀ c ∈ w, c ≠ 44) → toks cur (w ++ 44 :: r) = dval (cur ++ w) :: toks [] r
  | [], cur, r, _ => by simp [toks]
  | c :: w, cur, r, h => by
    rw [List.cons_append, toks, if_neg (h c (by simp)), toks_word w (cur ++ [c]) r (fun x hx => h x (by simp [hx]))]
    simp
theorem toks_key (j : Nat) (r : List UInt8) : toks [] (sets_Parts.keyB j ++ r) = j :: toks [] r := by
  have e : Lib.itoa (j : Int) = Lib.decDigits j := by unfold Lib.itoa; rw [if_neg (by omega)]; simp
  unfold sets_Parts.keyB
  rw [e, List.append_assoc, List.singleton_append, toks_word _ _ _ (dec_val j).2, List.nil_append, (dec_val j).1]
theorem toks_flat (p : Nat → Bool) : ∀ l : List Nat, toks [] (l.flatMap fun j => if p j = true then sets_Parts.keyB j else []) = l.filter p
  | [] => rfl
  | j :: l => by
    rw [List.flatMap_cons, List.filter_cons]
    cases h : p j with
    | true => rw [if_pos rfl, if_pos rfl, toks_key, toks_flat p l]
    | false => rw [if_neg (by simp), if_neg (by simp), List.nil_append, toks_flat p l]
/-- Two units of one mark are in the same sets. -/
theorem key_inj (l0 : List (List S29)) (u v : Int) (n : Nat) : sets_Parts.keyN l0 u n = sets_Parts.keyN l0 v n ↔ ∀ j, j < n → sets_Parts.inS (rd_L2 l0 (j : Int)) u = sets_Parts.inS (rd_L2 l0 (j : Int)) v := by
  have hk : ∀ u : Int, toks [] (sets_Parts.keyN l0 u n) = (List.range n).filter (fun j : Nat => sets_Parts.inS (rd_L2 l0 (j : Int)) u) := fun u => toks_flat _ _
  constructor
  · intro h j hj
    have h1 := hk u
    rw [h, hk v] at h1
    have h2 : ∀ j, j ∈ (List.range n).filter (fun j : Nat => sets_Parts.inS (rd_L2 l0 (j : Int)) v) ↔ j ∈ (List.range n).filter (fun j : Nat => sets_Parts.inS (rd_L2 l0 (j : Int)) u) := fun j => by rw [h1]
    have h3 := h2 j
    simp only [List.mem_filter, List.mem_range, hj, true_and] at h3
    rw [Bool.eq_iff_iff]
    exact h3.symm
  · intro h
    unfold sets_Parts.keyN
    have : ∀ l : List Nat, (∀ j ∈ l, j < n) → (l.flatMap fun (j : Nat) => if sets_Parts.inS (rd_L2 l0 (j : Int)) u then sets_Parts.keyB j else []) = (l.flatMap fun (j : Nat) => if sets_Parts.inS (rd_L2 l0 (j : Int)) v then sets_Parts.keyB j else []) := by
      intro l
      induction l with
      | nil => intro _; rfl
      | cons j l ih =>
        intro hl
        rw [List.flatMap_cons, List.flatMap_cons, ih (fun x hx => hl x (by simp [hx])), h j (hl j (by simp))]
    exact this _ (fun j hj => List.mem_range.1 hj)

end Go.Proofs.YtoggmegpodmfnaaDoor.Q
/- The law's plain side (SetsPartsA): what the printed functions come to; each theorem states its own conditions. -/
namespace Go.Proofs.YtoggmegpodmfnaaDoor.Q
open Go.RowKit Go.Proofs.YtoggmegpodmfnaaDoorW.PrintWords Go.Proofs.YtoggmegpodmfnaaDoorW.PrintLast Go.Proofs.YtoggmegpodmfnaaDoorW.PrintMore Go.Proofs.YtoggmegpodmfnaaDoor.PT Go.Proofs.YtoggmegpodmfnaaDoor.B
set_option linter.unusedVariables false
set_option linter.unusedSimpArgs false
/-! the pieces: where each begins and ends -/
theorem bandHi_eq (u : Int) (h : 0 ≤ bandOf u) : bandOf (sets_Parts.bandHi u) = bandOf u ∧ u ≤ sets_Parts.bandHi u ∧ ∀ x, u ≤ x → x ≤ sets_Parts.bandHi u → bandOf x = bandOf u := by
  have c := bandOf_cases u
  unfold sets_Parts.bandHi
  rcases c with ⟨e, h1, h2⟩ | ⟨e, h1, h2⟩ | ⟨e, h1, h2⟩ | ⟨e, _⟩
  · rw [e, if_pos rfl]; exact ⟨by decide, h2, fun x hx1 hx2 => bandOf_0 ⟨by omega, hx2⟩⟩
  · rw [e, if_neg (by decide), if_pos rfl]; exact ⟨by decide, h2, fun x hx1 hx2 => bandOf_1 ⟨by omega, hx2⟩⟩
  · rw [e, if_neg (by decide), if_neg (by decide)]; exact ⟨by decide, h2, fun x hx1 hx2 => bandOf_2 ⟨by omega, hx2⟩⟩
  · omega
theorem bandHi_same {x u : Int} (h : bandOf x = bandOf u) : sets_Parts.bandHi x = sets_Parts.bandHi u := by unfold sets_Parts.bandHi; rw [h]
section
variable {L : List (List Rg)}
theorem cs_at (i : Nat) (h : i < (sets_Parts.cs L).length) : (sets_Parts.cs L).getD i 0 = (sets_Parts.cs L)[i] := by simp [h]
theorem cs_get_mem (i : Nat) (h : i < (sets_Parts.cs L).length) : (sets_Parts.cs L).getD i 0 ∈ sets_Parts.cs L := by rw [cs_at i h]; exact List.getElem_mem h
theorem cs_lt {i j : Nat} (hj : j < (sets_Parts.cs L).length) (hij : i < j) : (sets_Parts.cs L).getD i 0 < (sets_Parts.cs L).getD j 0 := by
  rw [cs_at i (by omega), cs_at j hj]
  exact List.pairwise_iff_getElem.1 (sets_Parts.cs_asc L) i j (by omega) hj hij
theorem pc_lo (i : Nat) : (sets_Parts.pc (sets_Parts.cs L) i).f0 = (sets_Parts.cs L).getD i 0 := rfl
theorem pc_hi (i : Nat) : (sets_Parts.pc (sets_Parts.cs L) i).f1 ≤ sets_Parts.bandHi ((sets_Parts.cs L).getD i 0) ∧ (i + 1 < (sets_Parts.cs L).length → (sets_Parts.pc (sets_Parts.cs L) i).f1 < (sets_Parts.cs L).getD (i + 1) 0) := by
  unfold sets_Parts.pc
  by_cases h : i + 1 < (sets_Parts.cs L).length
  · simp only [if_pos h]
    unfold mn
    constructor
    · split <;> omega
    · intro _; split <;> omega
  · simp only [if_neg h]
    exact ⟨Int.le_refl _, fun h' => absurd h' h⟩
theorem pc_ge {x : Int} (i : Nat) (hi : i < (sets_Parts.cs L).length) (h1 : x ≤ sets_Parts.bandHi ((sets_Parts.cs L).getD i 0)) (h2 : i + 1 < (sets_Parts.cs L).length → x < (sets_Parts.cs L).getD (i + 1) 0) : x ≤ (sets_Parts.pc (sets_Parts.cs L) i).f1 := by
  unfold sets_Parts.pc
  by_cases h : i + 1 < (sets_Parts.cs L).length
  · simp only [if_pos h]
    have := h2 h
    unfold mn
    split <;> omega
  · simp only [if_neg h]
    exact h1
theorem pc_ok (hg : sets_Parts.Good L) (i : Nat) (hi : i < (sets_Parts.cs L).length) : okR (sets_Parts.pc (sets_Parts.cs L) i) := by
  have hb := hg.bands _ (cs_get_mem i hi)
  obtain ⟨h1, h2, h3⟩ := bandHi_eq _ hb
  have hle : (sets_Parts.cs L).getD i 0 ≤ (sets_Parts.pc (sets_Parts.cs L) i).f1 := pc_ge i hi h2 (fun h => cs_lt h (Nat.lt_succ_self i))
  exact ⟨hb, (h3 _ hle (pc_hi i).1).symm, hle⟩
/-- Nothing begins within a piece but the piece. -/
theorem pc_none {i : Nat} (hi : i < (sets_Parts.cs L).length) {v : Int} (hv : v ∈ sets_Parts.cs L) (h1 : (sets_Parts.cs L).getD i 0 < v) : (sets_Parts.pc (sets_Parts.cs L) i).f1 < v := by
  obtain ⟨t, ht, rfl⟩ := List.getElem_of_mem hv
  have hit : i < t := by
    rcases Nat.lt_trichotomy i t with h | h | h
    · exact h
    · subst h; rw [cs_at i hi] at h1; omega
    · have := cs_lt hi h; rw [cs_at t ht] at this; omega
  have h2 := (pc_hi (L := L) i).2 (by omega)
  rcases Nat.lt_or_ge (i + 1) t with h | h
  · have h3 := cs_lt ht h; rw [cs_at t ht] at h3; omega
  · have : t = i + 1 := by omega
    subst this
    rw [cs_at (i + 1) ht] at h2
    exact h2
theorem last_below (l : List Int) (x : Int) : (∃ v ∈ l, v ≤ x) → l.Pairwise (fun a b => a < b) → ∃ i, i < l.length ∧ l.getD i 0 ≤ x ∧ (i + 1 < l.length → x < l.getD (i + 1) 0) := by
  induction l with
  | nil => rintro ⟨v, hv, _⟩; cases hv
  | cons a l ih =>
    rintro ⟨v, hv, hvx⟩ hp
    have hp' := List.pairwise_cons.1 hp
    by_cases h : ∃ v ∈ l, v ≤ x
    · obtain ⟨i, h1, h2, h3⟩ := ih h hp'.2
      exact ⟨i + 1, by simp; omega, by simpa using h2, fun h4 => by have := h3 (by simp at h4; omega); simpa using this⟩
    · refine ⟨0, by simp, ?_, fun h4 => ?_⟩
      · rcases List.mem_cons.1 hv with rfl | hv'
        · simpa using hvx
        · exact absurd ⟨v, hv', hvx⟩ h
      · have h5 : 0 < l.length := by simp at h4; omega
        have h6 : ¬ l[0] ≤ x := fun h7 => h ⟨l[0], List.getElem_mem h5, h7⟩
        have e : (a :: l).getD (0 + 1) 0 = l[0] := by simp [h5]
        rw [e]
        omega
/-- Each unit is in one piece. -/
theorem pc_of (hg : sets_Parts.Good L) {x : Int} (hx : isU x = true) : ∃ i, i < (sets_Parts.cs L).length ∧ (sets_Parts.cs L).getD i 0 ≤ x ∧ x ≤ (sets_Parts.pc (sets_Parts.cs L) i).f1 := by
  have hb : 0 ≤ bandOf x := of_decide_eq_true hx
  obtain ⟨lo, hlo, hl1, hl2⟩ : ∃ lo, lo ∈ sets_Parts.cs L ∧ lo ≤ x ∧ ∀ v, lo ≤ v → v ≤ x → bandOf v = bandOf x := by
    rcases bandOf_cases x with ⟨e, h1, h2⟩ | ⟨e, h1, h2⟩ | ⟨e, h1, h2⟩ | ⟨e, _⟩
    · exact ⟨0, (sets_Parts.cs_mem L _).2 (by simp [sets_Parts.begins]), h1, fun v h3 h4 => by rw [e]; exact bandOf_0 ⟨h3, by omega⟩⟩
    · exact ⟨57344, (sets_Parts.cs_mem L _).2 (by simp [sets_Parts.begins]), h1, fun v h3 h4 => by rw [e]; exact bandOf_1 ⟨h3, by omega⟩⟩
    · exact ⟨1114240, (sets_Parts.cs_mem L _).2 (by simp [sets_Parts.begins]), h1, fun v h3 h4 => by rw [e]; exact bandOf_2 ⟨h3, by omega⟩⟩
    · omega
  obtain ⟨i, hi, h1, h2⟩ := last_below _ x ⟨lo, hlo, hl1⟩ (sets_Parts.cs_asc L)
  refine ⟨i, hi, h1, pc_ge i hi ?_ h2⟩
  have h3 : lo ≤ (sets_Parts.cs L).getD i 0 := by
    rcases Int.lt_or_le ((sets_Parts.cs L).getD i 0) lo with h4 | h4
    · obtain ⟨t, ht, rfl⟩ := List.getElem_of_mem hlo
      rw [← cs_at t ht] at h4 hl1
      have hit : i < t := by
        rcases Nat.lt_or_ge i t with h | h
        · exact h
        · rcases Nat.lt_or_ge t i with h5 | h5
          · have := cs_lt hi h5; omega
          · have : t = i := by omega
            subst this; omega
      have h5 := h2 (by omega)
      rcases Nat.lt_or_ge (i + 1) t with h | h
      · have := cs_lt ht h; omega
      · have : t = i + 1 := by omega
        subst this; omega
    · exact h4
  have h4 := hl2 _ h3 h1
  have h5 := (bandHi_eq x hb).2.1
  rw [bandHi_same h4.symm] at h5
  exact h5
/-- Within a piece all stand alike to each set. -/
theorem inS_piece (hg : sets_Parts.Good L) {l : List Rg} (hl : l ∈ L) {i : Nat} (hi : i < (sets_Parts.cs L).length) {x : Int} (h1 : (sets_Parts.cs L).getD i 0 ≤ x) (h2 : x ≤ (sets_Parts.pc (sets_Parts.cs L) i).f1) : sets_Parts.inS l x = sets_Parts.inS l ((sets_Parts.cs L).getD i 0) := by
  have hb := hg.bands _ (cs_get_mem i hi)
  obtain ⟨_, _, h3⟩ := bandHi_eq _ hb
  have hxh := Int.le_trans h2 (pc_hi i).1
  have beg : ∀ r ∈ l, ∀ v, v ∈ sets_Parts.beg1 r → v ∈ sets_Parts.cs L := fun r hr v hv => (sets_Parts.cs_mem L v).2 (by
    unfold sets_Parts.begins
    refine List.mem_append.2 (.inr (List.mem_flatMap.2 ⟨l, hl, ?_⟩))
    exact List.mem_flatMap.2 ⟨r, hr, hv⟩)
  unfold sets_Parts.inS
  rw [Bool.eq_iff_iff, List.any_eq_true, List.any_eq_true]
  constructor
  · rintro ⟨r, hr, h4⟩
    have h4 := of_decide_eq_true h4
    refine ⟨r, hr, decide_eq_true ⟨?_, by omega⟩⟩
    rcases Int.lt_or_le ((sets_Parts.cs L).getD i 0) r.f0 with h5 | h5
    · have := pc_none hi (beg r hr r.f0 (by simp [sets_Parts.beg1])) h5
      omega
    · exact h5
  · rintro ⟨r, hr, h4⟩
    have h4 := of_decide_eq_true h4
    refine ⟨r, hr, decide_eq_true ⟨by omega, ?_⟩⟩
    rcases Int.lt_or_le r.f1 x with h5 | h5
    · have h6 : bandOf (r.f1 + 1) = bandOf ((sets_Parts.cs L).getD i 0) := h3 _ (by omega) (by omega)
      have := pc_none hi (beg r hr (r.f1 + 1) (by unfold sets_Parts.beg1; rw [if_pos (by rw [h6]; exact hb)]; simp)) (by omega)
      omega
    · exact h5
theorem rdL {l : List (List Rg)} (j : Nat) (h : j < l.length) : rd_L2 l (j : Int) = l[j] := by simp [rd_L2, h]
theorem key_piece (hg : sets_Parts.Good L) {i : Nat} (hi : i < (sets_Parts.cs L).length) {x : Int} (h1 : (sets_Parts.cs L).getD i 0 ≤ x) (h2 : x ≤ (sets_Parts.pc (sets_Parts.cs L) i).f1) : sets_Parts.keyN L x L.length = sets_Parts.keyN L ((sets_Parts.cs L).getD i 0) L.length :=
  (key_inj L _ _ _).2 fun j hj => by rw [rdL j hj]; exact inS_piece hg (List.getElem_mem hj) hi h1 h2
end

end Go.Proofs.YtoggmegpodmfnaaDoor.Q
/- The law's plain side (SetsPartsG): what the printed functions come to; each theorem states its own conditions. -/
namespace Go.Proofs.YtoggmegpodmfnaaDoor.Q
open Go.RowKit Go.Proofs.YtoggmegpodmfnaaDoorW.PrintWords Go.Proofs.YtoggmegpodmfnaaDoorW.PrintLast Go.Proofs.YtoggmegpodmfnaaDoorW.PrintMore Go.Proofs.YtoggmegpodmfnaaDoor.PT Go.Proofs.YtoggmegpodmfnaaDoor.B
set_option linter.unusedVariables false
set_option linter.unusedSimpArgs false
/-! the groups -/
def lo (g : List UInt8 × List Rg) : Int := (g.2.headD ⟨0, 0⟩).f0
structure Gs (L : List (List Rg)) (n : Nat) (gs : List (List UInt8 × List Rg)) : Prop where
  nd : gs.Pairwise (fun a b => a.1 ≠ b.1)
  inn : ∀ g ∈ gs, ∀ p ∈ g.2, ∃ i, i < n ∧ p = sets_Parts.pc (sets_Parts.cs L) i ∧ g.1 = sets_Parts.keyN L ((sets_Parts.cs L).getD i 0) L.length
  all : ∀ i, i < n → ∃ g ∈ gs, g.1 = sets_Parts.keyN L ((sets_Parts.cs L).getD i 0) L.length ∧ sets_Parts.pc (sets_Parts.cs L) i ∈ g.2
  asc : gs.Pairwise (fun a b => lo a < lo b)
  ne : ∀ g ∈ gs, g.2 ≠ [] ∧ ∀ p ∈ g.2, lo g ≤ p.f0
theorem idx_none {α : Type} : ∀ (gs : List (List UInt8 × α)) (k : List UInt8), sets_Parts.idxG gs k = none → ∀ g ∈ gs, g.1 ≠ k
  | [], _, _, g, hg => by cases hg
  | (k', l) :: r, k, h, g, hg => by
    unfold sets_Parts.idxG at h
    by_cases e : k' = k
    · rw [if_pos e] at h; cases h
    · rw [if_neg e] at h
      rcases List.mem_cons.1 hg with rfl | hg
      · exact e
      · exact idx_none r k (by simpa using h) g hg
theorem lo_mem {g : List UInt8 × List Rg} (h : g.2 ≠ []) : ∃ p ∈ g.2, lo g = p.f0 := by
  obtain ⟨k, l⟩ := g
  cases l with
  | nil => exact absurd rfl h
  | cons p l => exact ⟨p, by simp, rfl⟩
theorem gs_step {L : List (List Rg)} {n : Nat} {gs : List (List UInt8 × List Rg)} (h : Gs L n gs) (hn : n < (sets_Parts.cs L).length) :
    Gs L (n + 1) (sets_Parts.placeG gs (sets_Parts.keyN L ((sets_Parts.cs L).getD n 0) L.length) (sets_Parts.pc (sets_Parts.cs L) n)) := by
  obtain ⟨k, hk⟩ : ∃ k, k = sets_Parts.keyN L ((sets_Parts.cs L).getD n 0) L.length := ⟨_, rfl⟩
  obtain ⟨p, hp⟩ : ∃ p, p = sets_Parts.pc (sets_Parts.cs L) n := ⟨_, rfl⟩
  rw [← hk, ← hp]
  have hpl : p.f0 = (sets_Parts.cs L).getD n 0 := by rw [hp]; rfl
  have low : ∀ g ∈ gs, lo g < p.f0 := fun g hg => by
    obtain ⟨q, hq, e⟩ := lo_mem (h.ne g hg).1
    obtain ⟨i, hi, rfl, _⟩ := h.inn g hg q hq
    rw [e, hpl]
    exact cs_lt hn hi
  cases hidx : sets_Parts.idxG gs k with
  | none =>
    rw [sets_Parts.placeG_none gs k p hidx]
    have hno := idx_none gs k hidx
    refine ⟨?_, ?_, ?_, ?_, ?_⟩
    · rw [List.pairwise_append]
      exact ⟨h.nd, List.pairwise_singleton _ _, fun a ha b hb => by rw [List.mem_singleton.1 hb]; exact hno a ha⟩
    · intro g hg q hq
      rcases List.mem_append.1 hg with hg | hg
      · obtain ⟨i, hi, h1, h2⟩ := h.inn g hg q hq
        exact ⟨i, by omega, h1, h2⟩
      · rw [List.mem_singleton.1 hg] at hq ⊢
        exact ⟨n, by omega, by rw [List.mem_singleton.1 hq]; exact hp, hk⟩
    · intro i hi
      by_cases e : i = n
      · subst e
        exact ⟨(k, [p]), by simp, hk, by rw [hp]; simp⟩
      · obtain ⟨g, hg, h1⟩ := h.all i (by omega)
        exact ⟨g, by simp [hg], h1⟩
    · rw [List.pairwise_append]
      exact ⟨h.asc, List.pairwise_singleton _ _, fun a ha b hb => by rw [List.mem_singleton.1 hb]; exact low a ha⟩
    · intro g hg
      rcases List.mem_append.1 hg with hg | hg
      · exact h.ne g hg
      · rw [List.mem_singleton.1 hg]
        exact ⟨by simp, fun q hq => by rw [List.mem_singleton.1 hq]; exact Int.le_refl _⟩
  | some j =>
    obtain ⟨l, hl⟩ := sets_Parts.idxG_get gs k j hidx
    rw [sets_Parts.placeG_some gs k p j l hidx hl]
    have hjl := (List.getElem?_eq_some_iff.1 hl).1
    have hgm : (k, l) ∈ gs := List.mem_of_getElem? hl
    have hln := (h.ne _ hgm).1
    have hlo : lo (k, l ++ [p]) = lo (k, l) := by
      cases l with
      | nil => exact absurd rfl hln
      | cons q l => rfl
    have hmem : ∀ g, g ∈ gs.set j (k, l ++ [p]) → g ∈ gs ∨ g = (k, l ++ [p]) := fun g hg => List.mem_or_eq_of_mem_set hg
    have hin : (k, l ++ [p]) ∈ gs.set j (k, l ++ [p]) := List.mem_of_getElem? (List.getElem?_set_self hjl)
    have hkeep : ∀ g ∈ gs, g = (k, l) ∨ g ∈ gs.set j (k, l ++ [p]) := fun g hg => by
      obtain ⟨t, ht, e⟩ := List.getElem_of_mem hg
      by_cases etj : t = j
      · left
        subst etj
        rw [← e]
        exact (List.getElem?_eq_some_iff.1 hl).2
      · right
        exact List.mem_of_getElem? (i := t) (by rw [List.getElem?_set_ne (Ne.symm etj), List.getElem?_eq_getElem ht, e])
    have emap : (gs.set j (k, l ++ [p])).map (fun g => (g.1, lo g)) = gs.map (fun g => (g.1, lo g)) := by
      rw [List.map_set]
      apply List.ext_getElem?
      intro t
      by_cases etj : j = t
      · subst etj
        rw [List.getElem?_set_self (by simpa using hjl), List.getElem?_map, hl, hlo]
        rfl
      · rw [List.getElem?_set_ne etj]
    refine ⟨?_, ?_, ?_, ?_, ?_⟩
    · have h1 : ((gs.set j (k, l ++ [p])).map (fun g => (g.1, lo g))).Pairwise (fun a b => a.1 ≠ b.1) := by rw [emap, List.pairwise_map]; exact h.nd
      rw [List.pairwise_map] at h1
      exact h1
    · intro g hg q hq
      rcases hmem g hg with hg | rfl
      · obtain ⟨i, hi, h1, h2⟩ := h.inn g hg q hq
        exact ⟨i, by omega, h1, h2⟩
      · rcases List.mem_append.1 hq with hq | hq
        · obtain ⟨i, hi, h1, h2⟩ := h.inn _ hgm q hq
          exact ⟨i, by omega, h1, h2⟩
        · exact ⟨n, by omega, by rw [List.mem_singleton.1 hq]; exact hp, hk⟩
    · intro i hi
      by_cases e : i = n
      · subst e
        exact ⟨_, hin, hk, by rw [hp]; simp⟩
      · obtain ⟨g, hg, h1, h2⟩ := h.all i (by omega)
        rcases hkeep g hg with rfl | hg'
        · exact ⟨_, hin, h1, List.mem_append.2 (.inl h2)⟩
        · exact ⟨g, hg', h1, h2⟩
    · have h1 : ((gs.set j (k, l ++ [p])).map (fun g => (g.1, lo g))).Pairwise (fun a b => a.2 < b.2) := by rw [emap, List.pairwise_map]; exact h.asc
      rw [List.pairwise_map] at h1
      exact h1
    · intro g hg
      rcases hmem g hg with hg | rfl
      · exact h.ne g hg
      · refine ⟨by simp, fun q hq => ?_⟩
        rw [hlo]
        rcases List.mem_append.1 hq with hq | hq
        · exact (h.ne _ hgm).2 q hq
        · rw [List.mem_singleton.1 hq]
          exact Int.le_of_lt (low _ hgm)
theorem gs_all (L : List (List Rg)) : ∀ n, n ≤ (sets_Parts.cs L).length → Gs L n (sets_Parts.grpN (sets_Parts.cs L) (fun u => sets_Parts.keyN L u L.length) n)
  | 0, _ => ⟨List.Pairwise.nil, fun g hg => absurd hg List.not_mem_nil, fun i hi => absurd hi (Nat.not_lt_zero _), List.Pairwise.nil, fun g hg => absurd hg List.not_mem_nil⟩
  | n + 1, h => by rw [sets_Parts.grpN_succ]; exact gs_step (gs_all L n (by omega)) (by omega)
/-- A group's members: the units of its mark. -/
theorem grp_mem {L : List (List Rg)} (hg : sets_Parts.Good L) {gs : List (List UInt8 × List Rg)} (h : Gs L (sets_Parts.cs L).length gs) {g : List UInt8 × List Rg} (hgm : g ∈ gs) (x : Int) : mem g.2 x = (isU x && decide (sets_Parts.keyN L x L.length = g.1)) := by
  rw [Bool.eq_iff_iff, Bool.and_eq_true, decide_eq_true_eq, mem_iff]
  constructor
  · rintro ⟨p, hp, h1, h2⟩
    obtain ⟨i, hi, rfl, hk⟩ := h.inn g hgm p hp
    exact ⟨okR_unit (pc_ok hg i hi) h1 h2, by rw [hk]; exact key_piece hg hi h1 h2⟩
  · rintro ⟨hx, hk⟩
    obtain ⟨i, hi, h1, h2⟩ := pc_of hg hx
    obtain ⟨g', hg', e, hp⟩ := h.all i hi
    have e2 : g'.1 = g.1 := by rw [e, ← hk, key_piece hg hi h1 h2]
    have : g' = g := by
      obtain ⟨t, ht, rfl⟩ := List.getElem_of_mem hg'
      obtain ⟨q, hq, rfl⟩ := List.getElem_of_mem hgm
      rcases Nat.lt_trichotomy t q with h3 | h3 | h3
      · exact absurd e2 (List.pairwise_iff_getElem.1 h.nd t q ht hq h3)
      · subst h3; rfl
      · exact absurd e2.symm (List.pairwise_iff_getElem.1 h.nd q t hq ht h3)
    rw [← this]
    exact ⟨_, hp, h1, h2⟩
theorem grp_ok {L : List (List Rg)} (hg : sets_Parts.Good L) {gs : List (List UInt8 × List Rg)} (h : Gs L (sets_Parts.cs L).length gs) {g : List UInt8 × List Rg} (hgm : g ∈ gs) : ∀ p ∈ g.2, okR p := fun p hp => by
  obtain ⟨i, hi, rfl, _⟩ := h.inn g hgm p hp
  exact pc_ok hg i hi
theorem placeG_tot : ∀ (gs : List (List UInt8 × List Rg)) (k : List UInt8) (p : Rg), sets_Parts.tot ((sets_Parts.placeG gs k p).map Prod.snd) = sets_Parts.tot (gs.map Prod.snd) + 1
  | [], k, p => rfl
  | (k', l) :: r, k, p => by
    have ih := placeG_tot r k p
    unfold sets_Parts.placeG
    by_cases e : k' = k
    · rw [if_pos e]; simp [sets_Parts.tot]; omega
    · rw [if_neg e]
      simp only [sets_Parts.tot, List.map_cons, List.sum_cons] at ih ⊢
      omega
theorem grpN_tot (L : List (List Rg)) (cs : List Int) : ∀ n, sets_Parts.tot ((sets_Parts.grpN cs (fun u => sets_Parts.keyN L u L.length) n).map Prod.snd) = n
  | 0 => rfl
  | n + 1 => by rw [sets_Parts.grpN_succ, placeG_tot, grpN_tot L cs n]

end Go.Proofs.YtoggmegpodmfnaaDoor.Q
/- The law's plain side (SetsPartsB): what the printed functions come to; each theorem states its own conditions. -/
namespace Go.Proofs.YtoggmegpodmfnaaDoor.Q
open Go.RowKit Go.Proofs.YtoggmegpodmfnaaDoorW.PrintWords Go.Proofs.YtoggmegpodmfnaaDoorW.PrintLast Go.Proofs.YtoggmegpodmfnaaDoorW.PrintMore Go.Proofs.YtoggmegpodmfnaaDoor.PT Go.Proofs.YtoggmegpodmfnaaDoor.B
set_option linter.unusedVariables false
set_option linter.unusedSimpArgs false
/-! what Parts answers -/
def hd (r : List Rg) : Int := (r.headD ⟨0, 0⟩).f0
theorem checkAll0 (L : List (List Rg)) (hL : ∀ l ∈ L, Sound l) (hl : L.length ≤ 16777216) : ∀ (d i : Nat), L.length - i = d → Ev (fun k => sets_check.l0 k L (L.length : Int) (i : Int)) 0
  | 0, i, hd => Ev.step (f := fun _ => some 0) (fun k => by rw [sets_check.l0, if_neg (by omega)]) (Ev.now _)
  | d + 1, i, hd => by
    have hi : i < L.length := by omega
    have hs := hL _ (List.getElem_mem hi)
    have hsl := sound_len hs
    refine Ev.step (f := fun k => (sets_Check.f k L[i]).bind fun t => if t = 0 then sets_check.l0 k L (L.length : Int) ((i + 1 : Nat) : Int) else some 1) (fun k => ?_) (Ev.bind (check_is L[i] (by omega) hs.r32) ?_)
    · rw [sets_check.l0, if_pos (by omega), if_pos (by omega), if_pos (by omega), rdL i hi, wrapS i (by omega)]
    · rw [if_pos hs]
      exact ev_if_pos rfl (checkAll0 L hL hl d (i + 1) (by omega))
theorem checkAll (L : List (List Rg)) (hL : ∀ l ∈ L, Sound l) (hl : L.length ≤ 16777216) : Ev (fun k => sets_check.f k L) 0 := by
  unfold sets_check.f
  exact checkAll0 L hL hl L.length 0 (by omega)
theorem gat_is : ∀ ls : List (List Rg), (∀ l ∈ ls, (∀ r ∈ l, okR r) ∧ l.length ≤ 4294967296) → ∃ rs, Ev (fun k => sets_Parts.gat k ls) rs ∧ sets_Parts.tot rs ≤ sets_Parts.tot ls ∧ rs.length = ls.length ∧ ∀ (j : Nat) (r l : List Rg), rs[j]? = some r → ls[j]? = some l → Sound r ∧ ∀ u, mem r u = mem l u
  | [], _ => ⟨[], Ev.now _, Nat.le_refl _, rfl, fun j r l hj _ => by simp at hj⟩
  | l :: ls, h => by
    obtain ⟨r, hr, h1, h2, h9⟩ := gather_is l (h l (by simp)).2 (h l (by simp)).1
    obtain ⟨rs, hrs, h8, h3, h4⟩ := gat_is ls (fun x hx => h x (by simp [hx]))
    refine ⟨r :: rs, Ev.bind hr (Ev.bind hrs (Ev.now _)), by simp only [sets_Parts.tot, List.map_cons, List.sum_cons] at h8 ⊢; omega, by simp [h3], fun j r' l' hj hl => ?_⟩
    cases j with
    | zero => obtain rfl := Option.some.inj hj; obtain rfl := Option.some.inj hl; exact ⟨h1, h2⟩
    | succ j => exact h4 j r' l' hj hl
theorem good_of {L : List (List Rg)} (hL : ∀ l ∈ L, Sound l) (h1 : L.length ≤ 16777216) (h2 : sets_Parts.tot L ≤ 16777216) : sets_Parts.Good L := by
  refine ⟨h1, h2, fun l hl r hr => ?_, fun l hl => (hL l hl).2⟩
  obtain ⟨a, b, c⟩ := (hL l hl).1 r hr
  refine ⟨a, c, ?_⟩
  have := bandOf_cases r.f1
  omega
theorem first_is {r l : List Rg} {g : List UInt8 × List Rg} (hr : Sound r) (hm : ∀ u, mem r u = mem g.2 u) (hok : ∀ p ∈ g.2, okR p) (hne : g.2 ≠ [] ∧ ∀ p ∈ g.2, lo g ≤ p.f0) : r ≠ [] ∧ hd r = lo g := by
  obtain ⟨p, hp, e⟩ := lo_mem hne.1
  have hlo : mem r (lo g) = true := by
    rw [hm, mem_iff]
    exact ⟨p, hp, by rw [e]; exact Int.le_refl _, by rw [e]; exact (hok p hp).2.2⟩
  cases r with
  | nil => rw [show mem [] (lo g) = false from rfl] at hlo; cases hlo
  | cons q r' =>
    refine ⟨by simp, ?_⟩
    show q.f0 = lo g
    have hq := (hr.1 q (by simp)).2.2
    have h1 : mem g.2 q.f0 = true := by
      rw [← hm, mem_iff]
      exact ⟨q, by simp, Int.le_refl _, hq⟩
    obtain ⟨p', hp', h2, _⟩ := (mem_iff _ _).1 h1
    have h3 := hne.2 p' hp'
    obtain ⟨q', hq', h4, _⟩ := (mem_iff _ _).1 hlo
    have h5 : q.f0 ≤ q'.f0 := by
      rcases List.mem_cons.1 hq' with rfl | hq'
      · exact Int.le_refl _
      · have := (List.pairwise_cons.1 hr.2).1 q' hq'
        omega
    omega
structure PartsOk (L rs : List (List Rg)) (Ks : List (List UInt8)) : Prop where
  len : Ks.length = rs.length
  big : rs.length ≤ 67108864
  tot : sets_Parts.tot rs ≤ 67108864
  sound : ∀ r ∈ rs, Sound r
  ne : ∀ r ∈ rs, r ≠ []
  asc : rs.Pairwise (fun a b => hd a < hd b)
  mem : ∀ (j : Nat) (r : List Rg) (K : List UInt8), rs[j]? = some r → Ks[j]? = some K → ∀ x, mem r x = (isU x && decide (sets_Parts.keyN L x L.length = K))
  nd : Ks.Pairwise (fun a b => a ≠ b)
  all : ∀ x, isU x = true → sets_Parts.keyN L x L.length ∈ Ks
theorem Parts_is (L : List (List Rg)) (hL : ∀ l ∈ L, Sound l) (h1 : L.length ≤ 16777216) (h2 : sets_Parts.tot L ≤ 16777216) : ∃ (rs : List (List Rg)) (Ks : List (List UInt8)), Ev (fun k => sets_Parts.f k L) (rs, 0) ∧ PartsOk L rs Ks := by
  have hg := good_of hL h1 h2
  have hgs := gs_all L _ (Nat.le_refl _)
  obtain ⟨gs, hgse⟩ : ∃ gs, gs = sets_Parts.grpN (sets_Parts.cs L) (fun u => sets_Parts.keyN L u L.length) (sets_Parts.cs L).length := ⟨_, rfl⟩
  have hlen := sets_Parts.grpN_len (sets_Parts.cs L) (fun u => sets_Parts.keyN L u L.length) (sets_Parts.cs L).length
  have hin := sets_Parts.grpN_in (sets_Parts.cs L) (fun u => sets_Parts.keyN L u L.length) (sets_Parts.cs L).length
  have hcl := sets_Parts.cs_len L h2
  have htot := grpN_tot L (sets_Parts.cs L) (sets_Parts.cs L).length
  rw [← hgse] at hgs hlen hin htot
  have hgr : sets_Parts.groups L = gs.map Prod.snd := by unfold sets_Parts.groups; rw [hgse]
  obtain ⟨rs, hrs, hrt, hrl, hrg⟩ := gat_is (gs.map Prod.snd) (fun l hl => by
    obtain ⟨g, hgm, rfl⟩ := List.mem_map.1 hl
    exact ⟨grp_ok hg hgs hgm, by have := hin g hgm; omega⟩)
  rw [List.length_map] at hrl
  have each : ∀ (j : Nat) (r : List Rg), rs[j]? = some r → ∃ g, gs[j]? = some g ∧ g ∈ gs ∧ Sound r ∧ (∀ u, Q.mem r u = Q.mem g.2 u) ∧ r ≠ [] ∧ hd r = lo g := by
    intro j r hj
    have hjl := (List.getElem?_eq_some_iff.1 hj).1
    have hjg : j < gs.length := by omega
    have hgj : gs[j]? = some gs[j] := List.getElem?_eq_getElem hjg
    obtain ⟨h3, h4⟩ := hrg j r gs[j].2 hj (by rw [List.getElem?_map, hgj]; rfl)
    have hgm : gs[j] ∈ gs := List.getElem_mem hjg
    obtain ⟨h5, h6⟩ := first_is (l := []) h3 h4 (grp_ok hg hgs hgm) (hgs.ne _ hgm)
    exact ⟨_, hgj, hgm, h3, h4, h5, h6⟩
  refine ⟨rs, gs.map Prod.fst, ?_, ⟨by simp [hrl], by omega, by omega, fun r hr => ?_, fun r hr => ?_, ?_, ?_, ?_, ?_⟩⟩
  · unfold sets_Parts.f
    refine Ev.bind (checkAll L hL h1) ?_
    refine ev_if_pos rfl (ev_if_pos ((sets_Parts.good_iff L).2 hg) ?_)
    rw [hgr]
    exact Ev.bind hrs (Ev.now _)
  · obtain ⟨j, hj, rfl⟩ := List.getElem_of_mem hr
    obtain ⟨_, _, _, h, _⟩ := each j _ (List.getElem?_eq_getElem hj)
    exact h
  · obtain ⟨j, hj, rfl⟩ := List.getElem_of_mem hr
    obtain ⟨_, _, _, _, _, h, _⟩ := each j _ (List.getElem?_eq_getElem hj)
    exact h
  · rw [List.pairwise_iff_getElem]
    intro i j hi hj hij
    obtain ⟨g1, e1, _, _, _, _, f1⟩ := each i _ (List.getElem?_eq_getElem hi)
    obtain ⟨g2, e2, _, _, _, _, f2⟩ := each j _ (List.getElem?_eq_getElem hj)
    rw [f1, f2]
    obtain ⟨hi', e1⟩ := List.getElem?_eq_some_iff.1 e1
    obtain ⟨hj', e2⟩ := List.getElem?_eq_some_iff.1 e2
    rw [← e1, ← e2]
    exact List.pairwise_iff_getElem.1 hgs.asc i j hi' hj' hij
  · intro j r K hj hK x
    obtain ⟨g, e, hgm, _, hm, _, _⟩ := each j r hj
    rw [List.getElem?_map, e] at hK
    obtain rfl := Option.some.inj hK
    rw [hm, grp_mem hg hgs hgm]
  · rw [List.pairwise_map]
    exact hgs.nd
  · intro x hx
    obtain ⟨i, hi, h3, h4⟩ := pc_of hg hx
    obtain ⟨g, hgm, e, _⟩ := hgs.all i hi
    rw [key_piece hg hi h3 h4, ← e]
    exact List.mem_map.2 ⟨g, hgm, rfl⟩

end Go.Proofs.YtoggmegpodmfnaaDoor.Q
/- The law's plain side (SetsParts): what the printed functions come to; each theorem states its own conditions. -/
namespace Go.Proofs.YtoggmegpodmfnaaDoor.Q
open Go.RowKit Go.Proofs.YtoggmegpodmfnaaDoorW.PrintWords Go.Proofs.YtoggmegpodmfnaaDoorW.PrintLast Go.Proofs.YtoggmegpodmfnaaDoorW.PrintMore Go.Proofs.YtoggmegpodmfnaaDoor.PT Go.Proofs.YtoggmegpodmfnaaDoor.B
set_option linter.unusedVariables false
set_option linter.unusedSimpArgs false
/-! SetsParts -/
def tld (L : List (List Rg)) (x : Int) : List Bool := L.map fun l => mem l x
theorem tld_key (L : List (List Rg)) (x y : Int) : tld L x = tld L y ↔ sets_Parts.keyN L x L.length = sets_Parts.keyN L y L.length := by
  rw [key_inj]
  unfold tld
  constructor
  · intro h j hj
    have h1 := congrArg (fun l => l[j]?) h
    simp only [List.getElem?_map, List.getElem?_eq_getElem hj, Option.map_some] at h1
    rw [rdL j hj]
    exact Option.some.inj h1
  · intro h
    apply List.map_congr_left
    intro l hl
    obtain ⟨j, hj, rfl⟩ := List.getElem_of_mem hl
    have := h j hj
    rw [rdL j hj] at this
    exact this
theorem tld_len (L : List (List Rg)) (x y : Int) : (tld L x).length = (tld L y).length := by simp [tld]
theorem tot_drop (l : List (List Rg)) (i : Nat) (hi : i < l.length) : sets_Parts.tot (l.drop i) = l[i].length + sets_Parts.tot (l.drop (i + 1)) := by
  rw [List.drop_eq_getElem_cons hi]
  show ((l[i] :: l.drop (i + 1)).map List.length).sum = _
  rw [List.map_cons, List.sum_cons]
  rfl
theorem told0 (L : List (List Rg)) (hL : ∀ l ∈ L, Sound l) (hl : L.length ≤ 16777216) (x : Int) : ∀ (d i : Nat) (acc : List Bool), L.length - i = d → acc.length ≤ i → i ≤ L.length → Ev (fun k => thistlelaw02_told.l0 k L x acc (i : Int)) (acc ++ tld (L.drop i) x)
  | 0, i, acc, hd, ha, hi => by
    have : i = L.length := by omega
    subst this
    rw [List.drop_length]
    exact Ev.step (f := fun _ => some (acc ++ tld [] x)) (fun k => by rw [thistlelaw02_told.l0, if_neg (by omega)]; simp [tld]) (Ev.now _)
  | d + 1, i, acc, hd, ha, hi => by
    have hlt : i < L.length := by omega
    have hs := hL _ (List.getElem_mem hlt)
    have hsl := sound_len hs
    refine Ev.step (f := fun k => (thistlelaw02_within.f k L[i] x).bind fun t152 => (if acc.length < 140737488355328 then (thistlelaw02_told.l0 k L x (acc ++ [t152]) ((i + 1 : Nat) : Int)) else (none))) (fun k => ?_) (Ev.bind (within_is L[i] x (by omega) hs.r32) (ev_if_pos (by omega) ?_))
    · rw [thistlelaw02_told.l0, if_pos (by omega), if_pos (by omega), rdL i hlt, wrapS i (by omega)]
    · have h := told0 L hL hl x d (i + 1) (acc ++ [mem L[i] x]) (by omega) (by simp; omega) (by omega)
      rw [List.drop_eq_getElem_cons hlt]
      rw [List.append_assoc] at h
      exact h
theorem told_is (L : List (List Rg)) (hL : ∀ l ∈ L, Sound l) (hl : L.length ≤ 16777216) (x : Int) : Ev (fun k => thistlelaw02_told.f k L x) (tld L x) := by
  have h := told0 L hL hl x L.length 0 [] (by omega) (by simp) (by omega)
  simpa [thistlelaw02_told.f] using h
theorem alike0 (a b : List Bool) (hab : a.length = b.length) (hl : a.length ≤ 16777216) : ∀ (d i : Nat), a.length - i = d → i ≤ a.length → Ev (fun k => thistlelaw02_alike.l0 k a b (i : Int)) (decide (a.drop i = b.drop i))
  | 0, i, hd, hi => by
    have : i = a.length := by omega
    subst this
    refine Ev.step (f := fun _ => some (decide (a.drop a.length = b.drop a.length))) (fun k => ?_) (Ev.now _)
    rw [thistlelaw02_alike.l0, if_neg (by omega), List.drop_length, hab, List.drop_length]
    simp
  | d + 1, i, hd, hi => by
    have hlt : i < a.length := by omega
    have hlb : i < b.length := by omega
    have ea : rdOf false a (i : Int) = a[i] := by simp [rdOf, hlt]
    have eb : rdOf false b (i : Int) = b[i] := by simp [rdOf, hlb]
    refine Ev.step (f := fun k => if (a[i] != b[i]) = true then some false else thistlelaw02_alike.l0 k a b ((i + 1 : Nat) : Int)) (fun k => ?_) ?_
    · rw [thistlelaw02_alike.l0, if_pos (by omega), if_pos (by omega), if_pos (by omega), ea, eb, wrapS i (by omega)]
    · rw [List.drop_eq_getElem_cons hlt, List.drop_eq_getElem_cons hlb]
      by_cases e : a[i] = b[i]
      · refine ev_if_neg (by simp [e]) ?_
        have h := alike0 a b hab hl d (i + 1) (by omega) (by omega)
        have gen : ∀ (x : Bool) (A B : List Bool), decide (x :: A = x :: B) = decide (A = B) := fun x A B => by simp
        rw [e, gen]
        exact h
      · refine ev_if_pos (by simpa using e) ?_
        have : decide (a[i] :: a.drop (i + 1) = b[i] :: b.drop (i + 1)) = false := decide_eq_false (fun h => e (by injection h))
        rw [this]
        exact Ev.now _
theorem alike_is (a b : List Bool) (hab : a.length = b.length) (hl : a.length ≤ 16777216) : Ev (fun k => thistlelaw02_alike.f k a b) (decide (a = b)) := by
  have h := alike0 a b hab hl a.length 0 (by omega) (by omega)
  simpa [thistlelaw02_alike.f] using h
theorem hd_at {r : List Rg} (h : r ≠ []) : (rd_T29 r 0).f0 = hd r := by
  cases r with
  | nil => exact absurd rfl h
  | cons q r => rfl
theorem hd_mem {r : List Rg} (hs : Sound r) (h : r ≠ []) : mem r (hd r) = true := by
  cases r with
  | nil => exact absurd rfl h
  | cons q r => exact (mem_iff _ _).2 ⟨q, by simp, Int.le_refl _, (hs.1 q (by simp)).2.2⟩
theorem hd_wrap {r : List Rg} (hs : Sound r) (h : r ≠ []) : wrap64 ((rd_T29 r 0).f0) = hd r := by
  rw [hd_at h]
  cases r with
  | nil => exact absurd rfl h
  | cons q r =>
    have := (hs.r32 q (by simp)).1
    unfold I32 at this
    exact wrap64_of _ (by show _ ≤ q.f0 ∧ q.f0 ≤ _; omega)
theorem len_pos {r : List Rg} (h : r ≠ []) : 0 < (r.length : Int) := by
  cases r with
  | nil => exact absurd rfl h
  | cons q r => simp
theorem count_one : ∀ (Ks : List (List UInt8)) (k : List UInt8), Ks.Pairwise (fun a b => a ≠ b) → Ks.countP (fun K => decide (k = K)) = if k ∈ Ks then 1 else 0
  | [], k, _ => rfl
  | K :: Ks, k, h => by
    have h' := List.pairwise_cons.1 h
    rw [List.countP_cons, count_one Ks k h'.2]
    by_cases e : k = K
    · have hn : k ∉ Ks := fun hm => h'.1 k hm e.symm
      rw [if_neg hn, if_pos (by simp [e]), if_pos (by simp [e])]
    · by_cases hm : k ∈ Ks
      · rw [if_pos hm, if_neg (by simpa using e), if_pos (by simp [hm])]
      · rw [if_neg hm, if_neg (by simpa using e), if_neg (by simp [hm, e])]
section
variable {L rs : List (List Rg)} {Ks : List (List UInt8)}
theorem PartsOk.at_ (hP : PartsOk L rs Ks) {j : Nat} (hj : j < rs.length) : ∃ K, Ks[j]? = some K ∧ Sound rs[j] ∧ rs[j] ≠ [] ∧ ∀ x, Q.mem rs[j] x = (isU x && decide (sets_Parts.keyN L x L.length = K)) := by
  have hk : j < Ks.length := by have := hP.len; omega
  exact ⟨Ks[j], List.getElem?_eq_getElem hk, hP.sound _ (List.getElem_mem hj), hP.ne _ (List.getElem_mem hj), fun x => hP.mem j rs[j] Ks[j] (List.getElem?_eq_getElem hj) (List.getElem?_eq_getElem hk) x⟩
theorem PartsOk.count (hP : PartsOk L rs Ks) (x : Int) : rs.countP (fun r => Q.mem r x) = if isU x = true then 1 else 0 := by
  have h1 : rs.map (fun r => Q.mem r x) = Ks.map (fun K => isU x && decide (sets_Parts.keyN L x L.length = K)) := by
    apply List.ext_getElem?
    intro j
    by_cases hj : j < rs.length
    · obtain ⟨K, hK, _, _, hm⟩ := hP.at_ hj
      rw [List.getElem?_map, List.getElem?_map, List.getElem?_eq_getElem hj, hK]
      simp [hm]
    · have := hP.len
      rw [List.getElem?_eq_none (by simp; omega), List.getElem?_eq_none (by simp; omega)]
  have h2 : rs.countP (fun r => Q.mem r x) = (rs.map (fun r => Q.mem r x)).countP id := by rw [List.countP_map]; rfl
  rw [h2, h1, List.countP_map]
  cases hu : isU x with
  | false =>
    rw [if_neg (by simp)]
    exact List.countP_eq_zero.2 (fun K _ => by simp)
  | true =>
    rw [if_pos rfl]
    have h3 := count_one Ks (sets_Parts.keyN L x L.length) hP.nd
    rw [if_pos (hP.all x hu)] at h3
    rw [← h3]
    apply List.countP_congr
    intro K _
    simp
theorem PartsOk.hdKey (hP : PartsOk L rs Ks) {j : Nat} (hj : j < rs.length) : Ks[j]? = some (sets_Parts.keyN L (hd rs[j]) L.length) := by
  obtain ⟨K, hK, hs, hn, hm⟩ := hP.at_ hj
  have h1 := hd_mem hs hn
  rw [hm, Bool.and_eq_true, decide_eq_true_eq] at h1
  rw [hK, h1.2]
theorem PartsOk.like (hP : PartsOk L rs Ks) {j : Nat} (hj : j < rs.length) {x : Int} (hx : Q.mem rs[j] x = true) : tld L x = tld L (hd rs[j]) := by
  obtain ⟨K, hK, hs, hn, hm⟩ := hP.at_ hj
  have h1 := hd_mem hs hn
  rw [hm, Bool.and_eq_true, decide_eq_true_eq] at h1 hx
  rw [tld_key, hx.2, h1.2]
theorem PartsOk.unlike (hP : PartsOk L rs Ks) {i j : Nat} (hi : i < rs.length) (hj : j < i) : tld L (hd rs[i]) ≠ tld L (hd (rs[j]'(by omega))) := by
  intro h
  have h1 := hP.hdKey hi
  have h2 := hP.hdKey (j := j) (by omega)
  rw [(tld_key L _ _).1 h] at h1
  obtain ⟨hi', e1⟩ := List.getElem?_eq_some_iff.1 h1
  obtain ⟨hj', e2⟩ := List.getElem?_eq_some_iff.1 h2
  exact List.pairwise_iff_getElem.1 hP.nd j i hj' hi' hj (e2.trans e1.symm)
variable (hP : PartsOk L rs Ks) (hL : ∀ l ∈ L, Sound l) (hl : L.length ≤ 16777216)
include hP hL hl
theorem l6_is (i : Nat) (hi : i < rs.length) (ih : Ev (fun k => thistlelaw02_SetsParts.l5 k L rs ((i + 1 : Nat) : Int)) true) : ∀ (d j : Nat), i - j = d → Ev (fun k => thistlelaw02_SetsParts.l6 k L rs (i : Int) (j : Int)) true
  | 0, j, hd' => by
    have := hP.big
    refine Ev.step (f := fun k => thistlelaw02_SetsParts.l5 k L rs ((i + 1 : Nat) : Int)) (fun k => ?_) ih
    rw [thistlelaw02_SetsParts.l6, if_neg (by omega), wrapS i (by omega)]
  | d + 1, j, hd' => by
    have hji : j < i := by omega
    have hj : j < rs.length := by omega
    have := hP.big
    obtain ⟨_, _, hsi, hni, _⟩ := hP.at_ hi
    obtain ⟨_, _, hsj, hnj, _⟩ := hP.at_ hj
    refine Ev.step (f := fun k => ((thistlelaw02_told.f k L (hd rs[i])).bind fun t214 => ((thistlelaw02_told.f k L (hd rs[j])).bind fun t219 => ((thistlelaw02_alike.f k t214 t219).bind fun t222 => (if t222 = true then (some false) else (thistlelaw02_SetsParts.l6 k L rs (i : Int) ((j + 1 : Nat) : Int))))))) (fun k => ?_) ?_
    · rw [thistlelaw02_SetsParts.l6, if_pos (by omega), if_pos (by omega), if_pos (by omega), rdL i hi, if_pos (len_pos hni), hd_wrap hsi hni, wrapS j (by omega)]
      congr 1
      funext t
      rw [if_pos (by omega), if_pos (by omega), rdL j hj, if_pos (len_pos hnj), hd_wrap hsj hnj]
    · refine Ev.bind (told_is L hL hl _) (Ev.bind (told_is L hL hl _) (Ev.bind (alike_is _ _ (tld_len _ _ _) (by simp [tld]; omega)) ?_))
      rw [decide_eq_false (hP.unlike hi hji)]
      exact ev_if_neg (by simp) (l6_is i hi ih d (j + 1) (by omega))
theorem l5_is : ∀ (d i : Nat), rs.length - i = d → Ev (fun k => thistlelaw02_SetsParts.l5 k L rs (i : Int)) true
  | 0, i, hd' => Ev.step (f := fun _ => some true) (fun k => by rw [thistlelaw02_SetsParts.l5, if_neg (by omega)]) (Ev.now _)
  | d + 1, i, hd' => by
    have h := l6_is hP hL hl i (by omega) (l5_is d (i + 1) (by omega)) i 0 (by omega)
    exact Ev.step (f := fun k => thistlelaw02_SetsParts.l6 k L rs (i : Int) 0) (fun k => by rw [thistlelaw02_SetsParts.l5, if_pos (by omega)]) h
theorem l4_is (look : List Int) (i : Nat) (hi : i < look.length) (hk : look.length ≤ 4294967296) (ih : Ev (fun k => thistlelaw02_SetsParts.l3 k L rs look ((i + 1 : Nat) : Int)) true) : ∀ (d j n : Nat), rs.length - j = d → j ≤ rs.length → n = (rs.take j).countP (fun r => Q.mem r (rd look (i : Int))) → Ev (fun k => thistlelaw02_SetsParts.l4 k L rs look (i : Int) (n : Int) (j : Int)) true
  | 0, j, n, hd', hj, hn => by
    have : j = rs.length := by omega
    subst this
    rw [List.take_length, hP.count] at hn
    refine Ev.step (f := fun k => ((thistlelaw02_unit.f (rd look (i : Int))).bind fun t198 => (if (t198 != ((n : Int) == 1)) = true then (some false) else (if (n : Int) > 1 then (some false) else (thistlelaw02_SetsParts.l3 k L rs look ((i + 1 : Nat) : Int)))))) (fun k => ?_) ?_
    · rw [thistlelaw02_SetsParts.l4, if_neg (by omega), if_pos (by omega), if_pos (by omega), wrapS i (by omega)]
    · refine evb0 (unit_is _) ?_
      cases hu : isU (rd look (i : Int)) with
      | true =>
        rw [hu, if_pos rfl] at hn
        subst hn
        exact ev_if_neg (by simp) (ev_if_neg (by omega) ih)
      | false =>
        rw [hu, if_neg (by simp)] at hn
        subst hn
        exact ev_if_neg (by simp) (ev_if_neg (by omega) ih)
  | d + 1, j, n, hd', hj', hn => by
    have hj : j < rs.length := by omega
    have hbig := hP.big
    obtain ⟨_, _, hsj, hnj, _⟩ := hP.at_ hj
    have hsl := sound_len hsj
    have hnl : n ≤ j := by rw [hn]; exact Nat.le_trans List.countP_le_length (by simp; omega)
    have hn1 : (rs.take (j + 1)).countP (fun r => Q.mem r (rd look (i : Int))) = n + (if Q.mem rs[j] (rd look (i : Int)) = true then 1 else 0) := by
      rw [List.take_add_one, List.getElem?_eq_getElem hj, List.countP_append, ← hn]
      simp [List.countP_cons]
    refine Ev.step (f := fun k => ((thistlelaw02_within.f k rs[j] (rd look (i : Int))).bind fun t201 => (if t201 = true then ((thistlelaw02_told.f k L (rd look (i : Int))).bind fun t203 => ((thistlelaw02_told.f k L (hd rs[j])).bind fun t208 => ((thistlelaw02_alike.f k t203 t208).bind fun t211 => (if t211 = true then (thistlelaw02_SetsParts.l4 k L rs look (i : Int) ((n + 1 : Nat) : Int) ((j + 1 : Nat) : Int)) else (some false))))) else (thistlelaw02_SetsParts.l4 k L rs look (i : Int) (n : Int) ((j + 1 : Nat) : Int))))) (fun k => ?_) (Ev.bind (within_is rs[j] _ (by omega) hsj.r32) ?_)
    · rw [thistlelaw02_SetsParts.l4, if_pos (by omega), if_pos (by omega), if_pos (by omega), if_pos (by omega), rdL j hj, wrapS j (by omega), wrapS n (by omega)]
      simp only [if_pos (len_pos hnj), hd_wrap hsj hnj]
    · cases hm : Q.mem rs[j] (rd look (i : Int)) with
      | true =>
        rw [hm, if_pos rfl] at hn1
        refine ev_if_pos rfl (Ev.bind (told_is L hL hl _) (Ev.bind (told_is L hL hl _) (Ev.bind (alike_is _ _ (tld_len _ _ _) (by simp [tld]; omega)) ?_)))
        rw [decide_eq_true (hP.like hj hm)]
        exact ev_if_pos rfl (l4_is look i hi hk ih d (j + 1) (n + 1) (by omega) (by omega) hn1.symm)
      | false =>
        rw [hm, if_neg (by simp), Nat.add_zero] at hn1
        exact ev_if_neg (by simp) (l4_is look i hi hk ih d (j + 1) n (by omega) (by omega) hn1.symm)
theorem l3_is (look : List Int) (hk : look.length ≤ 4294967296) : ∀ (d i : Nat), look.length - i = d → Ev (fun k => thistlelaw02_SetsParts.l3 k L rs look (i : Int)) true
  | 0, i, hd' => Ev.step (f := fun k => thistlelaw02_SetsParts.l5 k L rs 0) (fun k => by rw [thistlelaw02_SetsParts.l3, if_neg (by omega)]) (l5_is hP hL hl rs.length 0 (by omega))
  | d + 1, i, hd' => by
    have h := l4_is hP hL hl look i (by omega) hk (l3_is look hk d (i + 1) (by omega)) rs.length 0 0 (by omega) (by omega) (by simp)
    exact Ev.step (f := fun k => thistlelaw02_SetsParts.l4 k L rs look (i : Int) 0 0) (fun k => by rw [thistlelaw02_SetsParts.l3, if_pos (by omega)]) h
theorem l2_is : ∀ (d i : Nat) (look : List Int), L.length - i = d → i ≤ L.length → look.length + 13 * (L.length - i) + 6 * sets_Parts.tot (L.drop i) ≤ 4294967296 → Ev (fun k => thistlelaw02_SetsParts.l2 k L rs look (i : Int)) true
  | 0, i, look, hd', hi, hb => Ev.step (f := fun k => thistlelaw02_SetsParts.l3 k L rs look 0) (fun k => by rw [thistlelaw02_SetsParts.l2, if_neg (by omega)]) (l3_is hP hL hl look (by omega) look.length 0 (by omega))
  | d + 1, i, look, hd', hi', hb => by
    have hi : i < L.length := by omega
    have hs := hL _ (List.getElem_mem hi)
    have hsl := sound_len hs
    obtain ⟨es, he, hel⟩ := ends_is L[i] (by omega)
    have ht := tot_drop L i hi
    refine Ev.step (f := fun k => ((thistlelaw02_ends.f k L[i]).bind fun t191 => (if look.length + t191.length < 17592186044416 then (thistlelaw02_SetsParts.l2 k L rs (look ++ t191) ((i + 1 : Nat) : Int)) else (none)))) (fun k => ?_) (Ev.bind he (ev_if_pos (by omega) (l2_is d (i + 1) (look ++ es) (by omega) (by omega) (by simp; omega))))
    rw [thistlelaw02_SetsParts.l2, if_pos (by omega), if_pos (by omega), rdL i hi, wrapS i (by omega)]
theorem l1_is (hLb : 13 * L.length + 6 * sets_Parts.tot L ≤ 2147483648) : ∀ (d i : Nat) (look : List Int), rs.length - i = d → i ≤ rs.length → look.length + 13 * (rs.length - i) + 6 * sets_Parts.tot (rs.drop i) ≤ 2147483648 → Ev (fun k => thistlelaw02_SetsParts.l1 k L rs look (i : Int)) true
  | 0, i, look, hd', hi, hb => Ev.step (f := fun k => thistlelaw02_SetsParts.l2 k L rs look 0) (fun k => by rw [thistlelaw02_SetsParts.l1, if_neg (by omega)]) (l2_is hP hL hl L.length 0 look (by omega) (by omega) (by simp; omega))
  | d + 1, i, look, hd', hi', hb => by
    have hi : i < rs.length := by omega
    have hbig := hP.big
    obtain ⟨_, _, hs, hn, _⟩ := hP.at_ hi
    have hsl := sound_len hs
    obtain ⟨es, he, hel⟩ := ends_is rs[i] (by omega)
    have ht := tot_drop rs i hi
    have hnext := l1_is hLb d (i + 1) (look ++ es) (by omega) (by omega) (by simp; omega)
    have hlp := len_pos hn
    by_cases hi0 : i = 0
    · subst hi0
      refine Ev.step (f := fun k => ((thistlelaw02_sound.f k rs[0]).bind fun t171 => (if t171 = true then ((thistlelaw02_ends.f k rs[0]).bind fun t184 => (if look.length + t184.length < 17592186044416 then (thistlelaw02_SetsParts.l1 k L rs (look ++ t184) ((0 + 1 : Nat) : Int)) else (none))) else (some false)))) (fun k => ?_) (Ev.bind (sound_is rs[0] (by omega) hs) (ev_if_pos rfl (Ev.bind he (ev_if_pos (by omega) hnext))))
      rw [thistlelaw02_SetsParts.l1, if_pos (by omega), if_pos (by omega), rdL 0 hi, if_neg (by omega), wrapS 0 (by omega)]
      congr 1
    · obtain ⟨m, rfl⟩ : ∃ m, i = m + 1 := ⟨i - 1, by omega⟩
      have hm : m < rs.length := by omega
      obtain ⟨_, _, hsm, hnm, _⟩ := hP.at_ hm
      have hasc : hd rs[m] < hd rs[m + 1] := List.pairwise_iff_getElem.1 hP.asc m (m + 1) hm hi (by omega)
      have hw : wrap64 (((m + 1 : Nat) : Int) - 1) = (m : Int) := by unfold wrap64; omega
      refine Ev.step (f := fun k => ((thistlelaw02_sound.f k rs[m + 1]).bind fun t171 => (if t171 = true then ((thistlelaw02_ends.f k rs[m + 1]).bind fun t184 => (if look.length + t184.length < 17592186044416 then (thistlelaw02_SetsParts.l1 k L rs (look ++ t184) ((m + 1 + 1 : Nat) : Int)) else (none))) else (some false)))) (fun k => ?_) (Ev.bind (sound_is rs[m + 1] (by omega) hs) (ev_if_pos rfl (Ev.bind he (ev_if_pos (by omega) hnext))))
      rw [thistlelaw02_SetsParts.l1, if_pos (by omega), if_pos (by omega), rdL (m + 1) hi, if_neg (by omega), wrapS (m + 1) (by omega), hw]
      congr 1
      funext t
      cases t with
      | false => rfl
      | true => rw [if_pos rfl, if_pos rfl, if_pos (show ((m + 1 : Nat) : Int) > 0 by omega), if_pos (show (0 : Int) ≤ (m : Int) by omega), if_pos (show (m : Int) < (rs.length : Int) by omega), rdL m hm, if_pos (len_pos hnm), if_pos hlp, hd_at hnm, hd_at hn, if_neg (by omega)]
end
theorem l0_is (l0 : List (List Rg)) (hl : l0.length ≤ 1048576) (ht : sets_Parts.tot l0 ≤ 1048576) : ∀ (d i : Nat) (L : List (List Rg)), l0.length - i = d → i ≤ l0.length → (∀ l ∈ L, Sound l) → L.length ≤ i → sets_Parts.tot L + 3 * sets_Parts.tot (l0.drop i) ≤ 3 * sets_Parts.tot l0 → Ev (fun k => thistlelaw02_SetsParts.l0 k l0 L (i : Int)) true
  | 0, i, L, hd', hi, hL, hLl, hLt => by
    have hi' : i = l0.length := by omega
    obtain ⟨rs, Ks, hev, hP⟩ := Parts_is L hL (by omega) (by omega)
    have hpos : rs.length ≠ 0 := by
      intro e
      have h0 := hP.all 0 (by decide)
      have := hP.len
      rw [List.length_eq_zero_iff.1 (show Ks.length = 0 by omega)] at h0
      cases h0
    have hbig := hP.big
    have htt := hP.tot
    have h1 := l1_is hP hL (by omega) (by omega) rs.length 0 [] (by omega) (by omega) (by simp; omega)
    refine Ev.step (f := fun k => ((sets_Parts.f k L).bind fun bt165 => (if bt165.2 = 0 then (thistlelaw02_SetsParts.j1 k L bt165.1 ((bt165.1.length : Int) == 0)) else (thistlelaw02_SetsParts.j1 k L bt165.1 true)))) (fun k => by rw [thistlelaw02_SetsParts.l0, if_neg (by omega)]) (Ev.bind hev (ev_if_pos rfl ?_))
    have hb : ((rs.length : Int) == 0) = false := by simpa using hpos
    show Ev (fun k => thistlelaw02_SetsParts.j1 k L rs ((rs.length : Int) == 0)) true
    rw [hb]
    exact Ev.step (f := fun k => thistlelaw02_SetsParts.l1 k L rs ([] : List Int) 0) (fun k => by rw [thistlelaw02_SetsParts.j1, if_neg (by simp)]) h1
  | d + 1, i, L, hd', hi', hL, hLl, hLt => by
    have hi : i < l0.length := by omega
    have htd := tot_drop l0 i hi
    have hli : l0[i].length ≤ 1048576 := by omega
    refine Ev.step (f := fun k => ((sets_Make.f k l0[i]).bind fun bt158 => (if bt158.2 = 0 then (if L.length < 5864062014805 then (thistlelaw02_SetsParts.l0 k l0 (L ++ [bt158.1]) ((i + 1 : Nat) : Int)) else (none)) else (thistlelaw02_SetsParts.l0 k l0 L ((i + 1 : Nat) : Int))))) (fun k => ?_) ?_
    · rw [thistlelaw02_SetsParts.l0, if_pos (by omega), if_pos (by omega), rdL i hi, wrapS i (by omega)]
    · cases hup : allUp l0[i] with
      | true =>
        obtain ⟨g, hg, hs, _, hgl⟩ := make_is l0[i] (by omega) hup
        refine Ev.bind hg (ev_if_pos rfl (ev_if_pos (by omega) (l0_is l0 hl ht d (i + 1) (L ++ [g]) (by omega) (by omega) (fun l hl' => ?_) (by simp; omega) ?_)))
        · rcases List.mem_append.1 hl' with h | h
          · exact hL l h
          · rw [List.mem_singleton.1 h]; exact hs
        · have : sets_Parts.tot (L ++ [g]) = sets_Parts.tot L + g.length := by simp [sets_Parts.tot]
          omega
      | false =>
        exact Ev.bind (make_no l0[i] (by omega) hup) (ev_if_neg (by simp) (l0_is l0 hl ht d (i + 1) L (by omega) (by omega) hL (by omega) (by omega)))
theorem SetsParts (l : List (List Rg)) (hl : l.length ≤ 1048576) (ht : sets_Parts.tot l ≤ 1048576) : ∃ k, thistlelaw02_SetsParts.f k l = some true := by
  refine Ev.rounds (g := fun k => thistlelaw02_SetsParts.f k l) ?_
  unfold thistlelaw02_SetsParts.f
  exact Ev.bind wakes_is (ev_if_pos rfl (l0_is l hl ht l.length 0 [] (by omega) (by omega) (fun l hl => by cases hl) (by simp) (by simp [sets_Parts.tot])))

end Go.Proofs.YtoggmegpodmfnaaDoor.Q
