/- The law's plain side (PlainS): what the printed functions come to; each theorem states its own conditions. -/
import Derived.Test.YtoggmegpodmfnaaGreatDoorPSx01
import Derived.Test.YtoggmegpodmfnaaGreatDoorPSx8
import Derived.Test.YtoggmegpodmfnaaGreatDoorBSetsBand
import Derived.Test.YtoggmegpodmfnaaGreatDoorPSx2
import Derived.Test.YtoggmegpodmfnaaGreatDoorBSq
import Derived.Test.YtoggmegpodmfnaaGreatDoorBMake0
import Derived.Deep.QuietTactic
import Derived.BigQuiet
import Derived.Deep.RegionHeld3
namespace Go.Proofs.YtoggmegpodmfnaaGreatDoor.Q
open Go.RowKit Go.Proofs.YtoggmegpodmfnaaGreatDoorW.PrintWords Go.Proofs.YtoggmegpodmfnaaGreatDoorW.PrintLast Go.Proofs.YtoggmegpodmfnaaGreatDoorW.PrintMore Go.Proofs.YtoggmegpodmfnaaGreatDoor.PS Go.Proofs.YtoggmegpodmfnaaGreatDoor.B
set_option linter.unusedVariables false
set_option linter.unusedSimpArgs false
abbrev Rg := S41
def I32 (x : Int) : Prop := -2147483648 ≤ x ∧ x ≤ 2147483647
def R32 (r : Rg) : Prop := I32 r.f0 ∧ I32 r.f1
def mem (l : List Rg) (u : Int) : Bool := l.any fun r => decide (r.f0 ≤ u ∧ u ≤ r.f1)
theorem mem_iff (l : List Rg) (u : Int) : mem l u = true ↔ ∃ r ∈ l, r.f0 ≤ u ∧ u ≤ r.f1 := by simp [mem]
theorem mem_cons (r : Rg) (l : List Rg) (u : Int) : mem (r :: l) u = (decide (r.f0 ≤ u ∧ u ≤ r.f1) || mem l u) := by simp [mem]
theorem mem_app (a b : List Rg) (u : Int) : mem (a ++ b) u = (mem a u || mem b u) := by simp [mem]
def isU (u : Int) : Bool := decide (0 ≤ bandOf u)
theorem bandOf_cases (u : Int) : (bandOf u = 0 ∧ 0 ≤ u ∧ u ≤ 55295) ∨ (bandOf u = 1 ∧ 57344 ≤ u ∧ u ≤ 1114111) ∨ (bandOf u = 2 ∧ 1114240 ≤ u ∧ u ≤ 1114367) ∨ (bandOf u = -1 ∧ ¬ (0 ≤ u ∧ u ≤ 55295) ∧ ¬ (57344 ≤ u ∧ u ≤ 1114111) ∧ ¬ (1114240 ≤ u ∧ u ≤ 1114367)) := by
  unfold bandOf
  repeat' split
  all_goals omega
def okR (r : Rg) : Prop := 0 ≤ bandOf r.f0 ∧ bandOf r.f0 = bandOf r.f1 ∧ r.f0 ≤ r.f1
def Sound (l : List Rg) : Prop := (∀ r ∈ l, okR r) ∧ l.Pairwise (fun a b => a.f1 + 1 < b.f0)
theorem Sound.tail {r : Rg} {l : List Rg} (h : Sound (r :: l)) : Sound l := ⟨fun x hx => h.1 x (List.mem_cons_of_mem _ hx), (List.pairwise_cons.1 h.2).2⟩
theorem okR_r32 {r : Rg} (h : okR r) : R32 r := by
  obtain ⟨h0, h1, h2⟩ := h; have a := bandOf_cases r.f0; have b := bandOf_cases r.f1; unfold R32 I32; omega
theorem Sound.r32 {l : List Rg} (h : Sound l) : ∀ r ∈ l, R32 r := fun r hr => okR_r32 (h.1 r hr)
theorem okR_unit {r : Rg} (h : okR r) {u : Int} (h0 : r.f0 ≤ u) (h1 : u ≤ r.f1) : isU u = true := by
  obtain ⟨a0, a1, a2⟩ := h; have a := bandOf_cases r.f0; have b := bandOf_cases r.f1; have c := bandOf_cases u; unfold isU; simp only [decide_eq_true_eq]; omega
theorem Sound.unit {l : List Rg} (h : Sound l) {u : Int} (hu : mem l u = true) : isU u = true := by
  obtain ⟨r, hr, h0, h1⟩ := (mem_iff l u).1 hu; exact okR_unit (h.1 r hr) h0 h1
theorem sound_snoc (a : List Rg) (r : Rg) : Sound (a ++ [r]) ↔ Sound a ∧ okR r ∧ ∀ x ∈ a, x.f1 + 1 < r.f0 := by
  unfold Sound; rw [List.pairwise_append]; constructor; (· rintro ⟨h1, h2, _, h3⟩; exact ⟨⟨fun x hx => h1 x (by simp [hx]), h2⟩, h1 r (by simp), fun x hx => h3 x hx r (by simp)⟩)
  · rintro ⟨⟨h1, h2⟩, h3, h4⟩
    refine ⟨fun x hx => ?_, h2, by simp, fun x hx y hy => ?_⟩
    · rw [List.mem_append] at hx
      rcases hx with hx | hx
      (· exact h1 x hx); (· rw [List.mem_singleton] at hx; subst hx; exact h3)
    · rw [List.mem_singleton] at hy; subst hy; exact h4 x hx
theorem mem_gap {x : Rg} {l : List Rg} (h : Sound (x :: l)) {u : Int} (hu : mem l u = true) : x.f1 + 1 < u := by
  obtain ⟨r, hr, h0, h1⟩ := (mem_iff l u).1 hu; have := (List.pairwise_cons.1 h.2).1 r hr; omega
theorem sound_ext : ∀ (a b : List Rg), Sound a → Sound b → (∀ u, mem a u = mem b u) → a = b
  | [], [], _, _, _ => rfl
  | [], y :: b, _, hb, h => by
    have h1 := h y.f0; have h2 := (hb.1 y (by simp)).2.2; rw [mem_cons, decide_eq_true (show y.f0 ≤ y.f0 ∧ y.f0 ≤ y.f1 from ⟨by omega, h2⟩)] at h1
    simp [mem] at h1
  | x :: a, [], ha, _, h => by
    have h1 := h x.f0; have h2 := (ha.1 x (by simp)).2.2; rw [mem_cons, decide_eq_true (show x.f0 ≤ x.f0 ∧ x.f0 ≤ x.f1 from ⟨by omega, h2⟩)] at h1
    simp [mem] at h1
  | x :: a, y :: b, ha, hb, h => by
    have hx := (ha.1 x (by simp)).2.2; have hy := (hb.1 y (by simp)).2.2
    have key : ∀ (x y : Rg) (a b : List Rg), Sound (x :: a) → Sound (y :: b) → (∀ u, mem (x :: a) u = mem (y :: b) u) → x.f0 ≤ x.f1 → y.f0 ≤ x.f0 := by
      intro x y a b ha hb h hx; have h1 := h x.f0; rw [mem_cons, decide_eq_true (show x.f0 ≤ x.f0 ∧ x.f0 ≤ x.f1 from ⟨by omega, hx⟩), Bool.true_or] at h1; have h2 := h1.symm; rw [mem_cons, Bool.or_eq_true, decide_eq_true_eq] at h2
      rcases h2 with h2 | h2
      (· exact h2.1); (· have := mem_gap hb h2; have := (hb.1 y (by simp)).2.2; omega)
    have e0 : x.f0 = y.f0 := by
      have h1 := key x y a b ha hb h hx; have h2 := key y x b a hb ha (fun u => (h u).symm) hy; omega
    have key2 : ∀ (x y : Rg) (a b : List Rg), Sound (x :: a) → (∀ u, mem (x :: a) u = mem (y :: b) u) → x.f0 ≤ x.f1 → y.f0 ≤ x.f0 → y.f1 ≤ x.f1 := by
      intro x y a b ha h hx h0; refine Decidable.byContradiction fun hlt => ?_; have h1 := h (x.f1 + 1); rw [mem_cons y, decide_eq_true (show y.f0 ≤ x.f1 + 1 ∧ x.f1 + 1 ≤ y.f1 from ⟨by omega, by omega⟩), Bool.true_or, mem_cons, Bool.or_eq_true, decide_eq_true_eq] at h1
      rcases h1 with h1 | h1
      (· omega); (· have := mem_gap ha h1; omega)
    have e1 : x.f1 = y.f1 := by
      have h1 := key2 x y a b ha h hx (by omega); have h2 := key2 y x b a hb (fun u => (h u).symm) hy (by omega); omega
    obtain rfl : x = y := by cases x; cases y; simp_all
    have : a = b := sound_ext a b ha.tail hb.tail fun u => by
      have hu := h u; rw [mem_cons, mem_cons] at hu
      by_cases hin : x.f0 ≤ u ∧ u ≤ x.f1
      · have n1 : mem a u = false := by
          rw [← Bool.not_eq_true]; intro hm; have := mem_gap ha hm; omega
        have n2 : mem b u = false := by
          rw [← Bool.not_eq_true]; intro hm; have := mem_gap hb hm; omega
        rw [n1, n2]
      · rw [decide_eq_false hin, Bool.false_or, Bool.false_or] at hu; exact hu
    rw [this]
instance (r : Rg) : Decidable (okR r) := inferInstanceAs (Decidable (_ ∧ _))
instance (l : List Rg) : Decidable (Sound l) := inferInstanceAs (Decidable (_ ∧ _))
end Go.Proofs.YtoggmegpodmfnaaGreatDoor.Q
namespace Go.Proofs.YtoggmegpodmfnaaGreatDoor.Q
open Go.RowKit Go.Proofs.YtoggmegpodmfnaaGreatDoorW.PrintWords Go.Proofs.YtoggmegpodmfnaaGreatDoorW.PrintLast Go.Proofs.YtoggmegpodmfnaaGreatDoorW.PrintMore Go.Proofs.YtoggmegpodmfnaaGreatDoor.PS Go.Proofs.YtoggmegpodmfnaaGreatDoor.B
set_option linter.unusedVariables false
set_option linter.unusedSimpArgs false
theorem sound_len0 : ∀ (l : List Rg) (m : Int), 0 ≤ m → m ≤ 1114368 → Sound l → (∀ r ∈ l, m ≤ r.f0) → (l.length : Int) ≤ 1114368 - m
  | [], m, h0, h1, _, _ => by simp; omega
  | x :: l, m, h0, h1, h, hm => by
    have hx := h.1 x (by simp); have hmx := hm x (by simp); obtain ⟨a0, a1, a2⟩ := hx; have b := bandOf_cases x.f1; have ih := sound_len0 l (x.f1 + 1) (by omega) (by omega) h.tail (fun r hr => by have := (List.pairwise_cons.1 h.2).1 r hr; omega); simp only [List.length_cons]; omega
theorem sound_len {l : List Rg} (h : Sound l) : l.length ≤ 1114368 := by
  have := sound_len0 l 0 (by omega) (by omega) h (fun r hr => by have a := h.1 r hr; have b := bandOf_cases r.f0; obtain ⟨a0, _, _⟩ := a; omega); omega
def sz (l : List Rg) : Int := (l.map fun r => r.f1 - r.f0 + 1).sum
theorem sz_bound0 : ∀ (l : List Rg) (m : Int), 0 ≤ m → m ≤ 1114368 → Sound l → (∀ r ∈ l, m ≤ r.f0) → 0 ≤ sz l ∧ sz l ≤ 1114368 - m
  | [], m, h0, h1, _, _ => by simp [sz]; omega
  | x :: l, m, h0, h1, h, hm => by
    have hx := h.1 x (by simp); have hmx := hm x (by simp); obtain ⟨a0, a1, a2⟩ := hx; have b := bandOf_cases x.f1; have ih := sz_bound0 l (x.f1 + 1) (by omega) (by omega) h.tail (fun r hr => by have := (List.pairwise_cons.1 h.2).1 r hr; omega)
    have e : sz (x :: l) = x.f1 - x.f0 + 1 + sz l := by simp [sz]
    omega
theorem sz_bound {l : List Rg} (h : Sound l) : 0 ≤ sz l ∧ sz l ≤ 1114368 := by
  have := sz_bound0 l 0 (by omega) (by omega) h (fun r hr => by have a := h.1 r hr; have b := bandOf_cases r.f0; obtain ⟨a0, _, _⟩ := a; omega); omega
theorem sz_app (a b : List Rg) : sz (a ++ b) = sz a + sz b := by simp [sz]
def uR (r : Rg) : List Int := (List.range (r.f1 - r.f0 + 1).toNat).map fun i : Nat => r.f0 + (i : Int)
def units (l : List Rg) : List Int := l.flatMap uR
theorem uR_len (r : Rg) : (uR r).length = (r.f1 - r.f0 + 1).toNat := by simp [uR]
theorem units_app (a b : List Rg) : units (a ++ b) = units a ++ units b := by simp [units]
theorem units_one (r : Rg) : units [r] = uR r := by simp [units]
theorem units_cons (r : Rg) (l : List Rg) : units (r :: l) = uR r ++ units l := by simp [units]
theorem units_take (l : List Rg) (i : Nat) (h : i < l.length) : units (l.take (i + 1)) = units (l.take i) ++ uR l[i] := by
  rw [List.take_succ_eq_append_getElem h, units_app, units_one]
theorem units_split (l : List Rg) (i : Nat) (h : i < l.length) : units l = units (l.take i) ++ uR l[i] ++ units (l.drop (i + 1)) := by
  conv => lhs; rw [← List.take_append_drop (i + 1) l, units_app, units_take l i h]
theorem units_len : ∀ l : List Rg, Sound l → ((units l).length : Int) = sz l
  | [], _ => by simp [units, sz]
  | r :: l, h => by
    have ih := units_len l h.tail; have hr := h.1 r (by simp); obtain ⟨_, _, h1⟩ := hr
    have e : sz (r :: l) = r.f1 - r.f0 + 1 + sz l := by simp [sz]
    rw [units_cons, List.length_append, uR_len, e]; omega
theorem rd_left (a b : List Int) (k : Int) (h0 : 0 ≤ k) (h : k < a.length) : rd (a ++ b) k = rd a k := by
  unfold rd; rw [List.getD_eq_getElem?_getD, List.getElem?_append_left (by omega), List.getD_eq_getElem?_getD]
theorem rd_right (a b : List Int) (k : Int) (h : (a.length : Int) ≤ k) : rd (a ++ b) k = rd b (k - a.length) := by
  unfold rd; rw [List.getD_eq_getElem?_getD, List.getElem?_append_right (by omega), List.getD_eq_getElem?_getD]
  congr 2
  omega
theorem rd_uR (r : Rg) (k : Int) (h0 : 0 ≤ k) (h : k < r.f1 - r.f0 + 1) : rd (uR r) k = r.f0 + k := by
  unfold rd uR; rw [List.getD_eq_getElem?_getD, List.getElem?_map, List.getElem?_range (by omega)]
  simp
  omega
theorem sz_cons (r : Rg) (l : List Rg) : sz (r :: l) = r.f1 - r.f0 + 1 + sz l := by simp [sz]
end Go.Proofs.YtoggmegpodmfnaaGreatDoor.Q
namespace Go.Proofs.YtoggmegpodmfnaaGreatDoor.Q
open Go.RowKit Go.Proofs.YtoggmegpodmfnaaGreatDoorW.PrintWords Go.Proofs.YtoggmegpodmfnaaGreatDoorW.PrintLast Go.Proofs.YtoggmegpodmfnaaGreatDoorW.PrintMore Go.Proofs.YtoggmegpodmfnaaGreatDoor.PS Go.Proofs.YtoggmegpodmfnaaGreatDoor.B
set_option linter.unusedVariables false
set_option linter.unusedSimpArgs false
def leI (a b : Int) : Bool := decide (a ≤ b)
def mg (a b : List Int) : List Int := a.merge b leI
theorem mg_perm (a b : List Int) : (mg a b).Perm (a ++ b) := List.merge_perm_append leI
theorem mg_sorted {a b : List Int} (ha : a.Pairwise (· ≤ ·)) (hb : b.Pairwise (· ≤ ·)) : (mg a b).Pairwise (· ≤ ·) := by
  have h := List.pairwise_merge (le := leI) (fun a b c h1 h2 => by unfold leI at *; simp only [decide_eq_true_eq] at *; omega) (fun a b => by unfold leI; simp only [Bool.or_eq_true, decide_eq_true_eq]; omega) a b (ha.imp (by unfold leI; simp)) (hb.imp (by unfold leI; simp)); exact h.imp (by unfold leI; simp)
theorem mg_len (a b : List Int) : (mg a b).length = a.length + b.length := by rw [(mg_perm a b).length_eq, List.length_append]
theorem mg_nil_left (b : List Int) : mg [] b = b := by simp [mg]
theorem mg_nil_right (a : List Int) : mg a [] = a := by simp [mg]
theorem mg_left {x y : Int} (a b : List Int) (h : x ≤ y) : mg (x :: a) (y :: b) = x :: mg a (y :: b) := by
  unfold mg; rw [List.cons_merge_cons, if_pos (by unfold leI; simpa using h)]
theorem mg_right {x y : Int} (a b : List Int) (h : ¬ x ≤ y) : mg (x :: a) (y :: b) = y :: mg (x :: a) b := by
  unfold mg; rw [List.cons_merge_cons, if_neg (by unfold leI; simpa using h)]
def pass (w : Nat) : Nat → List Int → List Int
  | 0, l => l
  | n + 1, l => mg (l.take w) ((l.drop w).take w) ++ pass w n (l.drop (2 * w))
theorem pass_nil (w : Nat) : ∀ n, pass w n [] = []
  | 0 => rfl
  | n + 1 => by simp [pass, mg, pass_nil w n]
theorem pass_perm (w : Nat) : ∀ n (l : List Int), (pass w n l).Perm l
  | 0, l => List.Perm.refl _
  | n + 1, l => by
    have h1 : l = l.take w ++ (l.drop w).take w ++ l.drop (2 * w) := by
      have e : l.drop (2 * w) = (l.drop w).drop w := by rw [List.drop_drop]; congr 1; omega
      rw [e, List.append_assoc, List.take_append_drop, List.take_append_drop]
    have h2 := (mg_perm (l.take w) ((l.drop w).take w)).append (pass_perm w n (l.drop (2 * w))); rw [← h1] at h2; exact h2
theorem pass_len (w n : Nat) (l : List Int) : (pass w n l).length = l.length := (pass_perm w n l).length_eq
def Runs (w : Nat) (l : List Int) : Prop := ∀ n, ((l.drop (n * w)).take w).Pairwise (· ≤ ·)
theorem runs_one (l : List Int) : Runs 1 l := fun n => by
  cases h : l.drop (n * 1) with
  | nil => simp
  | cons x r => simp
theorem runs_all {w : Nat} {l : List Int} (h : Runs w l) (hl : l.length ≤ w) : l.Pairwise (· ≤ ·) := by
  have := h 0
  rwa [Nat.zero_mul, List.drop_zero, List.take_of_length_le hl] at this
theorem pass_chunk (w : Nat) : ∀ (n m : Nat) (l : List Int), m < n → ((pass w n l).drop (m * (2 * w))).take (2 * w) = mg ((l.drop (m * (2 * w))).take w) ((l.drop (m * (2 * w) + w)).take w)
  | 0, m, l, h => by omega
  | n + 1, 0, l, h => by
    rw [Nat.zero_mul, List.drop_zero, List.drop_zero, Nat.zero_add]; unfold pass
    have hlen : (mg (l.take w) ((l.drop w).take w)).length = min w l.length + min w (l.length - w) := by simp [mg_len]
    by_cases hl : 2 * w ≤ l.length
    (· rw [List.take_append_of_le_length (by omega), List.take_of_length_le (by omega)]); (· have : l.drop (2 * w) = [] := List.drop_eq_nil_of_le (by omega); rw [this, pass_nil, List.append_nil, List.take_of_length_le (by omega)])
  | n + 1, m + 1, l, h => by
    unfold pass
    have hlen : (mg (l.take w) ((l.drop w).take w)).length = min w l.length + min w (l.length - w) := by simp [mg_len]
    have e1 : (m + 1) * (2 * w) = 2 * w + m * (2 * w) := by rw [Nat.add_mul, Nat.one_mul, Nat.add_comm]
    by_cases hl : 2 * w ≤ l.length
    · have hl2 : (mg (l.take w) ((l.drop w).take w)).length = 2 * w := by omega
      have e2 : ∀ (A B : List Int) (k : Nat), A.length = 2 * w → (A ++ B).drop (2 * w + k) = B.drop k := fun A B k hA => by rw [List.drop_append, hA, Nat.add_sub_cancel_left, List.drop_eq_nil_of_le (by omega), List.nil_append]
      rw [e1, e2 _ _ _ hl2, pass_chunk w n m _ (by omega), List.drop_drop, List.drop_drop]
      congr 3; omega
    · have : l.drop (2 * w) = [] := List.drop_eq_nil_of_le (by omega)
      rw [this, pass_nil, List.append_nil, List.drop_eq_nil_of_le (by omega), List.drop_eq_nil_of_le (by omega), List.drop_eq_nil_of_le (by omega)]
      simp [mg]
theorem pass_runs {w n : Nat} {l : List Int} (h : Runs w l) (hn : l.length ≤ n * (2 * w)) : Runs (2 * w) (pass w n l) := fun m => by
  by_cases hm : m < n
  · rw [pass_chunk w n m l hm]
    refine mg_sorted ?_ ?_
    · have := h (2 * m)
      rwa [show 2 * m * w = m * (2 * w) by rw [Nat.mul_comm 2 m, Nat.mul_assoc]] at this
    · have := h (2 * m + 1)
      rwa [show (2 * m + 1) * w = m * (2 * w) + w by rw [Nat.add_mul, Nat.one_mul, Nat.mul_comm 2 m, Nat.mul_assoc]] at this
  · have : n * (2 * w) ≤ m * (2 * w) := Nat.mul_le_mul_right _ (by omega)
    rw [List.drop_eq_nil_of_le (by rw [pass_len]; omega)]
    simp
theorem strict_ext {α : Type} (f : α → Int) : ∀ (a b : List α), a.Pairwise (fun x y => f x < f y) → b.Pairwise (fun x y => f x < f y) → (∀ x, x ∈ a ↔ x ∈ b) → a = b
  | [], [], _, _, _ => rfl
  | [], y :: b, _, _, h => by have := (h y).2 (by simp); cases this
  | x :: a, [], _, _, h => by have := (h x).1 (by simp); cases this
  | x :: a, y :: b, ha, hb, h => by
    obtain ⟨ha1, ha2⟩ := List.pairwise_cons.1 ha; obtain ⟨hb1, hb2⟩ := List.pairwise_cons.1 hb
    have hxy : x = y := by
      rcases List.mem_cons.1 ((h x).1 (by simp)) with e | hx
      · exact e
      rcases List.mem_cons.1 ((h y).2 (by simp)) with e | hy
      (· exact e.symm); have := hb1 x hx; have := ha1 y hy; omega
    subst hxy
    congr 1
    refine strict_ext f a b ha2 hb2 (fun z => ?_); constructor
    · intro hz
      rcases List.mem_cons.1 ((h z).1 (by simp [hz])) with e | hz'
      (· subst e; have := ha1 _ hz; omega); (· exact hz')
    · intro hz
      rcases List.mem_cons.1 ((h z).2 (by simp [hz])) with e | hz'
      (· subst e; have := hb1 _ hz; omega); (· exact hz')
end Go.Proofs.YtoggmegpodmfnaaGreatDoor.Q
namespace Go.Proofs.YtoggmegpodmfnaaGreatDoor.Q
open Go.RowKit Go.Proofs.YtoggmegpodmfnaaGreatDoorW.PrintWords Go.Proofs.YtoggmegpodmfnaaGreatDoorW.PrintLast Go.Proofs.YtoggmegpodmfnaaGreatDoorW.PrintMore Go.Proofs.YtoggmegpodmfnaaGreatDoor.PS Go.Proofs.YtoggmegpodmfnaaGreatDoor.B
set_option linter.unusedVariables false
set_option linter.unusedSimpArgs false
def pcs : List Int → List Rg
  | a :: b :: r => if isU a then ⟨a, b - 1⟩ :: pcs (b :: r) else pcs (b :: r)
  | _ => []
structure Cuts (C : List Int) : Prop where
  asc : C.Pairwise (· < ·)
  b0 : (0 : Int) ∈ C ∧ (55296 : Int) ∈ C
  b1 : (57344 : Int) ∈ C ∧ (1114112 : Int) ∈ C
  b2 : (1114240 : Int) ∈ C ∧ (1114368 : Int) ∈ C
theorem pcs_in : ∀ (C : List Int), C.Pairwise (· < ·) → ∀ p ∈ pcs C, p.f0 ∈ C ∧ isU p.f0 = true ∧ p.f0 ≤ p.f1 ∧ p.f1 + 1 ∈ C ∧ ∀ c ∈ C, ¬ (p.f0 < c ∧ c ≤ p.f1)
  | [], _, p, hp => by cases hp
  | [a], _, p, hp => by simp [pcs] at hp
  | a :: b :: r, h, p, hp => by
    obtain ⟨h1, h2⟩ := List.pairwise_cons.1 h; have hb := (List.pairwise_cons.1 h2).1; have hab := h1 b (by simp)
    have rest : p ∈ pcs (b :: r) → p.f0 ∈ a :: b :: r ∧ isU p.f0 = true ∧ p.f0 ≤ p.f1 ∧ p.f1 + 1 ∈ a :: b :: r ∧ ∀ c ∈ a :: b :: r, ¬ (p.f0 < c ∧ c ≤ p.f1) := fun hp => by
      obtain ⟨x1, x2, x3, x4, x5⟩ := pcs_in (b :: r) h2 p hp; refine ⟨List.mem_cons_of_mem _ x1, x2, x3, List.mem_cons_of_mem _ x4, fun c hc => ?_⟩
      rcases List.mem_cons.1 hc with rfl | hc
      (· have := h1 _ x1; omega); (· exact x5 c hc)
    unfold pcs at hp
    split at hp
    · rename_i hu
      rcases List.mem_cons.1 hp with rfl | hp
      · refine ⟨by simp, hu, by show a ≤ b - 1; omega, by simp, fun c hc => ?_⟩
        show ¬ (a < c ∧ c ≤ b - 1)
        rcases List.mem_cons.1 hc with rfl | hc
        · omega
        rcases List.mem_cons.1 hc with rfl | hc
        (· omega); (· have := hb c hc; omega)
      · exact rest hp
    · exact rest hp
theorem pcs_asc : ∀ (C : List Int), C.Pairwise (· < ·) → (pcs C).Pairwise (fun a b => a.f1 < b.f0)
  | [], _ => List.Pairwise.nil
  | [a], _ => List.Pairwise.nil
  | a :: b :: r, h => by
    obtain ⟨h1, h2⟩ := List.pairwise_cons.1 h; have ih := pcs_asc (b :: r) h2; unfold pcs
    split
    · refine List.pairwise_cons.2 ⟨fun p hp => ?_, ih⟩
      have := (pcs_in (b :: r) h2 p hp).1; show b - 1 < p.f0
      rcases List.mem_cons.1 this with e | e
      (· omega); (· have := (List.pairwise_cons.1 h2).1 _ e; omega)
    · exact ih
theorem pcs_of0 : ∀ (C : List Int) (x : Int), C.Pairwise (· < ·) → (∃ v ∈ C, v ≤ x ∧ ∀ y, v ≤ y → y ≤ x → isU y = true) → (∃ v ∈ C, x < v) → ∃ p ∈ pcs C, p.f0 ≤ x ∧ x ≤ p.f1
  | [], x, _, ⟨v, hv, _⟩, _ => by cases hv
  | [a], x, _, ⟨v, hv, h1, _⟩, ⟨u, hu, h2⟩ => by
    rw [List.mem_singleton] at hv hu; subst hv; subst hu; omega
  | a :: b :: r, x, h, ⟨v, hv, h1, h3⟩, ⟨u, hu, h2⟩ => by
    obtain ⟨h4, h5⟩ := List.pairwise_cons.1 h; have hab := h4 b (by simp)
    by_cases hx : x < b
    · have hva : v = a := by
        rcases List.mem_cons.1 hv with e | hv
        · exact e
        rcases List.mem_cons.1 hv with e | hv
        (· omega); (· have := (List.pairwise_cons.1 h5).1 v hv; omega)
      subst hva; have hu : isU v = true := h3 v (by omega) h1; unfold pcs; rw [if_pos hu]; exact ⟨⟨v, b - 1⟩, List.mem_cons_self, h1, by show x ≤ b - 1; omega⟩
    · have hb : ∃ v ∈ b :: r, v ≤ x ∧ ∀ y, v ≤ y → y ≤ x → isU y = true := by
        rcases List.mem_cons.1 hv with e | hv
        (· exact ⟨b, by simp, by omega, fun y hy1 hy2 => h3 y (by omega) hy2⟩); (· exact ⟨v, hv, h1, h3⟩)
      have hu' : ∃ v ∈ b :: r, x < v := by
        rcases List.mem_cons.1 hu with e | hu
        (· omega); (· exact ⟨u, hu, h2⟩)
      obtain ⟨p, hp, hx⟩ := pcs_of0 (b :: r) x h5 hb hu'; refine ⟨p, ?_, hx⟩; unfold pcs
      split
      (· exact List.mem_cons_of_mem _ hp); (· exact hp)
theorem isU_iff (u : Int) : isU u = true ↔ (0 ≤ u ∧ u ≤ 55295) ∨ (57344 ≤ u ∧ u ≤ 1114111) ∨ (1114240 ≤ u ∧ u ≤ 1114367) := by
  have c := bandOf_cases u; unfold isU; rw [decide_eq_true_eq]; omega
theorem pcs_of {C : List Int} (h : Cuts C) {x : Int} (hx : isU x = true) : ∃ p ∈ pcs C, p.f0 ≤ x ∧ x ≤ p.f1 := by
  rcases (isU_iff x).1 hx with hx | hx | hx
  (· exact pcs_of0 C x h.asc ⟨_, h.b0.1, hx.1, fun y h1 h2 => (isU_iff y).2 (by omega)⟩ ⟨_, h.b0.2, by omega⟩); (· exact pcs_of0 C x h.asc ⟨_, h.b1.1, hx.1, fun y h1 h2 => (isU_iff y).2 (by omega)⟩ ⟨_, h.b1.2, by omega⟩); (· exact pcs_of0 C x h.asc ⟨_, h.b2.1, hx.1, fun y h1 h2 => (isU_iff y).2 (by omega)⟩ ⟨_, h.b2.2, by omega⟩)
theorem pcs_ok {C : List Int} (h : Cuts C) : ∀ p ∈ pcs C, okR p := fun p hp => by
  obtain ⟨h1, h2, h3, h4, h5⟩ := pcs_in C h.asc p hp; have a0 := h5 _ h.b0.2; have a1 := h5 _ h.b1.2; have a2 := h5 _ h.b2.2; have b := bandOf_cases p.f0; have c := bandOf_cases p.f1; unfold isU at h2; rw [decide_eq_true_eq] at h2; unfold okR; omega
theorem pcs_same {C : List Int} (hC : C.Pairwise (· < ·)) {l : List Rg} (hl : ∀ r ∈ l, r.f0 ∈ C ∧ r.f1 + 1 ∈ C) {p : Rg} (hp : p ∈ pcs C) {x : Int} (h0 : p.f0 ≤ x) (h1 : x ≤ p.f1) : mem l x = mem l p.f0 := by
  obtain ⟨_, _, h3, _, h5⟩ := pcs_in C hC p hp; rw [Bool.eq_iff_iff, mem_iff, mem_iff]; constructor; (· rintro ⟨r, hr, a, b⟩; have c0 := h5 _ (hl r hr).1; have c1 := h5 _ (hl r hr).2; exact ⟨r, hr, by omega, by omega⟩); (· rintro ⟨r, hr, a, b⟩; have c0 := h5 _ (hl r hr).1; have c1 := h5 _ (hl r hr).2; exact ⟨r, hr, by omega, by omega⟩)
def joinR (s : List Rg) (p : Rg) : List Rg :=
  match s.getLast? with
  | none => s ++ [p]
  | some x => if x.f1 + 1 = p.f0 then s.dropLast ++ [⟨x.f0, p.f1⟩] else s ++ [p]
theorem joinR_snoc (o : List Rg) (x p : Rg) : joinR (o ++ [x]) p = if x.f1 + 1 = p.f0 then o ++ [⟨x.f0, p.f1⟩] else o ++ [x, p] := by
  unfold joinR; simp
theorem snoc_cases {α : Type} (s : List α) : s = [] ∨ ∃ o x, s = o ++ [x] := by
  cases h : s.reverse with
  | nil => left; simpa using h
  | cons x o => right; exact ⟨o.reverse, x, by rw [← List.reverse_reverse s, h]; simp⟩
theorem mem_one (p : Rg) (u : Int) : mem [p] u = decide (p.f0 ≤ u ∧ u ≤ p.f1) := by simp [mem]
theorem joinR_ok {s : List Rg} {p : Rg} (hs : Sound s) (hp : okR p) (h : ∀ r ∈ s, r.f1 < p.f0) : Sound (joinR s p) ∧ (∀ u, mem (joinR s p) u = (mem s u || mem [p] u)) ∧ (joinR s p).length ≤ s.length + 1 ∧ ∀ r ∈ joinR s p, r.f1 ≤ p.f1 := by
  rcases snoc_cases s with rfl | ⟨o, x, rfl⟩
  · refine ⟨⟨by simpa [joinR] using hp, by simp [joinR]⟩, fun u => by simp [joinR, mem], by simp [joinR], by simp [joinR]⟩
  · obtain ⟨h1, hx, h3⟩ := (sound_snoc o x).1 hs
    have hxp := h x (by simp); have hp2 := hp.2.2; have hx2 := hx.2.2; rw [joinR_snoc]
    split
    · rename_i e
      refine ⟨?_, fun u => ?_, by simp, fun r hr => ?_⟩; (· rw [sound_snoc]; refine ⟨h1, ?_, h3⟩; obtain ⟨a0, a1, a2⟩ := hx; obtain ⟨b0, b1, b2⟩ := hp; have c0 := bandOf_cases x.f1; have c1 := bandOf_cases p.f0; unfold okR; simp only; omega)
      · rw [mem_app, mem_app, Bool.or_assoc]
        congr 1
        rw [mem_one, mem_one, mem_one, Bool.eq_iff_iff, Bool.or_eq_true, decide_eq_true_eq, decide_eq_true_eq, decide_eq_true_eq]; simp only; omega
      · rcases List.mem_append.1 hr with hr | hr
        (· have := h r (by simp [hr]); omega); (· rw [List.mem_singleton] at hr; subst hr; exact Int.le_refl _)
    · rename_i e
      have e2 : o ++ [x, p] = (o ++ [x]) ++ [p] := by simp
      rw [e2]; refine ⟨?_, fun u => mem_app _ _ _, by simp, fun r hr => ?_⟩
      · rw [sound_snoc]
        refine ⟨hs, hp, fun y hy => ?_⟩
        rcases List.mem_append.1 hy with hy | hy
        (· have := h3 y hy; omega); (· rw [List.mem_singleton] at hy; subst hy; omega)
      · rcases List.mem_append.1 hr with hr | hr
        (· have := h r hr; omega); (· rw [List.mem_singleton] at hr; subst hr; exact Int.le_refl _)
theorem joins_ok : ∀ (ps s : List Rg), Sound s → (∀ p ∈ ps, okR p) → ps.Pairwise (fun a b => a.f1 < b.f0) → (∀ r ∈ s, ∀ p ∈ ps, r.f1 < p.f0) → Sound (ps.foldl joinR s) ∧ (∀ u, mem (ps.foldl joinR s) u = (mem s u || mem ps u)) ∧ (ps.foldl joinR s).length ≤ s.length + ps.length
  | [], s, hs, _, _, _ => ⟨hs, fun u => by simp [mem], by simp⟩
  | p :: ps, s, hs, hok, hp, h => by
    obtain ⟨h1, h2, h3, h4⟩ := joinR_ok hs (hok p (by simp)) (fun r hr => h r hr p (by simp)); obtain ⟨a1, a2⟩ := List.pairwise_cons.1 hp; obtain ⟨g1, g2, g3⟩ := joins_ok ps (joinR s p) h1 (fun q hq => hok q (by simp [hq])) a2 (fun r hr q hq => by have := h4 r hr; have := a1 q hq; omega); refine ⟨g1, fun u => ?_, by simp only [List.foldl_cons, List.length_cons]; omega⟩; rw [List.foldl_cons, g2, h2, mem_one, mem_cons p ps, Bool.or_assoc]
theorem count_in2 (l : List Rg) (x : Int) (h : ∀ r ∈ l, r.f0 ≤ r.f1) : l.countP (fun r => decide (r.f0 ≤ x)) = l.countP (fun r => decide (r.f1 < x)) + l.countP (fun r => decide (r.f0 ≤ x ∧ x ≤ r.f1)) := by
  induction l with
  | nil => rfl
  | cons r l ih =>
    have hr := h r (by simp); have ih := ih (fun q hq => h q (by simp [hq])); simp only [List.countP_cons, decide_eq_true_eq]
    by_cases h1 : r.f0 ≤ x
    · by_cases h2 : r.f1 < x
      (· rw [if_pos h1, if_pos h2, if_neg (by omega)]; omega); (· rw [if_pos h1, if_neg h2, if_pos (by omega)]; omega)
    · rw [if_neg h1, if_neg (by omega), if_neg (by omega)]; omega
theorem mem_count (l : List Rg) (x : Int) (h : ∀ r ∈ l, r.f0 ≤ r.f1) : decide (l.countP (fun r => decide (r.f0 ≤ x)) > l.countP (fun r => decide (r.f1 < x))) = mem l x := by
  rw [count_in2 l x h, Bool.eq_iff_iff, decide_eq_true_eq, mem_iff]
  have : (0 < l.countP fun r => decide (r.f0 ≤ x ∧ x ≤ r.f1)) ↔ ∃ r ∈ l, r.f0 ≤ x ∧ x ≤ r.f1 := by
    rw [List.countP_pos_iff]; simp
  rw [← this]; omega
theorem sorted_count : ∀ (l : List Int) (p : Int → Bool), l.Pairwise (· ≤ ·) → (∀ a b : Int, a ≤ b → p b = true → p a = true) → ∀ i, i < l.length → ((l.getD i 0 |> p) = true ↔ i < l.countP p)
  | [], p, _, _, i, h => by simp at h
  | x :: l, p, hs, hp, i, hi => by
    obtain ⟨h1, h2⟩ := List.pairwise_cons.1 hs; rw [List.countP_cons]
    cases hx : p x with
    | false =>
      have hz : l.countP p = 0 := by
        rw [List.countP_eq_zero]; intro y hy; intro hpy; rw [hp x y (h1 y hy) hpy] at hx; cases hx
      rw [hz]; constructor
      · intro h
        cases i with
        | zero => simp at h; rw [h] at hx; cases hx
        | succ i =>
          have hi' : i < l.length := by simpa using hi
          have hm : l.getD i 0 ∈ l := by rw [List.getD_eq_getElem?_getD, List.getElem?_eq_getElem hi']; exact List.getElem_mem hi'
          have h' : p (l.getD i 0) = true := by simpa using h
          rw [hp x _ (h1 _ hm) h'] at hx; cases hx
      · simp
    | true =>
      cases i with
      | zero => simp [hx]
      | succ i =>
        have := sorted_count l p h2 hp i (by simpa using hi); simp only [List.getD_cons_succ, if_true] at this ⊢; rw [this]; omega
end Go.Proofs.YtoggmegpodmfnaaGreatDoor.Q
namespace Go.Proofs.YtoggmegpodmfnaaGreatDoor.Q
open Go.RowKit Go.Proofs.YtoggmegpodmfnaaGreatDoorW.PrintWords Go.Proofs.YtoggmegpodmfnaaGreatDoorW.PrintLast Go.Proofs.YtoggmegpodmfnaaGreatDoorW.PrintMore Go.Proofs.YtoggmegpodmfnaaGreatDoor.PS Go.Proofs.YtoggmegpodmfnaaGreatDoor.B
set_option linter.unusedVariables false
set_option linter.unusedSimpArgs false
structure Num (E : Nat → Nat → Prop) (m : Nat) (f : Nat → Int) (n : Int) : Prop where
  eqv : ∀ i j, i < m → j < m → (f i = f j ↔ E i j)
  lt : ∀ i, i < m → 0 ≤ f i ∧ f i < n
  fst : ∀ i, i < m → ∀ c, 0 ≤ c → c < f i → ∃ j, j < i ∧ f j = c
  all : ∀ c, 0 ≤ c → c < n → ∃ j, j < m ∧ f j = c
theorem num_congr {E : Nat → Nat → Prop} {m : Nat} {f g : Nat → Int} {n : Int} (h : Num E m f n) (hg : ∀ i, i < m → g i = f i) : Num E m g n := by
  refine ⟨fun i j hi hj => by rw [hg i hi, hg j hj]; exact h.eqv i j hi hj, fun i hi => by rw [hg i hi]; exact h.lt i hi, fun i hi c h0 hc => ?_, fun c h0 hc => ?_⟩; (· rw [hg i hi] at hc; obtain ⟨j, hj, e⟩ := h.fst i hi c h0 hc; exact ⟨j, hj, by rw [hg j (by omega)]; exact e⟩); (· obtain ⟨j, hj, e⟩ := h.all c h0 hc; exact ⟨j, hj, by rw [hg j hj]; exact e⟩)
theorem num_zero (E : Nat → Nat → Prop) (f : Nat → Int) : Num E 0 f 0 := ⟨fun i j hi => by omega, fun i hi => by omega, fun i hi => by omega, fun c h0 h1 => by omega⟩
theorem num_new {κ : Nat → Int} {m : Nat} {f : Nat → Int} {n : Int} (h : Num (fun i j => κ i = κ j) m f n) (hn : 0 ≤ n) (hk : ∀ j, j < m → κ j ≠ κ m) (hf : f m = n) : Num (fun i j => κ i = κ j) (m + 1) f (n + 1) := by
  refine ⟨fun i j hi hj => ?_, fun i hi => ?_, fun i hi c h0 hc => ?_, fun c h0 hc => ?_⟩
  · by_cases e1 : i = m
    · by_cases e2 : j = m
      · subst e1; subst e2; simp
      · subst e1
        have := h.lt j (by omega); constructor; (· intro e; omega); (· intro e; exact absurd e.symm (hk j (by omega)))
    · by_cases e2 : j = m
      · subst e2
        have := h.lt i (by omega); constructor; (· intro e; omega); (· intro e; exact absurd e (hk i (by omega)))
      · exact h.eqv i j (by omega) (by omega)
  · by_cases e1 : i = m
    (· subst e1; omega); (· have := h.lt i (by omega); omega)
  · by_cases e1 : i = m
    (· subst e1; rw [hf] at hc; exact h.all c h0 hc); (· exact h.fst i (by omega) c h0 hc)
  · by_cases e : c = n
    (· exact ⟨m, by omega, by rw [hf, e]⟩); (· obtain ⟨j, hj, e⟩ := h.all c h0 (by omega); exact ⟨j, by omega, e⟩)
theorem num_old {κ : Nat → Int} {m : Nat} {f : Nat → Int} {n : Int} (h : Num (fun i j => κ i = κ j) m f n) {q : Nat} (hq : q < m) (hk : κ q = κ m) (hf : f m = f q) : Num (fun i j => κ i = κ j) (m + 1) f n := by
  refine ⟨fun i j hi hj => ?_, fun i hi => ?_, fun i hi c h0 hc => ?_, fun c h0 hc => ?_⟩
  · by_cases e1 : i = m
    · by_cases e2 : j = m
      (· subst e1; subst e2; simp); (· subst e1; rw [hf, ← hk]; exact h.eqv q j hq (by omega))
    · by_cases e2 : j = m
      (· subst e2; rw [hf, ← hk]; exact h.eqv i q (by omega) hq); (· exact h.eqv i j (by omega) (by omega))
  · by_cases e1 : i = m
    (· subst e1; rw [hf]; exact h.lt q hq); (· exact h.lt i (by omega))
  · by_cases e1 : i = m
    (· subst e1; rw [hf] at hc; obtain ⟨j, hj, e⟩ := h.fst q hq c h0 hc; exact ⟨j, by omega, e⟩); (· exact h.fst i (by omega) c h0 hc)
  · obtain ⟨j, hj, e⟩ := h.all c h0 hc; exact ⟨j, by omega, e⟩
def gp (ps : List Rg) (f : Nat → Int) (c : Int) (m : Nat) : List Rg := ((List.range m).filter fun j => decide (f j = c)).map fun j => ps.getD j ⟨0, 0⟩
theorem gp_succ (ps : List Rg) (f : Nat → Int) (c : Int) (m : Nat) : gp ps f c (m + 1) = if f m = c then gp ps f c m ++ [ps.getD m ⟨0, 0⟩] else gp ps f c m := by
  unfold gp; rw [List.range_succ, List.filter_append, List.map_append]
  by_cases h : f m = c
  (· rw [if_pos h]; simp [h]); (· rw [if_neg h]; simp [h])
theorem gp_in {ps : List Rg} {f : Nat → Int} {c : Int} {m : Nat} (hm : m ≤ ps.length) {p : Rg} : p ∈ gp ps f c m ↔ ∃ j, j < m ∧ f j = c ∧ ps[j]? = some p := by
  unfold gp; simp only [List.mem_map, List.mem_filter, List.mem_range, decide_eq_true_eq]; constructor; (· rintro ⟨j, ⟨hj, hc⟩, rfl⟩; exact ⟨j, hj, hc, by rw [List.getD_eq_getElem?_getD, List.getElem?_eq_getElem (by omega)]; rfl⟩); (· rintro ⟨j, hj, hc, e⟩; exact ⟨j, ⟨hj, hc⟩, by rw [List.getD_eq_getElem?_getD, e]; rfl⟩)
theorem gp_asc {ps : List Rg} (hp : ps.Pairwise (fun a b => a.f1 < b.f0)) (f : Nat → Int) (c : Int) : ∀ m, m ≤ ps.length → (gp ps f c m).Pairwise (fun a b => a.f1 < b.f0)
  | 0, _ => by simp [gp]
  | m + 1, h => by
    rw [gp_succ]
    split
    (· rw [List.pairwise_append]; refine ⟨gp_asc hp f c m (by omega), List.pairwise_singleton _ _, fun a ha b hb => ?_⟩; rw [List.mem_singleton] at hb; subst hb; obtain ⟨j, hj, _, e⟩ := (gp_in (by omega)).1 ha; obtain ⟨hjl, rfl⟩ := List.getElem?_eq_some_iff.1 e; rw [List.getD_eq_getElem?_getD, List.getElem?_eq_getElem (by omega)]; exact List.pairwise_iff_getElem.1 hp j m hjl (by omega) hj); (· exact gp_asc hp f c m (by omega))
def hdR (r : List Rg) : Int := (r.headD ⟨0, 0⟩).f0
theorem joinR_hd {s : List Rg} (h : s ≠ []) (p : Rg) : hdR (joinR s p) = hdR s ∧ joinR s p ≠ [] := by
  rcases snoc_cases s with rfl | ⟨o, x, rfl⟩
  · exact absurd rfl h
  · rw [joinR_snoc]
    cases o with
    | nil => split <;> simp [hdR]
    | cons y o => split <;> simp [hdR]
theorem joins_hd : ∀ (ps s : List Rg), s ≠ [] → hdR (ps.foldl joinR s) = hdR s ∧ ps.foldl joinR s ≠ []
  | [], s, h => ⟨rfl, h⟩
  | p :: ps, s, h => by
    obtain ⟨h1, h2⟩ := joinR_hd h p; obtain ⟨h3, h4⟩ := joins_hd ps _ h2; exact ⟨h3.trans h1, h4⟩
theorem joins_first (p : Rg) (ps : List Rg) : hdR ((p :: ps).foldl joinR []) = p.f0 ∧ (p :: ps).foldl joinR [] ≠ [] := by
  obtain ⟨h1, h2⟩ := joins_hd ps (joinR [] p) (by simp [joinR]); exact ⟨h1.trans (by simp [joinR, hdR]), h2⟩
theorem gp_first {ps : List Rg} {f : Nat → Int} {c : Int} : ∀ m, m ≤ ps.length → (∃ j, j < m ∧ f j = c) → ∃ j p r, j < m ∧ f j = c ∧ (∀ i, i < j → f i ≠ c) ∧ ps[j]? = some p ∧ gp ps f c m = p :: r
  | 0, _, ⟨j, hj, _⟩ => by omega
  | m + 1, h, ⟨j, hj, e⟩ => by
    by_cases hex : ∃ j, j < m ∧ f j = c
    · obtain ⟨j, p, r, h1, h2, h3, h4, h5⟩ := gp_first (ps := ps) (f := f) (c := c) m (by omega) hex
      refine ⟨j, p, (if f m = c then r ++ [ps.getD m ⟨0, 0⟩] else r), by omega, h2, h3, h4, ?_⟩; rw [gp_succ, h5]
      split <;> simp
    · have hjm : j = m := by
        by_cases e2 : j = m
        (· exact e2); (· exact absurd ⟨j, by omega, e⟩ hex)
      subst hjm; refine ⟨j, ps.getD j ⟨0, 0⟩, [], by omega, e, fun i hi hc => hex ⟨i, hi, hc⟩, ?_, ?_⟩; (· rw [List.getD_eq_getElem?_getD, List.getElem?_eq_getElem (by omega)]; rfl)
      · have : gp ps f c j = [] := by
          rw [List.eq_nil_iff_forall_not_mem]; intro p hp; obtain ⟨i, hi, hc, _⟩ := (gp_in (m := j) (by omega)).1 hp; exact hex ⟨i, hi, hc⟩
        rw [gp_succ, if_pos e, this]; rfl
def cls (ps : List Rg) (f : Nat → Int) (m n : Nat) : List (List Rg) := (List.range n).map fun c : Nat => (gp ps f (c : Int) m).foldl joinR []
structure Classes {α : Type} (key : Int → α) (rs : List (List Rg)) : Prop where
  sound : ∀ r ∈ rs, Sound r
  ne : ∀ r ∈ rs, r ≠ []
  asc : rs.Pairwise (fun a b => hdR a < hdR b)
  cls : ∀ r ∈ rs, ∀ x y, mem r x = true → (mem r y = true ↔ isU y = true ∧ key y = key x)
  all : ∀ x, isU x = true → ∃ r ∈ rs, mem r x = true
theorem hdR_mem {r : List Rg} (hs : Sound r) (h : r ≠ []) : mem r (hdR r) = true := by
  cases r with
  | nil => exact absurd rfl h
  | cons q r => exact (mem_iff _ _).2 ⟨q, by simp, Int.le_refl _, (hs.1 q (by simp)).2.2⟩
theorem Classes.sub {α : Type} {key : Int → α} {rs qs : List (List Rg)} (h : Classes key rs) (k : Classes key qs) {r : List Rg} (hr : r ∈ rs) : r ∈ qs := by
  have hx := hdR_mem (h.sound r hr) (h.ne r hr); obtain ⟨q, hq, hqx⟩ := k.all _ ((h.sound r hr).unit hx)
  have : r = q := sound_ext r q (h.sound r hr) (k.sound q hq) (fun u => by
    rw [Bool.eq_iff_iff, h.cls r hr _ u hx, k.cls q hq _ u hqx])
  rw [this]; exact hq
theorem classes_ext {α : Type} {key : Int → α} {rs qs : List (List Rg)} (h : Classes key rs) (k : Classes key qs) : rs = qs :=
  strict_ext hdR rs qs h.asc k.asc (fun r => ⟨fun hr => h.sub k hr, fun hr => k.sub h hr⟩)
theorem cls_ok {α : Type} {key : Int → α} {C : List Int} (hC : Cuts C) (hkey : ∀ p ∈ pcs C, ∀ x, p.f0 ≤ x → x ≤ p.f1 → key x = key p.f0) {f : Nat → Int} {n : Nat}
    (hN : Num (fun i j => key ((pcs C).getD i ⟨0, 0⟩).f0 = key ((pcs C).getD j ⟨0, 0⟩).f0) (pcs C).length f n) : Classes key (cls (pcs C) f (pcs C).length n) := by
  have hok := pcs_ok hC; have hasc := pcs_asc C hC.asc
  have gd : ∀ {j p}, (pcs C)[j]? = some p → (pcs C).getD j ⟨0, 0⟩ = p := fun e => by rw [List.getD_eq_getElem?_getD, e]; rfl
  have base : ∀ c : Nat, c < n → Sound ((gp (pcs C) f c (pcs C).length).foldl joinR []) ∧ (∀ u, mem ((gp (pcs C) f c (pcs C).length).foldl joinR []) u = mem (gp (pcs C) f c (pcs C).length) u) ∧ ∃ j p, j < (pcs C).length ∧ f j = c ∧ (∀ i, i < j → f i ≠ c) ∧ (pcs C)[j]? = some p ∧ hdR ((gp (pcs C) f c (pcs C).length).foldl joinR []) = p.f0 ∧ (gp (pcs C) f c (pcs C).length).foldl joinR [] ≠ [] := by
    intro c hc
    obtain ⟨h1, h2, _⟩ := joins_ok (gp (pcs C) f c (pcs C).length) [] ⟨by simp, by simp⟩ (fun p hp => by
      obtain ⟨j, _, _, e⟩ := (gp_in (Nat.le_refl _)).1 hp
      exact hok p (List.mem_of_getElem? e)) (gp_asc hasc f c _ (Nat.le_refl _)) (by simp)
    obtain ⟨j0, hj0, e0⟩ := hN.all c (by omega) (by omega); obtain ⟨j, p, r, a1, a2, a3, a4, a5⟩ := gp_first (pcs C).length (Nat.le_refl _) ⟨j0, hj0, e0⟩; obtain ⟨b1, b2⟩ := joins_first p r; refine ⟨h1, fun u => by rw [h2]; simp [mem], j, p, a1, a2, a3, a4, by rw [a5]; exact b1, by rw [a5]; exact b2⟩
  have inn : ∀ r, r ∈ cls (pcs C) f (pcs C).length n → ∃ c : Nat, c < n ∧ r = (gp (pcs C) f c (pcs C).length).foldl joinR [] := fun r hr => by
    obtain ⟨c, hc, e⟩ := List.mem_map.1 hr; exact ⟨c, List.mem_range.1 hc, e.symm⟩
  have memc : ∀ (c : Nat), c < n → ∀ x, mem ((gp (pcs C) f c (pcs C).length).foldl joinR []) x = true ↔ ∃ j p, j < (pcs C).length ∧ f j = c ∧ (pcs C)[j]? = some p ∧ p.f0 ≤ x ∧ x ≤ p.f1 := by
    intro c hc x; rw [(base c hc).2.1, mem_iff]; constructor; (· rintro ⟨p, hp, h0, h1⟩; obtain ⟨j, hj, e1, e2⟩ := (gp_in (Nat.le_refl _)).1 hp; exact ⟨j, p, hj, e1, e2, h0, h1⟩); (· rintro ⟨j, p, hj, e1, e2, h0, h1⟩; exact ⟨p, (gp_in (Nat.le_refl _)).2 ⟨j, hj, e1, e2⟩, h0, h1⟩)
  refine ⟨fun r hr => ?_, fun r hr => ?_, ?_, fun r hr x y hx => ?_, fun x hx => ?_⟩; (· obtain ⟨c, hc, rfl⟩ := inn r hr; exact (base c hc).1); (· obtain ⟨c, hc, rfl⟩ := inn r hr; obtain ⟨_, _, j, p, _, _, _, _, _, h⟩ := base c hc; exact h)
  · rw [cls, List.pairwise_map]
    refine List.Pairwise.imp_of_mem (R := fun a b => a < b) (fun {c d} hc hd hcd => ?_) List.pairwise_lt_range; obtain ⟨_, _, j, p, a1, a2, a3, a4, a5, _⟩ := base c (List.mem_range.1 hc); obtain ⟨_, _, j', p', b1, b2, b3, b4, b5, _⟩ := base d (List.mem_range.1 hd); rw [a5, b5]; obtain ⟨i, hi, e⟩ := hN.fst j' b1 c (by omega) (by rw [b2]; omega)
    have hij : j ≤ i := by
      by_cases h : i < j
      (· exact absurd e (a3 i h)); (· omega)
    obtain ⟨l1, rfl⟩ := List.getElem?_eq_some_iff.1 a4; obtain ⟨l2, rfl⟩ := List.getElem?_eq_some_iff.1 b4; have := List.pairwise_iff_getElem.1 hasc j j' l1 l2 (by omega); have := (pcs_in C hC.asc _ (List.getElem_mem l1)).2.2.1; omega
  · obtain ⟨c, hc, rfl⟩ := inn r hr
    obtain ⟨j, p, hj, e1, e2, h0, h1⟩ := (memc c hc x).1 hx; have kx := hkey p (List.mem_of_getElem? e2) x h0 h1; rw [memc c hc y]; constructor; (· rintro ⟨j', p', hj', e1', e2', h0', h1'⟩; have ky := hkey p' (List.mem_of_getElem? e2') y h0' h1'; refine ⟨okR_unit (hok p' (List.mem_of_getElem? e2')) h0' h1', ?_⟩; have := (hN.eqv j j' hj hj').1 (by rw [e1, e1']); rw [gd e2, gd e2'] at this; rw [kx, ky, this]); (· rintro ⟨hu, hk⟩; obtain ⟨p', hp', h0', h1'⟩ := pcs_of hC hu; obtain ⟨j', hj', rfl⟩ := List.getElem_of_mem hp'; have e2' : (pcs C)[j']? = some (pcs C)[j'] := List.getElem?_eq_getElem hj'; have ky := hkey _ hp' y h0' h1'; refine ⟨j', _, hj', ?_, e2', h0', h1'⟩; rw [← e1]; refine (hN.eqv j' j hj' hj).2 ?_; rw [gd e2, gd e2', ← kx, ← ky, hk])
  · obtain ⟨p, hp, h0, h1⟩ := pcs_of hC hx; obtain ⟨j, hj, rfl⟩ := List.getElem_of_mem hp; obtain ⟨l1, l2⟩ := hN.lt j hj; obtain ⟨c, hc⟩ : ∃ c : Nat, (c : Int) = f j := ⟨(f j).toNat, by omega⟩; refine ⟨_, List.mem_map.2 ⟨c, List.mem_range.2 (by omega), rfl⟩, (memc c (by omega) x).2 ⟨j, _, hj, hc.symm, List.getElem?_eq_getElem hj, h0, h1⟩⟩
end Go.Proofs.YtoggmegpodmfnaaGreatDoor.Q
namespace Go.Proofs.YtoggmegpodmfnaaGreatDoor.Q
open Go.RowKit Go.Proofs.YtoggmegpodmfnaaGreatDoorW.PrintWords Go.Proofs.YtoggmegpodmfnaaGreatDoorW.PrintLast Go.Proofs.YtoggmegpodmfnaaGreatDoorW.PrintMore Go.Proofs.YtoggmegpodmfnaaGreatDoor.PS Go.Proofs.YtoggmegpodmfnaaGreatDoor.B
set_option linter.unusedVariables false
set_option linter.unusedSimpArgs false
theorem least_is (a b : Int) : thistleref02_least.f a b = some (if a < b then a else b) := by
  unfold thistleref02_least.f; split <;> rfl
def seg (l : List Int) (i j : Nat) : List Int := (l.drop i).take (j - i)
theorem seg_nil (l : List Int) (i : Nat) : seg l i i = [] := by simp [seg]
theorem seg_cons {l : List Int} {i j : Nat} (h : i < j) (hj : j ≤ l.length) : seg l i j = rd l (i : Int) :: seg l (i + 1) j := by
  unfold seg rd; rw [List.drop_eq_getElem_cons (by omega), show j - i = (j - (i + 1)) + 1 by omega, List.take_succ_cons, Int.toNat_natCast, List.getD_eq_getElem?_getD, List.getElem?_eq_getElem (by omega)]; rfl
theorem seg_take (l : List Int) (i w : Nat) (h : i ≤ l.length) : seg l i (min (i + w) l.length) = (l.drop i).take w := by
  unfold seg
  by_cases hw : i + w ≤ l.length
  (· rw [Nat.min_eq_left hw, show i + w - i = w by omega]); (· rw [Nat.min_eq_right (by omega), List.take_of_length_le (by simp), List.take_of_length_le (by simp; omega)])
theorem info3_ : (Tryz.prog.info? 3).map (fun i => (i.zero, i.size, i.bytes)) = some (some (.int .i64 0), 1, 8) := by kernel_rfl
theorem w64 {x : Int} {m : Nat} (h : x = (m : Int)) (hm : m ≤ 9223372036854775807) : wrap64 x = (m : Int) := by subst h; unfold wrap64; omega
theorem least_call (x : Int) (m k : Nat) (w : World) (hx : x = (m : Int)) : Calls Tryz.prog 90 #[.int .i64 x, .int .i64 (k : Int)] w fun e w' => e = .returned (.int .i64 ((min m k : Nat) : Int)) ∧ Drawn0 w w' := by
  subst hx; refine (thistleref02_least.calls (m : Int) (k : Int) ((min m k : Nat) : Int) w (by rw [least_is]; congr 1; split <;> omega)).mono fun e w' h => ?_; exact h
theorem meas2 {wd n : Nat} {x : Int} (h : wd < n) (h1 : 1 ≤ wd) (hx : x = ((2 * wd : Nat) : Int)) : 2 * n - (intOf (.int .i64 x)).toNat < 2 * n - (intOf (.int .i64 (wd : Int))).toNat := by
  subst hx; simp only [intOf, Int.toNat_natCast]; omega
theorem measLo {n lo s : Nat} {x : Int} (h : lo < n) (hs : 1 ≤ s) (hx : x = ((lo + s : Nat) : Int)) : n - (intOf (.int .i64 x)).toNat < n - (intOf (.int .i64 (lo : Int))).toNat := by subst hx; simp [intOf]; omega
theorem measI {m h i j i' j' : Nat} {x y : Int} (hx : x = (i' : Int)) (hy : y = (j' : Int)) (hlt : (m - i') + (h - j') < (m - i) + (h - j)) : (m - (intOf (.int .i64 x)).toNat) + (h - (intOf (.int .i64 y)).toNat) < (m - (intOf (.int .i64 (i : Int))).toNat) + (h - (intOf (.int .i64 (j : Int))).toNat) := by subst hx; subst hy; simpa [intOf] using hlt
theorem seg_len {l : List Int} {i j : Nat} (hj : j ≤ l.length) : (seg l i j).length = j - i := by unfold seg; simp; omega
theorem mg_seg_left {l ct : List Int} {i m j h : Nat} (hi : i < m) (hm : m ≤ l.length) (hjh : j ≤ h) (hh : h ≤ l.length) (hc : j < h → rd l (i : Int) ≤ rd l (j : Int)) : (ct ++ [rd l (i : Int)]) ++ mg (seg l (i + 1) m) (seg l j h) = ct ++ mg (seg l i m) (seg l j h) := by
  rw [List.append_assoc, seg_cons hi hm]
  by_cases hj : j < h
  · rw [seg_cons hj hh, mg_left _ _ (hc hj)]; rfl
  · have : j = h := by omega
    subst this; rw [seg_nil, mg_nil_right, mg_nil_right]; rfl
theorem mg_seg_right {l ct : List Int} {i m j h : Nat} (him : i ≤ m) (hm : m ≤ l.length) (hj : j < h) (hh : h ≤ l.length) (hc : i < m → ¬ rd l (i : Int) ≤ rd l (j : Int)) : (ct ++ [rd l (j : Int)]) ++ mg (seg l i m) (seg l (j + 1) h) = ct ++ mg (seg l i m) (seg l j h) := by
  rw [List.append_assoc, seg_cons hj hh]
  by_cases hi : i < m
  · rw [seg_cons hi hm, mg_right _ _ (hc hi)]; rfl
  · have : i = m := by omega
    subst this; rw [seg_nil, mg_nil_left, mg_nil_left]; rfl
theorem seg_two {l : List Int} {n lo wd mid hi : Nat} (hl : l.length = n) (hlo : lo ≤ n) (hm : mid = min (lo + wd) n) (hh : hi = min (lo + 2 * wd) n) : seg l lo mid = (l.drop lo).take wd ∧ seg l mid hi = ((l.drop lo).drop wd).take wd := by
  subst hl; refine ⟨by rw [hm]; exact seg_take l lo wd hlo, ?_⟩; rw [List.drop_drop]
  by_cases h : lo + wd ≤ l.length
  · have e : mid = lo + wd := by omega
    rw [e, hh, show lo + 2 * wd = lo + wd + wd by omega]; exact seg_take l (lo + wd) wd h
  · have e1 : mid = l.length := by omega
    have e2 : hi = l.length := by omega
    rw [e1, e2, seg_nil, List.drop_eq_nil_of_le (by omega)]
    simp
theorem pass_step {l ct ci : List Int} {n lo wd mid hi d i j : Nat} (hl : l.length = n) (hlo : lo ≤ n) (hm : mid = min (lo + wd) n) (hh : hi = min (lo + 2 * wd) n) (hE : ct ++ pass wd (d + 1) (l.drop lo) = pass wd n l)
    (hI : ci ++ mg (seg l i mid) (seg l j hi) = ct ++ mg (seg l lo mid) (seg l mid hi)) (hi' : i = mid) (hj' : j = hi) : ci ++ pass wd d (l.drop (lo + 2 * wd)) = pass wd n l := by
  subst hi'; subst hj'; rw [seg_nil, seg_nil, mg_nil_left, List.append_nil] at hI; obtain ⟨e1, e2⟩ := seg_two hl hlo hm hh; rw [e1, e2] at hI; rw [hI, ← hE, pass, List.append_assoc, List.drop_drop, List.drop_drop]
set_option maxHeartbeats 8000000 in
set_option maxRecDepth 100000 in
theorem merged_run (A0 : Option Addr) (c0 : Nat) (l0 : List Int) (w : World) (hl : l0.length ≤ 67108864) (hr0 : Kd.C (Kd.int .i64) w A0 l0.length l0) (hc0 : l0.length ≤ c0) :
    Calls Tryz.prog 63 #[.slice A0 l0.length c0] w fun e w' => ∃ (A : Option Addr) (c : Nat) (r : List Int), e = .returned (.slice A r.length c) ∧ r.length ≤ c ∧ Kd.C (Kd.int .i64) w' A r.length r ∧ r.Perm l0 ∧ r.Pairwise (· ≤ ·) ∧ Below w.heap.size w w' := by
  have HR0 := Aside0.mk hr0; have HL := Aside0.mk hl; have HC0 := Aside0.mk hc0; have HB : BelC w w := bc0; clear hr0 hl hc0; go_enter Tryz.func63, Tryz.ntmps63
  go_wp2
  go_loopw [0, 3] (fun v0 v3 wr => ∃ (A : Option Addr) (n c wd : Nat) (l : List Int), v0 = .slice A n c ∧ v3 = .int .i64 (wd : Int) ∧ n = l0.length ∧ Aside0 (l.length = n ∧ n ≤ c ∧ Kd.C (Kd.int .i64) wr A l.length l ∧ l.Perm l0 ∧ Runs wd l ∧ 1 ≤ wd ∧ wd ≤ 134217728) ∧ BelC w wr) (fun _ v3 _ => 2 * l0.length - (intOf v3).toNat)
  case atStart => exact ⟨A0, _, c0, 1, l0, rfl, rfl, rfl, ⟨rfl, HC0.out, HR0.out, List.Perm.refl _, runs_one l0, Nat.le_refl _, by decide⟩, inferInstance⟩
  case round =>
    obtain ⟨A, n, c, wd, l, rfl, rfl, hn, HF, HB⟩ := hrel
    have hn2 : n ≤ 67108864 := by have := HL.out; omega
    by_cases hlt : wd < n
    · have d1 : decide (wd < n) = true := decide_eq_true (by omega)
      obtain ⟨w1, rfl⟩ : ∃ x, x = wr := ⟨_, rfl⟩; have HN := Aside0.mk (And.intro hn2 hlt); have HNN := Aside0.mk hn; clear hn2 hlt hn
      go_wp2_with ((with_reducible refine gate_dst (N := 18) rfl ?_); refine kdMake0 (Kd.int .i64) (w0 := w1) w1.heap.size 3 rfl (N := 18) rfl 83 _ _ rfl (n : Int) rfl rfl Tryz.underlying83 (.int .i64 0) 8 info3_ rfl (by decide) (by omega) (ok := fun _ => True) trivial (Int.natCast_nonneg n) (by rw [Int.toNat_natCast]; have := HN.out.1; omega) bw bz ?_; intro v4 w4 hR4 hb4 hg4 hn4; have HB4 : BelC w1 w4 := ⟨hb4⟩; have HR4 := Aside0.mk hR4; clear hb4 hR4 hg4 hn4)
      go_loopw [4, 5] (fun v4 v5 w2 => ∃ (d lo : Nat) (ct : List Int), v5 = .int .i64 (lo : Int) ∧ Aside0 (ct ++ pass wd d (l.drop lo) = pass wd n l ∧ n ≤ lo + d * (2 * wd) ∧ lo ≤ 400000000) ∧ Aside0 (Kd.R (Kd.int .i64) 3 w2 w1.heap.size (fun _ => True) v4 ct) ∧ BelC w1 w2) (fun _ v5 _ => n - (intOf v5).toNat)
      case atStart => exact ⟨n, 0, [], rfl, ⟨by simp, by have := HF.out.2.2.2.2.2.1; have : n * 1 ≤ n * (2 * wd) := Nat.mul_le_mul_left _ (by omega); omega, Nat.zero_le _⟩, HR4, inferInstance⟩
      case round =>
        obtain ⟨d, lo, ct, rfl, HE, HRm, HB2⟩ := hrel
        by_cases hlo : lo < n
        · have d2 : decide (lo < n) = true := decide_eq_true (by omega)
          obtain ⟨d', rfl⟩ : ∃ d', d = d' + 1 := by
            cases d with
            | zero => have h := HE.out.2.1; rw [Nat.zero_mul] at h; omega
            | succ d' => exact ⟨d', rfl⟩
          have hwd := HF.out.2.2.2.2.2; have hnb := HN.out; have HLO := Aside0.mk hlo; obtain ⟨mid, hmid⟩ : ∃ m, m = min (lo + wd) n := ⟨_, rfl⟩; obtain ⟨hi, hhi⟩ : ∃ m, m = min (lo + 2 * wd) n := ⟨_, rfl⟩; have lc1 := fun W => least_call (wrap64 ((lo : Int) + (wd : Int))) (lo + wd) n W (w64 (by omega) (by omega)); have lc2 := fun W => least_call (wrap64 ((lo : Int) + wrap64 (2 * (wd : Int)))) (lo + 2 * wd) n W (w64 (by rw [w64 (x := 2 * (wd : Int)) (m := 2 * wd) (by omega) (by omega)]; omega) (by omega)); rw [← hmid] at lc1; rw [← hhi] at lc2; have LC1 := Aside0.mk lc1; have LC2 := Aside0.mk lc2; have HM := Aside0.mk (show lo ≤ mid ∧ mid ≤ hi ∧ hi ≤ n ∧ mid = min (lo + wd) n ∧ hi = min (lo + 2 * wd) n by omega); clear lc1 lc2 hmid hhi hlo hwd hnb
          go_wp2_with (first
            | (go_at_call 90; (with_reducible refine (LC1.out _).mono ?_); rintro e w5 ⟨rfl, ⟨nd1, rfl⟩⟩)
            | (go_at_call 90; (with_reducible refine (LC2.out _).mono ?_); rintro e w6 ⟨rfl, ⟨nd2, rfl⟩⟩))
          have HRl := Aside0.mk (cl HF.out.2.2.1 : Kd.C (Kd.int .i64) w1 A l.length l); clear d1 d2
          go_loopw [4, 8, 9] (fun v4 v8 v9 w3 => ∃ (i j : Nat) (ci : List Int), v8 = .int .i64 (i : Int) ∧ v9 = .int .i64 (j : Int) ∧ Aside0 (ci ++ mg (seg l i mid) (seg l j hi) = ct ++ mg (seg l lo mid) (seg l mid hi) ∧ i ≤ mid ∧ j ≤ hi) ∧ Aside0 (Kd.R (Kd.int .i64) 3 w3 w1.heap.size (fun _ => True) v4 ci) ∧ BelC w1 w3) (fun _ v8 v9 _ => (mid - (intOf v8).toNat) + (hi - (intOf v9).toNat))
          case atStart => exact ⟨lo, mid, ct, rfl, rfl, ⟨rfl, HM.out.1, HM.out.2.1⟩, ⟨rl HRm.out⟩, inferInstance⟩
          case round =>
            obtain ⟨i, j, ci, rfl, rfl, HI, HRi, HB3⟩ := hrel; have hI := HI.out; have hM := HM.out; have hln := HF.out.1; have hnb := HN.out.1
            have hci : ci.length ≤ 67108864 := by
              have h := congrArg List.length hI.1; have h2 := congrArg List.length HE.out.1; simp only [List.length_append, mg_len, pass_len, List.length_drop] at h h2; rw [seg_len (by omega), seg_len (by omega), seg_len (by omega), seg_len (by omega)] at h; omega
            have HCI := Aside0.mk hci; have hx := fun (h : i < mid) => Kd.at_int (cl HRl.out : Kd.C (Kd.int .i64) wr A l.length l) (i : Int) (Int.natCast_nonneg i) (by omega); have hy := fun (h : j < hi) => Kd.at_int (cl HRl.out : Kd.C (Kd.int .i64) wr A l.length l) (j : Int) (Int.natCast_nonneg j) (by omega); have qi := fun (h : i < mid) => eq_true (show (i : Int) < (n : Int) by omega); have qj := fun (h : j < hi) => eq_true (show (j : Int) < (n : Int) by omega); have p1 := eq_true (Int.natCast_nonneg i); have p2 := eq_true (Int.natCast_nonneg j); clear hI hM hln hnb hci
            by_cases c1 : i < mid
            · have e1 : decide (i < mid) = true := decide_eq_true c1
              obtain ⟨a1, ea, hx1⟩ := hx c1; replace qi := qi c1
              cases ea
              rw [Int.toNat_natCast] at hx1; have HC1 := Aside0.mk c1
              by_cases c2 : j < hi
              · have e2 : decide (j < hi) = true := decide_eq_true c2
                have e3 : ((j : Int) == (hi : Int)) = false := by simp; omega
                obtain ⟨a2, eb, hy1⟩ := hy c2; replace qj := qj c2
                cases eb
                rw [Int.toNat_natCast] at hy1; have HC2 := Aside0.mk c2; clear c1 c2 hx hy
                by_cases c3 : rd l (i : Int) ≤ rd l (j : Int)
                · have e4 : decide (rd l (i : Int) ≤ rd l (j : Int)) = true := decide_eq_true c3
                  have HC3 := Aside0.mk c3; clear c3
                  go_wp2_with ((with_reducible refine gate_builtin (b := .append) (xs := #[.tmp 69, .tmp 74]) rfl ?_); at_builtin; refine Kd.R_append (Kd.int .i64) (w0 := w1) w1.heap.size rfl (.tmp 69) (.tmp 74) 83 3 (.int .i64 0) 8 rfl Tryz.underlying83 info3_ rfl (by decide) (by omega) u4 ci (rd l (i : Int)) [.int .i64 (rd l (i : Int))] (fun _ => True) (fun _ => False) rfl rfl rfl (fun _ hk => hk.elim) (fun _ _ => trivial) (rl HRi.out) bw bz (by have := HCI.out; omega) ?_; intro v9 w9 ho hb hg hat; have HR9 := Aside0.mk ho; have HB9 : BelC w1 w9 := ⟨hb⟩; clear ho hb hg hat)
                  repeat (go_quiet (fail); try go_wp2_with ((with_reducible refine gate_builtin (b := .append) (xs := #[.tmp 69, .tmp 74]) rfl ?_); at_builtin; refine Kd.R_append (Kd.int .i64) (w0 := w1) w1.heap.size rfl (.tmp 69) (.tmp 74) 83 3 (.int .i64 0) 8 rfl Tryz.underlying83 info3_ rfl (by decide) (by omega) u4 ci (rd l (i : Int)) [.int .i64 (rd l (i : Int))] (fun _ => True) (fun _ => False) rfl rfl rfl (fun _ hk => hk.elim) (fun _ _ => trivial) (rl HRi.out) bw bz (by have := HCI.out; omega) ?_; intro v9 w9 ho hb hg hat; have HR9 := Aside0.mk ho; have HB9 : BelC w1 w9 := ⟨hb⟩; clear ho hb hg hat))
                  go_roundw
                  case rel => exact ⟨i + 1, j, ci ++ [rd l (i : Int)], by rw [w64 (x := (i : Int) + 1) (m := i + 1) (by omega) (by have := HM.out; have := HN.out; have := HI.out; omega)], rfl, ⟨(mg_seg_left HC1.out (by have := HM.out; have := HF.out.1; omega) HI.out.2.2 (by have := HM.out; have := HF.out.1; omega) (fun _ => HC3.out)).trans HI.out.1, HC1.out, HI.out.2.2⟩, HR9, inferInstance⟩
                  case measure => exact measI (w64 (m := i + 1) (by omega) (by have := HM.out; have := HN.out; have := HI.out; omega)) (j' := j) rfl (by have := HC1.out; omega)
                · have e4 : decide (rd l (i : Int) ≤ rd l (j : Int)) = false := decide_eq_false c3
                  have HC3 := Aside0.mk c3; clear c3
                  go_wp2_with ((with_reducible refine gate_builtin (b := .append) (xs := #[.tmp 78, .tmp 83]) rfl ?_); at_builtin; refine Kd.R_append (Kd.int .i64) (w0 := w1) w1.heap.size rfl (.tmp 78) (.tmp 83) 83 3 (.int .i64 0) 8 rfl Tryz.underlying83 info3_ rfl (by decide) (by omega) u4 ci (rd l (j : Int)) [.int .i64 (rd l (j : Int))] (fun _ => True) (fun _ => False) rfl rfl rfl (fun _ hk => hk.elim) (fun _ _ => trivial) (rl HRi.out) bw bz (by have := HCI.out; omega) ?_; intro v9 w9 ho hb hg hat; have HR9 := Aside0.mk ho; have HB9 : BelC w1 w9 := ⟨hb⟩; clear ho hb hg hat)
                  repeat (go_quiet (fail); try go_wp2_with ((with_reducible refine gate_builtin (b := .append) (xs := #[.tmp 78, .tmp 83]) rfl ?_); at_builtin; refine Kd.R_append (Kd.int .i64) (w0 := w1) w1.heap.size rfl (.tmp 78) (.tmp 83) 83 3 (.int .i64 0) 8 rfl Tryz.underlying83 info3_ rfl (by decide) (by omega) u4 ci (rd l (j : Int)) [.int .i64 (rd l (j : Int))] (fun _ => True) (fun _ => False) rfl rfl rfl (fun _ hk => hk.elim) (fun _ _ => trivial) (rl HRi.out) bw bz (by have := HCI.out; omega) ?_; intro v9 w9 ho hb hg hat; have HR9 := Aside0.mk ho; have HB9 : BelC w1 w9 := ⟨hb⟩; clear ho hb hg hat))
                  go_roundw
                  case rel => exact ⟨i, j + 1, ci ++ [rd l (j : Int)], rfl, by rw [w64 (x := (j : Int) + 1) (m := j + 1) (by omega) (by have := HM.out; have := HN.out; have := HI.out; omega)], ⟨(mg_seg_right HI.out.2.1 (by have := HM.out; have := HF.out.1; omega) HC2.out (by have := HM.out; have := HF.out.1; omega) (fun _ => Int.not_le.2 HC3.out)).trans HI.out.1, HI.out.2.1, HC2.out⟩, HR9, inferInstance⟩
                  case measure => exact measI (i' := i) rfl (w64 (m := j + 1) (by omega) (by have := HM.out; have := HN.out; have := HI.out; omega)) (by have := HC2.out; omega)
              · have e2 : decide (j < hi) = false := decide_eq_false c2
                have e3 : ((j : Int) == (hi : Int)) = true := by have := HI.out.2.2; simp; omega
                have HC2 := Aside0.mk c2; clear c1 c2 hx hy qj
                go_wp2_with ((with_reducible refine gate_builtin (b := .append) (xs := #[.tmp 69, .tmp 74]) rfl ?_); at_builtin; refine Kd.R_append (Kd.int .i64) (w0 := w1) w1.heap.size rfl (.tmp 69) (.tmp 74) 83 3 (.int .i64 0) 8 rfl Tryz.underlying83 info3_ rfl (by decide) (by omega) u4 ci (rd l (i : Int)) [.int .i64 (rd l (i : Int))] (fun _ => True) (fun _ => False) rfl rfl rfl (fun _ hk => hk.elim) (fun _ _ => trivial) (rl HRi.out) bw bz (by have := HCI.out; omega) ?_; intro v9 w9 ho hb hg hat; have HR9 := Aside0.mk ho; have HB9 : BelC w1 w9 := ⟨hb⟩; clear ho hb hg hat)
                repeat (go_quiet (fail); try go_wp2_with ((with_reducible refine gate_builtin (b := .append) (xs := #[.tmp 69, .tmp 74]) rfl ?_); at_builtin; refine Kd.R_append (Kd.int .i64) (w0 := w1) w1.heap.size rfl (.tmp 69) (.tmp 74) 83 3 (.int .i64 0) 8 rfl Tryz.underlying83 info3_ rfl (by decide) (by omega) u4 ci (rd l (i : Int)) [.int .i64 (rd l (i : Int))] (fun _ => True) (fun _ => False) rfl rfl rfl (fun _ hk => hk.elim) (fun _ _ => trivial) (rl HRi.out) bw bz (by have := HCI.out; omega) ?_; intro v9 w9 ho hb hg hat; have HR9 := Aside0.mk ho; have HB9 : BelC w1 w9 := ⟨hb⟩; clear ho hb hg hat))
                go_roundw
                case rel => exact ⟨i + 1, j, ci ++ [rd l (i : Int)], by rw [w64 (x := (i : Int) + 1) (m := i + 1) (by omega) (by have := HM.out; have := HN.out; have := HI.out; omega)], rfl, ⟨(mg_seg_left HC1.out (by have := HM.out; have := HF.out.1; omega) HI.out.2.2 (by have := HM.out; have := HF.out.1; omega) (fun h => absurd h HC2.out)).trans HI.out.1, HC1.out, HI.out.2.2⟩, HR9, inferInstance⟩
                case measure => exact measI (w64 (m := i + 1) (by omega) (by have := HM.out; have := HN.out; have := HI.out; omega)) (j' := j) rfl (by have := HC1.out; omega)
            · have e1 : decide (i < mid) = false := decide_eq_false c1
              have HC1 := Aside0.mk c1
              by_cases c2 : j < hi
              · have e2 : decide (j < hi) = true := decide_eq_true c2
                have e3 : ((j : Int) == (hi : Int)) = false := by simp; omega
                obtain ⟨a2, eb, hy1⟩ := hy c2; replace qj := qj c2
                cases eb
                rw [Int.toNat_natCast] at hy1; have HC2 := Aside0.mk c2; clear c1 c2 hx hy qi
                go_wp2_with ((with_reducible refine gate_builtin (b := .append) (xs := #[.tmp 78, .tmp 83]) rfl ?_); at_builtin; refine Kd.R_append (Kd.int .i64) (w0 := w1) w1.heap.size rfl (.tmp 78) (.tmp 83) 83 3 (.int .i64 0) 8 rfl Tryz.underlying83 info3_ rfl (by decide) (by omega) u4 ci (rd l (j : Int)) [.int .i64 (rd l (j : Int))] (fun _ => True) (fun _ => False) rfl rfl rfl (fun _ hk => hk.elim) (fun _ _ => trivial) (rl HRi.out) bw bz (by have := HCI.out; omega) ?_; intro v9 w9 ho hb hg hat; have HR9 := Aside0.mk ho; have HB9 : BelC w1 w9 := ⟨hb⟩; clear ho hb hg hat)
                repeat (go_quiet (fail); try go_wp2_with ((with_reducible refine gate_builtin (b := .append) (xs := #[.tmp 78, .tmp 83]) rfl ?_); at_builtin; refine Kd.R_append (Kd.int .i64) (w0 := w1) w1.heap.size rfl (.tmp 78) (.tmp 83) 83 3 (.int .i64 0) 8 rfl Tryz.underlying83 info3_ rfl (by decide) (by omega) u4 ci (rd l (j : Int)) [.int .i64 (rd l (j : Int))] (fun _ => True) (fun _ => False) rfl rfl rfl (fun _ hk => hk.elim) (fun _ _ => trivial) (rl HRi.out) bw bz (by have := HCI.out; omega) ?_; intro v9 w9 ho hb hg hat; have HR9 := Aside0.mk ho; have HB9 : BelC w1 w9 := ⟨hb⟩; clear ho hb hg hat))
                go_roundw
                case rel => exact ⟨i, j + 1, ci ++ [rd l (j : Int)], rfl, by rw [w64 (x := (j : Int) + 1) (m := j + 1) (by omega) (by have := HM.out; have := HN.out; have := HI.out; omega)], ⟨(mg_seg_right HI.out.2.1 (by have := HM.out; have := HF.out.1; omega) HC2.out (by have := HM.out; have := HF.out.1; omega) (fun h => absurd h HC1.out)).trans HI.out.1, HI.out.2.1, HC2.out⟩, HR9, inferInstance⟩
                case measure => exact measI (i' := i) rfl (w64 (m := j + 1) (by omega) (by have := HM.out; have := HN.out; have := HI.out; omega)) (by have := HC2.out; omega)
              · have e2 : decide (j < hi) = false := decide_eq_false c2
                have HC2 := Aside0.mk c2; clear c1 c2 hx hy qi qj
                go_wp2
                exact ⟨⟨d', lo + 2 * wd, ci, by rw [w64 (x := 2 * (wd : Int)) (m := 2 * wd) (by omega) (by have := HN.out; omega), w64 (x := (lo : Int) + ((2 * wd : Nat) : Int)) (m := lo + 2 * wd) (by omega) (by have := HN.out; have := HE.out; omega)], ⟨pass_step HF.out.1 (by have := HLO.out; omega) HM.out.2.2.2.1 HM.out.2.2.2.2 HE.out.1 HI.out.1 (by have := HI.out; have := HC1.out; omega) (by have := HI.out; have := HC2.out; omega), by have h := HE.out.2.1; rw [Nat.add_mul, Nat.one_mul] at h; omega, by have := HN.out; have := HLO.out; omega⟩, HRi, inferInstance⟩, measLo HLO.out (s := 2 * wd) (by have := HF.out.2.2.2.2.2.1; omega) (by rw [w64 (x := 2 * (wd : Int)) (m := 2 * wd) (by omega) (by have := HN.out; omega), w64 (x := (lo : Int) + ((2 * wd : Nat) : Int)) (m := lo + 2 * wd) (by omega) (by have := HN.out; have := HE.out; omega)])⟩
        · have d2 : decide (lo < n) = false := decide_eq_false (by omega)
          obtain ⟨A4, c4, rfl, hc4, hC4⟩ := Kd.R_reads HRm.out
          have e4 : ct = pass wd n l := by
            have h := HE.out.1; have : l.drop lo = [] := List.drop_eq_nil_of_le (by have := HF.out.1; omega); rw [this, pass_nil, List.append_nil] at h; exact h
          have HX := Aside0.mk (And.intro hc4 hC4); have HE4 := Aside0.mk e4; clear hc4 hC4 e4 HRm
          go_wp2
          go_roundw
          case measure => exact meas2 (by have := HN.out; have := HNN.out; omega) HF.out.2.2.2.2.2.1 (w64 (by omega) (by have := HN.out; omega))
          case rel =>
            obtain ⟨h1, h2, h3, h4, h5, h6, h7⟩ := HF.out; have e4 := HE4.out
            have hln : (pass wd n l).length = n := by rw [pass_len, h1]
            subst e4; refine ⟨A4, _, c4, 2 * wd, pass wd n l, rfl, by rw [w64 (x := 2 * (wd : Int)) (m := 2 * wd) (by omega) (by have := HN.out; omega)], by rw [hln]; exact HNN.out, ⟨rfl, HX.out.1, HX.out.2, (pass_perm wd n l).trans h4, pass_runs h5 (by rw [h1]; have : n * 1 ≤ n * (2 * wd) := Nat.mul_le_mul_left _ (by omega); omega), by omega, by have := HN.out; omega⟩, ⟨below_step HB.out HB2.out⟩⟩
    · have d1 : decide (wd < n) = false := decide_eq_false (by omega)
      obtain ⟨h1, h2, h3, h4, h5, h6, h7⟩ := HF.out; subst h1; clear HF
      go_wp2
      go_ret; exact ⟨A, c, l, by first | rfl | simp, h2, h3, h4, runs_all h5 (by omega), bw⟩
end Go.Proofs.YtoggmegpodmfnaaGreatDoor.Q
namespace Go.Proofs.YtoggmegpodmfnaaGreatDoor.Q
open Go.RowKit Go.Proofs.YtoggmegpodmfnaaGreatDoorW.PrintWords Go.Proofs.YtoggmegpodmfnaaGreatDoorW.PrintLast Go.Proofs.YtoggmegpodmfnaaGreatDoorW.PrintMore Go.Proofs.YtoggmegpodmfnaaGreatDoor.PS Go.Proofs.YtoggmegpodmfnaaGreatDoor.B
set_option linter.unusedVariables false
set_option linter.unusedSimpArgs false
theorem rd_at {l : List Int} {i : Nat} (h : i < l.length) : rd l (i : Int) = l[i] := by unfold rd; rw [Int.toNat_natCast, List.getD_eq_getElem?_getD, List.getElem?_eq_getElem h]; rfl
theorem take_mem {l : List Int} {i : Nat} (h : i < l.length) (x : Int) : x ∈ l.take (i + 1) ↔ x ∈ l.take i ∨ x = rd l (i : Int) := by
  rw [rd_at h, List.take_add_one, List.getElem?_eq_getElem h, List.mem_append]; simp
theorem strict_snoc {ct l : List Int} {i : Nat} (hs : l.Pairwise (· ≤ ·)) (h : i + 1 < l.length) (hc : ct.Pairwise (· < ·)) (hm : ∀ x, x ∈ ct ↔ x ∈ l.take (i + 1)) (hne : rd l ((i + 1 : Nat) : Int) ≠ rd l (i : Int)) : (ct ++ [rd l ((i + 1 : Nat) : Int)]).Pairwise (· < ·) := by
  rw [List.pairwise_append]; refine ⟨hc, List.pairwise_singleton _ _, fun x hx y hy => ?_⟩; rw [List.mem_singleton] at hy; subst hy; rw [hm] at hx; obtain ⟨j, hj, rfl⟩ := List.getElem_of_mem hx; rw [List.length_take] at hj; rw [List.getElem_take, rd_at h]; rw [rd_at h, rd_at (by omega)] at hne; have h1 := List.pairwise_iff_getElem.1 hs i (i + 1) (by omega) h (by omega)
  have h2 : l[j] ≤ l[i] := by
    by_cases e : j = i
    (· subst e; exact Int.le_refl _); (· exact List.pairwise_iff_getElem.1 hs j i (by omega) (by omega) (by omega))
  omega
set_option maxHeartbeats 8000000 in
set_option maxRecDepth 100000 in
theorem sorted_run (A0 : Option Addr) (c0 : Nat) (l0 : List Int) (w : World) (hl : l0.length ≤ 67108864) (hr0 : Kd.C (Kd.int .i64) w A0 l0.length l0) (hc0 : l0.length ≤ c0) :
    Calls Tryz.prog 62 #[.slice A0 l0.length c0] w fun e w' => ∃ (v : Value) (r : List Int), e = .returned v ∧ Kd.R (Kd.int .i64) 3 w' w.heap.size (fun _ => True) v r ∧ r.Pairwise (· < ·) ∧ (∀ x, x ∈ r ↔ x ∈ l0) ∧ r.length ≤ l0.length ∧ Below w.heap.size w w' := by
  have HR0 := Aside0.mk hr0; have HL := Aside0.mk hl; have HC0 := Aside0.mk hc0; clear hr0 hl hc0; go_enter Tryz.func62, Tryz.ntmps62
  go_wp2_with (go_at_call 63; (refine (merged_run A0 c0 l0 w HL.out HR0.out HC0.out).mono ?_); rintro e w3 ⟨A, c, l, rfl, hc, hC, hp, hs, hb⟩; have HB : BelC w w3 := ⟨hb⟩; have HF := Aside0.mk (And.intro hc (And.intro hC (And.intro hp hs))); clear hb hc hC hp hs)
  have hll := HF.out.2.2.1.length_eq; have HLL := Aside0.mk hll; clear hll
  go_loopw [3, 4] (fun v3 v4 wr => ∃ (i : Nat) (ct : List Int), v4 = .int .i64 (i : Int) ∧ Aside0 (i ≤ l.length ∧ ct.length ≤ i ∧ ct.Pairwise (· < ·) ∧ ∀ x, x ∈ ct ↔ x ∈ l.take i) ∧ Aside0 (Kd.R (Kd.int .i64) 3 wr w3.heap.size (fun _ => True) v3 ct) ∧ BelC w3 wr) (fun _ v4 _ => l.length - (intOf v4).toNat)
  case atStart => exact ⟨0, [], rfl, ⟨Nat.zero_le _, Nat.le_refl _, List.Pairwise.nil, by simp⟩, ⟨Kd.R_nil _ _ _ _ _⟩, inferInstance⟩
  case round =>
    obtain ⟨i, ct, rfl, HI, HR, HB3⟩ := hrel; have hln := HLL.out; have hlb := HL.out
    by_cases hlt : i < l.length
    · have d1 : decide (i < l.length) = true := decide_eq_true hlt
      obtain ⟨a1, ea, hx⟩ := Kd.at_int (cl HF.out.2.1 : Kd.C (Kd.int .i64) wr A l.length l) (i : Int) (Int.natCast_nonneg i) (by omega)
      cases ea
      rw [Int.toNat_natCast] at hx; have p1 := eq_true (Int.natCast_nonneg i); have q1 := eq_true (show (i : Int) < (l.length : Int) by omega); have HLT := Aside0.mk hlt
      have hci : ct.length ≤ 67108864 := by have := HI.out; omega
      have HCI := Aside0.mk hci; have hww := w64 (x := (i : Int) + 1) (m := i + 1) (by omega) (by omega); have HWW := Aside0.mk hww; clear hlt hci hww hln hlb
      by_cases h0 : i = 0
      · have e0 : ((i : Int) == 0) = true := by simp [h0]
        have H0 := Aside0.mk h0; clear h0
        go_wp2
        repeat (go_quiet (fail); try go_wp2_with ((with_reducible refine gate_builtin (b := .append) (xs := #[.tmp 27, .tmp 32]) rfl ?_); at_builtin; refine Kd.R_append (Kd.int .i64) (w0 := w3) w3.heap.size rfl (.tmp 27) (.tmp 32) 83 3 (.int .i64 0) 8 rfl Tryz.underlying83 info3_ rfl (by decide) (by omega) u3 ct (rd l (i : Int)) [.int .i64 (rd l (i : Int))] (fun _ => True) (fun _ => False) rfl rfl rfl (fun _ hk => hk.elim) (fun _ _ => trivial) (rl HR.out) bw bz (by have := HCI.out; omega) ?_; intro v9 w9 ho hb hg hat; have HR9 := Aside0.mk ho; have HB9 : BelC w3 w9 := ⟨hb⟩; clear ho hb hg hat))
        go_roundw
        case rel =>
          have h := HI.out; have e := H0.out; subst e; have hnil : ct = [] := List.eq_nil_of_length_eq_zero (by omega); subst hnil; exact ⟨1, [rd l ((0 : Nat) : Int)], by rw [HWW.out], ⟨HLT.out, Nat.le_refl _, List.pairwise_singleton _ _, fun x => by rw [take_mem HLT.out]; simp⟩, HR9, inferInstance⟩
        case measure => rw [HWW.out]; exact measLo HLT.out (s := 1) (Nat.le_refl _) rfl
      · obtain ⟨j, hij⟩ : ∃ j, i = j + 1 := ⟨i - 1, by omega⟩
        have e0 : ((i : Int) == 0) = false := by simp; omega
        have hj := w64 (x := (i : Int) - 1) (m := j) (by omega) (by have := HLT.out; have := HLL.out; have := HL.out; omega); have hjw : IntKind.i64.wrap ((i : Int) - 1) = (j : Int) := (i64_w _).trans hj; obtain ⟨a2, eb, hy⟩ := Kd.at_int (cl HF.out.2.1 : Kd.C (Kd.int .i64) wr (some a1) l.length l) (j : Int) (Int.natCast_nonneg j) (by have := HLT.out; omega)
        cases eb
        rw [Int.toNat_natCast] at hy; have p2 := eq_true (Int.natCast_nonneg j); have q2 := eq_true (show (j : Int) < (l.length : Int) by have := HLT.out; omega); have HIJ := Aside0.mk hij; clear h0 hij
        by_cases hne : rd l (i : Int) = rd l (j : Int)
        · have e1 : (rd l (i : Int) != rd l (j : Int)) = false := by rw [hne]; simp
          have HNE := Aside0.mk hne; clear hne
          go_wp2
          repeat (go_quiet (fail); try go_wp2)
          go_roundw
          case rel =>
            refine ⟨i + 1, ct, by rw [HWW.out], ⟨HLT.out, by have := HI.out; omega, HI.out.2.2.1, fun x => ?_⟩, ⟨rl HR.out⟩, inferInstance⟩; rw [take_mem HLT.out, HI.out.2.2.2]
            have hjm : rd l (j : Int) ∈ l.take i := by
              have e := HIJ.out; subst e; exact (take_mem (by have := HLT.out; omega) _).2 (.inr rfl)
            constructor; (· exact fun h => .inl h)
            · rintro (h | h)
              (· exact h); (· rw [h, HNE.out]; exact hjm)
          case measure => rw [HWW.out]; exact measLo HLT.out (s := 1) (Nat.le_refl _) rfl
        · have e1 : (rd l (i : Int) != rd l (j : Int)) = true := by simpa using hne
          have HNE := Aside0.mk hne; clear hne
          go_wp2
          repeat (go_quiet (fail); try go_wp2_with ((with_reducible refine gate_builtin (b := .append) (xs := #[.tmp 27, .tmp 32]) rfl ?_); at_builtin; refine Kd.R_append (Kd.int .i64) (w0 := w3) w3.heap.size rfl (.tmp 27) (.tmp 32) 83 3 (.int .i64 0) 8 rfl Tryz.underlying83 info3_ rfl (by decide) (by omega) u3 ct (rd l (i : Int)) [.int .i64 (rd l (i : Int))] (fun _ => True) (fun _ => False) rfl rfl rfl (fun _ hk => hk.elim) (fun _ _ => trivial) (rl HR.out) bw bz (by have := HCI.out; omega) ?_; intro v9 w9 ho hb hg hat; have HR9 := Aside0.mk ho; have HB9 : BelC w3 w9 := ⟨hb⟩; clear ho hb hg hat))
          go_roundw
          case rel =>
            have h := HI.out; have e := HIJ.out; have hne := HNE.out; have hlt := HLT.out; subst e; exact ⟨j + 1 + 1, ct ++ [rd l ((j + 1 : Nat) : Int)], by rw [HWW.out], ⟨hlt, by rw [List.length_append]; simp; omega, strict_snoc HF.out.2.2.2 hlt h.2.2.1 h.2.2.2 hne, fun x => by rw [take_mem hlt, List.mem_append, h.2.2.2]; simp⟩, HR9, inferInstance⟩
          case measure => rw [HWW.out]; exact measLo HLT.out (s := 1) (Nat.le_refl _) rfl
    · have d1 : decide (i < l.length) = false := decide_eq_false hlt
      have hi : i = l.length := by have := HI.out.1; omega
      have HE := Aside0.mk hi; clear hi hlt hln hlb
      go_wp2
      go_ret; exact ⟨_, ct, by first | rfl | simp, Kd.R_lower HR.out (by have := HB.out.size; exact this), HI.out.2.2.1, fun x => by rw [HI.out.2.2.2, HE.out, List.take_length]; exact HF.out.2.2.1.mem_iff, by have := HI.out; have := HLL.out; omega, below_step HB.out HB3.out⟩
end Go.Proofs.YtoggmegpodmfnaaGreatDoor.Q
namespace Go.Proofs.YtoggmegpodmfnaaGreatDoor.Q
open Go.RowKit Go.Proofs.YtoggmegpodmfnaaGreatDoorW.PrintWords Go.Proofs.YtoggmegpodmfnaaGreatDoorW.PrintLast Go.Proofs.YtoggmegpodmfnaaGreatDoorW.PrintMore Go.Proofs.YtoggmegpodmfnaaGreatDoor.PS Go.Proofs.YtoggmegpodmfnaaGreatDoor.B
set_option linter.unusedVariables false
set_option linter.unusedSimpArgs false
theorem w32 {x : Int} (h : I32 x) : wrap32 x = x := by unfold wrap32; unfold I32 at h; omega
theorem w64i {x : Int} (h : -9223372036854775808 ≤ x ∧ x ≤ 9223372036854775807) : wrap64 x = x := by unfold wrap64; omega
theorem size21 : (Tryz.prog.info? 21).map (·.size) = some 1 := by kernel_rfl
theorem info41_ : (Tryz.prog.info? 41).map (fun i => (i.zero, i.size, i.bytes)) = some (some (.agg #[.int .i32 0, .int .i32 0]), 2, 8) := by kernel_rfl
theorem ne_beq {a b : Int} (h : a ≠ b) : (a == b) = false := by simpa using h
set_option maxHeartbeats 8000000 in
set_option maxRecDepth 100000 in
theorem join_run (w0 W : World) (v : Value) (s : List Rg) (p : Rg) [hB : BelC w0 W] (hR : Kd.R k41 41 W w0.heap.size (fun _ => True) v s) (hs : ∀ r ∈ s, R32 r) (hp : R32 p) (hl : s.length ≤ 67108864) :
    Calls Tryz.prog 40 #[v, .agg #[.int .i64 p.f0, .int .i64 p.f1]] W fun e w' => ∃ v' : Value, e = .returned v' ∧ Kd.R k41 41 w' w0.heap.size (fun _ => True) v' (joinR s p) ∧ BelC w0 w' := by
  have HR := Aside0.mk hR; have HL := Aside0.mk hl; have h0 := w32 hp.1; have h1 := w32 hp.2; have h0w : IntKind.i32.wrap p.f0 = p.f0 := (i32_w _).trans h0; have h1w : IntKind.i32.wrap p.f1 = p.f1 := (i32_w _).trans h1
  rcases snoc_cases s with rfl | ⟨o, x, rfl⟩
  · have e1 : joinR [] p = [] ++ [p] := rfl
    obtain ⟨A, c, rfl⟩ := Kd.R_slice hR; clear hR hs hp hl h0 h1; go_enter Tryz.func40, Tryz.ntmps40
    go_wp2_with ((with_reducible refine gate_dst (N := 3) rfl ?_); refine box_event ?hg (N := 3) ?hd (cs := #[.int .i64 p.f0, .int .i64 p.f1]) (t := 63) ?hr ?_; (case hd => rfl); (case hg => rfl); (case hr => first | (go_simp; done) | (go_simp; rfl)); intro gb hg w9 hbox hb; have HB3 : BelC W w9 := ⟨hb⟩; have HB4 : BelC w0 w9 := bs hb; have HBX := Aside0.mk hbox; have hc0 : w9.cell? ⟨gb, 0, none⟩ = some (.int .i64 p.f0) := (blk_cell hbox 0).trans rfl; have hc1 : w9.cell? ⟨gb, 1, none⟩ = some (.int .i64 p.f1) := (blk_cell hbox 1).trans rfl; clear hb hbox hg)
    repeat (go_quiet (fail); try go_wp2_with ((with_reducible refine gate_builtin (b := .append) (xs := #[.tmp 32, .tmp 40]) rfl ?_); at_builtin; refine Kd.R_append k41 (w0 := w0) w0.heap.size rfl (.tmp 32) (.tmp 40) 24 41 (.agg #[.int .i32 0, .int .i32 0]) 8 rfl Tryz.underlying24 info41_ rfl (by decide) (by omega) (.slice A 0 c) [] p [.int .i32 p.f0, .int .i32 p.f1] (fun _ => True) (fun _ => False) rfl rfl (k41_mkM _ _ _ p) (fun _ hk => hk.elim) (fun _ _ => trivial) (rl (rl HR.out : Kd.R k41 41 w9 w0.heap.size (fun _ => True) _ [])) bw bz (by simp) ?_; intro v9 w10 ho hb hg hat; have HR9 := Aside0.mk ho; have HB9 : BelC w0 w10 := ⟨hb⟩; clear ho hb hg hat))
    go_ret; exact ⟨_, by first | rfl | simp, HR9.out, HB9⟩
  · have hx := hs x (by simp)
    have hx1 := w64i (x := x.f1) (by have := hx.2; unfold I32 at this; omega); have hx2 := w64i (x := x.f1 + 1) (by have := hx.2; unfold I32 at this; omega); have hx1w : IntKind.i64.wrap x.f1 = x.f1 := (i64_w _).trans hx1; have hx2w : IntKind.i64.wrap (x.f1 + 1) = x.f1 + 1 := (i64_w _).trans hx2; obtain ⟨g, cap, rfl, _, _⟩ := Kd.R_form hR (by simp); obtain ⟨m, hm⟩ : ∃ m, m = o.length := ⟨_, rfl⟩
    have hlen : (o ++ [x]).length = m + 1 := by rw [hm]; simp
    have hrd : (o ++ [x]).getD m z41 = x := by rw [hm]; simp
    obtain ⟨c, hcl, hcM, hcc, hcf⟩ := Kd.R_elem HR.out z41 (m : Int) (Int.natCast_nonneg m) (by rw [hlen]; omega); rw [Int.toNat_natCast, hrd] at hcM; rw [Int.toNat_natCast] at hcc; obtain rfl := k41_openM hcM; have hy0 : W.cell? ⟨g, m * 2, none⟩ = some (.int .i32 x.f0) := hcc 0 _ rfl; have hy1 : W.cell? ⟨g, m * 2 + 1, none⟩ = some (.int .i32 x.f1) := hcc 1 _ rfl; obtain ⟨n, hn⟩ : ∃ n, n = m + 1 := ⟨_, rfl⟩; have hm1 := w64 (x := ((n : Int) - 1)) (m := m) (by omega) (by omega); have hm1w : IntKind.i64.wrap ((n : Int) - 1) = (m : Int) := (i64_w _).trans hm1; have d1 : decide (0 < n) = true := decide_eq_true (by omega); have p1 := eq_true (Int.natCast_nonneg m); have q1 := eq_true (show (m : Int) < (n : Int) by omega); have HM := Aside0.mk (show (o ++ [x]).length = n ∧ n = m + 1 ∧ m = o.length from ⟨by rw [hlen, hn], hn, hm⟩); have HCC := Aside0.mk (fun j u hu => hcc j u hu : ∀ j u, [Value.int .i32 x.f0, .int .i32 x.f1][j]? = some u → W.cell? ⟨g, m * 2 + j, none⟩ = some u); rw [hlen, ← hn] at HR ⊢; have e2 := joinR_snoc o x p
    by_cases he : x.f1 + 1 = p.f0
    · have eb : (x.f1 + 1 == p.f0) = true := by simp [he]
      rw [if_pos he] at e2; have HE := Aside0.mk e2; clear hR hs hp hl h0 h1 hx hx1 hx2 hlen hrd hm hn hcc hcf hy0 hy1 he e2 hm1 hcM hcl; go_enter Tryz.func40, Tryz.ntmps40
      go_wp2_with ((with_reducible refine gate_dst (N := 3) rfl ?_); refine box_event ?hg (N := 3) ?hd (cs := #[.int .i64 p.f0, .int .i64 p.f1]) (t := 63) ?hr ?_; (case hd => rfl); (case hg => rfl); (case hr => first | (go_simp; done) | (go_simp; rfl)); intro gb hg w9 hbox hb; have HB3 : BelC W w9 := ⟨hb⟩; have HB4 : BelC w0 w9 := bs hb; have HBX := Aside0.mk hbox; have hc0 : w9.cell? ⟨gb, 0, none⟩ = some (.int .i64 p.f0) := (blk_cell hbox 0).trans rfl; have hc1 : w9.cell? ⟨gb, 1, none⟩ = some (.int .i64 p.f1) := (blk_cell hbox 1).trans rfl; clear hb hbox hg; have HR4 := Aside0.mk (rl HR.out : Kd.R k41 41 w9 w0.heap.size (fun _ => True) (.slice (some ⟨g, 0, none⟩) n cap) (o ++ [x])); have HCC4 := Aside0.mk (fun j u hu => (HB3.out.cell (World.block_lt_of_cell? W _ (HCC.out j u hu))).trans (HCC.out j u hu) : ∀ j u, [Value.int .i32 x.f0, .int .i32 x.f1][j]? = some u → w9.cell? ⟨g, m * 2 + j, none⟩ = some u); have hy0 : w9.cell? ⟨g, m * 2, none⟩ = some (.int .i32 x.f0) := HCC4.out 0 _ rfl; have hy1 : w9.cell? ⟨g, m * 2 + 1, none⟩ = some (.int .i32 x.f1) := HCC4.out 1 _ rfl)
      repeat (go_quiet (fail); try go_wp2_with ((with_reducible refine gate_store (p := 30) rfl ?_); refine Kd.R_store k41 (w0 := w0) w0.heap.size rfl rfl 21 (.tmp 30) (.tmp 28) rfl 41 (m : Int) 1 (o ++ [x]) (⟨x.f0, p.f1⟩ : Rg) (.int .i32 p.f1) [.int .i32 p.f1] [.int .i32 x.f0, .int .i32 x.f1] (fun _ => True) (fun _ => False) (o' := m * 2 + 1) rfl (by rw [Int.toNat_natCast]; rfl) rfl rfl size21 (by simp [Value.oneCell']) HR4.out (Int.natCast_nonneg m) (by have := HM.out; omega) rfl (fun j u hu => (HCC4.out j u hu)) (Nat.le_refl 2) (k41_mkM _ _ _ (⟨x.f0, p.f1⟩ : Rg)) (fun _ hk => hk.elim) bw ?_; intro w10 ho hb hg; have HR9 := Aside0.mk ho; have HB9 : BelC w0 w10 := ⟨hb⟩; clear ho hb hg))
      go_ret; refine ⟨_, by first | rfl | simp, ?_, HB9⟩; have h := HR9.out; rw [HE.out]; rw [Int.toNat_natCast, HM.out.2.2] at h
      simpa using h
    · have eb : (x.f1 + 1 == p.f0) = false := ne_beq he
      rw [if_neg he] at e2; have HE := Aside0.mk e2; clear hR hs hp hl h0 h1 hx hx1 hx2 hlen hrd hm hn hcc hcf hy0 hy1 he e2 hm1 hcM hcl; go_enter Tryz.func40, Tryz.ntmps40
      go_wp2_with ((with_reducible refine gate_dst (N := 3) rfl ?_); refine box_event ?hg (N := 3) ?hd (cs := #[.int .i64 p.f0, .int .i64 p.f1]) (t := 63) ?hr ?_; (case hd => rfl); (case hg => rfl); (case hr => first | (go_simp; done) | (go_simp; rfl)); intro gb hg w9 hbox hb; have HB3 : BelC W w9 := ⟨hb⟩; have HB4 : BelC w0 w9 := bs hb; have HBX := Aside0.mk hbox; have hc0 : w9.cell? ⟨gb, 0, none⟩ = some (.int .i64 p.f0) := (blk_cell hbox 0).trans rfl; have hc1 : w9.cell? ⟨gb, 1, none⟩ = some (.int .i64 p.f1) := (blk_cell hbox 1).trans rfl; clear hb hbox hg; have HR4 := Aside0.mk (rl HR.out : Kd.R k41 41 w9 w0.heap.size (fun _ => True) (.slice (some ⟨g, 0, none⟩) n cap) (o ++ [x])); have HCC4 := Aside0.mk (fun j u hu => (HB3.out.cell (World.block_lt_of_cell? W _ (HCC.out j u hu))).trans (HCC.out j u hu) : ∀ j u, [Value.int .i32 x.f0, .int .i32 x.f1][j]? = some u → w9.cell? ⟨g, m * 2 + j, none⟩ = some u); have hy0 : w9.cell? ⟨g, m * 2, none⟩ = some (.int .i32 x.f0) := HCC4.out 0 _ rfl; have hy1 : w9.cell? ⟨g, m * 2 + 1, none⟩ = some (.int .i32 x.f1) := HCC4.out 1 _ rfl)
      repeat (go_quiet (fail); try go_wp2_with ((with_reducible refine gate_builtin (b := .append) (xs := #[.tmp 32, .tmp 40]) rfl ?_); at_builtin; refine Kd.R_append k41 (w0 := w0) w0.heap.size rfl (.tmp 32) (.tmp 40) 24 41 (.agg #[.int .i32 0, .int .i32 0]) 8 rfl Tryz.underlying24 info41_ rfl (by decide) (by omega) (.slice (some ⟨g, 0, none⟩) n cap) (o ++ [x]) p [.int .i32 p.f0, .int .i32 p.f1] (fun _ => True) (fun _ => False) rfl rfl (k41_mkM _ _ _ p) (fun _ hk => hk.elim) (fun _ _ => trivial) (rl HR4.out) bw bz (by have := HM.out; have := HL.out; omega) ?_; intro v9 w10 ho hb hg hat; have HR9 := Aside0.mk ho; have HB9 : BelC w0 w10 := ⟨hb⟩; clear ho hb hg hat))
      go_ret; refine ⟨_, by first | rfl | simp, ?_, HB9⟩; rw [HE.out]
      simpa using HR9.out
end Go.Proofs.YtoggmegpodmfnaaGreatDoor.Q
namespace Go.Proofs.YtoggmegpodmfnaaGreatDoor.Q
open Go.RowKit Go.Proofs.YtoggmegpodmfnaaGreatDoorW.PrintWords Go.Proofs.YtoggmegpodmfnaaGreatDoorW.PrintLast Go.Proofs.YtoggmegpodmfnaaGreatDoorW.PrintMore Go.Proofs.YtoggmegpodmfnaaGreatDoor.PS Go.Proofs.YtoggmegpodmfnaaGreatDoor.B
set_option linter.unusedVariables false
set_option linter.unusedSimpArgs false
abbrev Pc := S63
def toP (r : Rg) : Pc := ⟨r.f0, r.f1⟩
theorem info4_ : (Tryz.prog.info? 4).map (fun i => (i.zero, i.size, i.bytes)) = some (some (.bool false), 1, 1) := by kernel_rfl
theorem size4 : (Tryz.prog.info? 4).map (·.size) = some 1 := by kernel_rfl
theorem count_at {l : List Int} {p : Int → Bool} (hs : l.Pairwise (· ≤ ·)) (hp : ∀ a b : Int, a ≤ b → p b = true → p a = true) {i : Nat} (h : i < l.length) : p (rd l (i : Int)) = true ↔ i < l.countP p := by
  have e := sorted_count l p hs hp i h
  have e2 : rd l (i : Int) = l.getD i 0 := by unfold rd; rw [Int.toNat_natCast]
  rw [e2]; exact e
theorem at_bool2 {w : World} {A : Option Addr} {n : Nat} {ps : List Rg} (h : Kd.C k63 w A n (ps.map toP)) (i : Nat) (hi : i < ps.length) (hn : n = ps.length) : ∃ ad, A = some ad ∧ w.cell? (ad.add (i * 2)) = some (.int .i64 (ps[i]).f0) := by
  obtain ⟨ad, e, h0, _⟩ := at_T63 h (i : Int) (Int.natCast_nonneg i) (by omega); refine ⟨ad, e, ?_⟩; rw [Int.toNat_natCast] at h0; rw [h0]; unfold rd_T63; rw [Int.toNat_natCast, List.getD_eq_getElem?_getD, List.getElem?_map, List.getElem?_eq_getElem hi]; rfl
theorem merged_n (n : Nat) (A0 : Option Addr) (c0 : Nat) (l0 : List Int) (hn : l0.length = n) (w : World) (hl : n ≤ 67108864) (hr0 : Kd.C (Kd.int .i64) w A0 n l0) (hc0 : n ≤ c0) :
    Calls Tryz.prog 63 #[.slice A0 n c0] w fun e w' => ∃ (A : Option Addr) (c : Nat) (r : List Int), e = .returned (.slice A n c) ∧ n ≤ c ∧ Kd.C (Kd.int .i64) w' A n r ∧ r.Perm l0 ∧ r.Pairwise (· ≤ ·) ∧ Below w.heap.size w w' := by
  subst hn; refine (merged_run A0 c0 l0 w hl hr0 hc0).mono ?_; rintro e w' ⟨A, c, r, rfl, h1, h2, h3, h4, h5⟩; rw [h3.length_eq] at *; exact ⟨A, c, r, rfl, h1, h2, h3, h4, h5⟩
def cA (l : List Rg) (x : Int) : Nat := l.countP fun r => decide (r.f0 ≤ x)
def cB (l : List Rg) (x : Int) : Nat := l.countP fun r => decide (r.f1 < x)
theorem cA_of {l : List Rg} {r : List Int} (h : r.Perm (l.map (·.f0))) (x : Int) : r.countP (fun y => decide (y ≤ x)) = cA l x := by rw [h.countP_eq, List.countP_map]; rfl
theorem cB_of {l : List Rg} {r : List Int} (h : r.Perm (l.map (·.f1))) (x : Int) : r.countP (fun y => decide (y < x)) = cB l x := by rw [h.countP_eq, List.countP_map]; rfl
theorem cA_mono (l : List Rg) {x y : Int} (h : x ≤ y) : cA l x ≤ cA l y := List.countP_mono_left (fun r _ hr => by simp only [decide_eq_true_eq] at hr ⊢; omega)
theorem cB_mono (l : List Rg) {x y : Int} (h : x ≤ y) : cB l x ≤ cB l y := List.countP_mono_left (fun r _ hr => by simp only [decide_eq_true_eq] at hr ⊢; omega)
theorem cA_at {l : List Rg} {r : List Int} (hp : r.Perm (l.map (·.f0))) (hs : r.Pairwise (· ≤ ·)) (x : Int) {i : Nat} (h : i < r.length) : rd r (i : Int) ≤ x ↔ i < cA l x := by
  rw [← cA_of hp x, ← count_at hs (p := fun y => decide (y ≤ x)) (fun a b h1 h2 => by simp only [decide_eq_true_eq] at h2 ⊢; omega) h]; simp
theorem cB_at {l : List Rg} {r : List Int} (hp : r.Perm (l.map (·.f1))) (hs : r.Pairwise (· ≤ ·)) (x : Int) {i : Nat} (h : i < r.length) : rd r (i : Int) < x ↔ i < cB l x := by
  rw [← cB_of hp x, ← count_at hs (p := fun y => decide (y < x)) (fun a b h1 h2 => by simp only [decide_eq_true_eq] at h2 ⊢; omega) h]; simp
theorem cA_le (l : List Rg) (x : Int) : cA l x ≤ l.length := List.countP_le_length
theorem cB_le (l : List Rg) (x : Int) : cB l x ≤ l.length := List.countP_le_length
theorem cAB {l : List Rg} (h : ∀ r ∈ l, r.f0 ≤ r.f1) (x : Int) : decide (cB l x < cA l x) = mem l x := mem_count l x h
theorem set_fill {α : Type} (f : Rg → α) (z : α) {ps : List Rg} {k : Nat} (h : k < ps.length) : ((ps.take k).map f ++ List.replicate (ps.length - k) z).set k (f ps[k]) = (ps.take (k + 1)).map f ++ List.replicate (ps.length - (k + 1)) z := by
  have e : ps.length - k = (ps.length - (k + 1)) + 1 := by omega
  have hk : ((ps.take k).map f).length = k := by simp; omega
  rw [e, List.replicate_succ, List.set_append_right _ _ (by omega), hk, Nat.sub_self, List.set_cons_zero, List.take_add_one, List.getElem?_eq_getElem h, List.map_append, List.append_assoc]; rfl
set_option maxHeartbeats 8000000 in
set_option maxRecDepth 100000 in
theorem inside_run (A0 : Option Addr) (c0 : Nat) (l : List Rg) (A1 : Option Addr) (c1 : Nat) (ps : List Rg) (w : World) (hl : l.length ≤ 67108864) (hlp : ps.length ≤ 268435456) (hr : ∀ r ∈ l, R32 r) (hu : ∀ r ∈ l, r.f0 ≤ r.f1) (hps : ps.Pairwise (fun a b => a.f0 ≤ b.f0))
    (hr0 : Kd.C k41 w A0 l.length l) (hc0 : l.length ≤ c0) (hr1 : Kd.C k63 w A1 ps.length (ps.map toP)) (hc1 : ps.length ≤ c1) :
    Calls Tryz.prog 39 #[.slice A0 l.length c0, .slice A1 ps.length c1] w fun e w' => ∃ v : Value, e = .returned v ∧ Kd.R Kd.bool 4 w' w.heap.size (fun _ => True) v (ps.map fun p => mem l p.f0) ∧ Below w.heap.size w w' := by
  have HR0 := Aside0.mk hr0; have HR1 := Aside0.mk hr1; have HL := Aside0.mk (And.intro hl hlp); have HR := Aside0.mk hr; have HU := Aside0.mk hu; have HPS := Aside0.mk hps; clear hr0 hr1 hl hlp hr hu hps hc0 hc1; go_enter Tryz.func39, Tryz.ntmps39
  go_wp2
  go_loopw [5, 6, 7] (fun v5 v6 v7 wr => ∃ i : Nat, v7 = .int .i64 (i : Int) ∧ i ≤ l.length ∧ Aside0 (Kd.R (Kd.int .i64) 3 wr w.heap.size (fun k => True ∧ some k ≠ (v6 : Value).ownBlock) v5 ((l.take i).map (·.f0))) ∧ Aside0 (Kd.R (Kd.int .i64) 3 wr w.heap.size (fun k => True ∧ some k ≠ (v5 : Value).ownBlock) v6 ((l.take i).map (·.f1))) ∧ BelC w wr) (fun _ _ v7 _ => l.length - (intOf v7).toNat)
  case atStart => exact ⟨0, rfl, Nat.zero_le _, ⟨Kd.R_nil _ _ _ _ _⟩, ⟨Kd.R_nil _ _ _ _ _⟩, inferInstance⟩
  case round =>
    obtain ⟨i, rfl, hi, HA, HBr, HB⟩ := hrel; have hlb := HL.out.1
    by_cases hlt : i < l.length
    · have d1 : decide (i < l.length) = true := decide_eq_true hlt
      obtain ⟨a1, ea, hx0, hx1⟩ := at_T41 (cl HR0.out : Kd.C k41 wr A0 l.length l) (i : Int) (Int.natCast_nonneg i) (by omega)
      cases ea
      have hrdi : rd_T41 l (i : Int) = l[i] := by unfold rd_T41; rw [Int.toNat_natCast, List.getD_eq_getElem?_getD, List.getElem?_eq_getElem hlt]; rfl
      rw [Int.toNat_natCast, hrdi] at hx0 hx1; obtain ⟨x, hx⟩ : ∃ x, x = l[i] := ⟨_, rfl⟩; rw [← hx] at hx0 hx1; have hxr := HR.out l[i] (List.getElem_mem hlt); rw [← hx] at hxr; have y0 : wrap64 x.f0 = x.f0 := w64i (by have := hxr.1; unfold I32 at this; omega); have y1 : wrap64 x.f1 = x.f1 := w64i (by have := hxr.2; unfold I32 at this; omega); have y0w : IntKind.i64.wrap x.f0 = x.f0 := (i64_w _).trans y0; have y1w : IntKind.i64.wrap x.f1 = x.f1 := (i64_w _).trans y1; have p1 := eq_true (Int.natCast_nonneg i); have q1 := eq_true (show (i : Int) < (l.length : Int) by omega); have HXX := Aside0.mk (show l[i]? = some x by rw [hx]; exact List.getElem?_eq_getElem hlt); have HLT := Aside0.mk hlt; have hww := w64 (x := (i : Int) + 1) (m := i + 1) (by omega) (by omega); have HWW := Aside0.mk hww; clear hrdi hx hxr y0 y1 hlt hww hlb hi
      go_wp2_with (first | ((with_reducible refine gate_builtin (b := .append) (xs := #[.tmp 18, .tmp 25]) rfl ?_); at_builtin; refine Kd.R_append (Kd.int .i64) (w0 := w) w.heap.size rfl (.tmp 18) (.tmp 25) 83 3 (.int .i64 0) 8 rfl Tryz.underlying83 info3_ rfl (by decide) (by omega) u5 ((l.take i).map (·.f0)) x.f0 [.int .i64 x.f0] (fun k => True ∧ some k ≠ u6.ownBlock) (fun _ => False) rfl rfl rfl (fun _ hk => hk.elim) (fun k hk => ⟨trivial, fun e => absurd (Kd.R_lt (rl HBr.out) k e.symm) (Nat.not_lt.2 hk)⟩) (rl HA.out) bw bz (by have := HL.out; simp; omega) ?_; intro v9 w9 ho hb hg hat; have HA9 := Aside0.mk ho; have HC9 := Aside0.mk (Kd.R_after (rl HBr.out) hg hat); have HB9 : BelC w w9 := ⟨hb⟩; clear hb hg hat ho; obtain ⟨ad9, ed9, hz0, hz1⟩ := at_T41 (cl HR0.out : Kd.C k41 w9 (some a1) l.length l) (i : Int) (Int.natCast_nonneg i) (by have := HLT.out; omega); cases ed9; have hrdi : rd_T41 l (i : Int) = x := (by unfold rd_T41; rw [Int.toNat_natCast, List.getD_eq_getElem?_getD, HXX.out]; rfl); rw [Int.toNat_natCast, hrdi] at hz0 hz1; clear hrdi hx0 hx1) | ((with_reducible refine gate_builtin (b := .append) (xs := #[.tmp 27, .tmp 34]) rfl ?_); at_builtin; refine Kd.R_append (Kd.int .i64) (w0 := w) w.heap.size rfl (.tmp 27) (.tmp 34) 83 3 (.int .i64 0) 8 rfl Tryz.underlying83 info3_ rfl (by decide) (by omega) u6 ((l.take i).map (·.f1)) x.f1 [.int .i64 x.f1] (fun k => True ∧ some k ≠ v9.ownBlock) (fun _ => False) rfl rfl rfl (fun _ hk => hk.elim) (fun k hk => ⟨trivial, fun e => absurd (Kd.R_lt (rl HA9.out) k e.symm) (Nat.not_lt.2 hk)⟩) (rl HC9.out) bw bz (by have := HL.out; simp; omega) ?_; intro v10 w10 ho hb hg hat; have HC10 := Aside0.mk ho; have HA10 := Aside0.mk (Kd.R_after (rl HA9.out) hg hat); have HB10 : BelC w w10 := ⟨hb⟩; clear hb hg hat ho))
      go_roundw
      case rel =>
        have e : ∀ f : Rg → Int, (l.take (i + 1)).map f = (l.take i).map f ++ [f x] := fun f => by rw [List.take_add_one, HXX.out]; simp
        exact ⟨i + 1, by rw [HWW.out], HLT.out, ⟨by rw [e]; exact HA10.out⟩, ⟨by rw [e]; exact HC10.out⟩, inferInstance⟩
      case measure => rw [HWW.out]; exact measLo HLT.out (s := 1) (Nat.le_refl _) rfl
    · have d1 : decide (i < l.length) = false := decide_eq_false hlt
      have HI := Aside0.mk (show i = l.length by omega); clear hlt hi hlb; obtain ⟨A5, c5, e5, hc5, hC5⟩ := Kd.R_reads HA.out; obtain ⟨A6, c6, e6, hc6, hC6⟩ := Kd.R_reads HBr.out; rw [HI.out, List.take_length] at e5 hc5 hC5 e6 hc6 hC6; subst e5 e6; have H5 := Aside0.mk (And.intro hc5 hC5); have H6 := Aside0.mk (And.intro hc6 hC6); clear hc5 hC5 hc6 hC6 HA HBr; simp only [List.length_map]
      go_wp2_with (first | (go_at_call 63; (with_reducible refine (merged_n l.length A5 c5 (l.map (·.f0)) (by simp) _ HL.out.1 (by simpa using H5.out.2) (by simpa using H5.out.1)).mono ?_); rintro e w3 ⟨A7, c7, r5, rfl, hc7, hC7, hp7, hs7, hb⟩; have HB3 : BelC wr w3 := ⟨hb⟩; have HBw3 : BelC w w3 := bs hb; have H7 := Aside0.mk (And.intro hc7 (And.intro hC7 (And.intro hp7 hs7))); clear hb hc7 hC7 hp7 hs7) | (go_at_call 63; (with_reducible refine (merged_n l.length A6 c6 (l.map (·.f1)) (by simp) _ HL.out.1 (cl (by simpa using H6.out.2 : Kd.C (Kd.int .i64) wr A6 l.length (l.map (·.f1)))) (by simpa using H6.out.1)).mono ?_); rintro e w4 ⟨A8, c8, r6, rfl, hc8, hC8, hp8, hs8, hb⟩; have HB4 : BelC w3 w4 := ⟨hb⟩; have HBw4 : BelC w w4 := bs hb; have H8 := Aside0.mk (And.intro hc8 (And.intro hC8 (And.intro hp8 hs8))); clear hb hc8 hC8 hp8 hs8) | ((with_reducible refine gate_dst (N := 42) rfl ?_); refine Kd.R_make Kd.bool (w0 := w4) w4.heap.size 4 rfl (N := 42) rfl 59 _ _ rfl (ps.length : Int) rfl rfl Tryz.underlying59 (.bool false) 1 info4_ rfl (by decide) (by omega) false (ok := fun _ => True) (okp := fun _ => True) rfl (fun _ hk => hk) trivial (Int.natCast_nonneg _) (by rw [Int.toNat_natCast]; have := HL.out; omega) bw bz ?_; intro v8 w5 ho hb hg hnew; have HR8 := Aside0.mk ho; have HB5 : BelC w4 w5 := ⟨hb⟩; clear ho hb hg hnew))
      have hn5 : r5.length = l.length := by have := H7.out.2.2.1.length_eq; simpa using this
      have hn6 : r6.length = l.length := by have := H8.out.2.2.1.length_eq; simpa using this
      have HN5 := Aside0.mk hn5; have HN6 := Aside0.mk hn6; clear hn5 hn6
      go_loopw [9, 10, 11] (fun v9 v10 v11 wr => ∃ i j k : Nat, v9 = .int .i64 (i : Int) ∧ v10 = .int .i64 (j : Int) ∧ v11 = .int .i64 (k : Int) ∧ Aside0 (k ≤ ps.length ∧ ∀ q p, ps[q]? = some p → k ≤ q → i ≤ cA l p.f0 ∧ j ≤ cB l p.f0) ∧ Aside0 (Kd.R Kd.bool 4 wr w4.heap.size (fun _ => True) v8 ((ps.take k).map (fun p => mem l p.f0) ++ List.replicate (ps.length - k) false)) ∧ BelC w4 wr) (fun _ _ v11 _ => ps.length - (intOf v11).toNat)
      case atStart => exact ⟨0, 0, 0, rfl, rfl, rfl, ⟨Nat.zero_le _, fun q p _ _ => ⟨Nat.zero_le _, Nat.zero_le _⟩⟩, ⟨by simpa using HR8.out⟩, inferInstance⟩
      case round =>
        obtain ⟨i, j, k, rfl, rfl, rfl, HIJ, HRk, HBk⟩ := hrel; obtain ⟨w6, rfl⟩ : ∃ x, x = wr := ⟨_, rfl⟩; have hlb := HL.out
        by_cases hlt : k < ps.length
        · have d1 : decide (k < ps.length) = true := decide_eq_true hlt
          obtain ⟨pk, hpk⟩ : ∃ x, ps[k]? = some x := ⟨_, List.getElem?_eq_getElem hlt⟩; obtain ⟨lo, hlo⟩ : ∃ x, x = pk.f0 := ⟨_, rfl⟩; have hik := HIJ.out.2 k pk hpk (Nat.le_refl _); rw [← hlo] at hik; have HPK := Aside0.mk (And.intro hpk hlo); have HLT := Aside0.mk hlt; have HIK := Aside0.mk hik; have HLN := Aside0.mk (show ((ps.take k).map (fun p => mem l p.f0) ++ List.replicate (ps.length - k) false).length = ps.length by simp; omega)
          have hzp : ∀ {W : World} [BelC w W], ∃ ad, A1 = some ad ∧ W.cell? (ad.add (k * 2)) = some (.int .i64 lo) := fun {W} _ => by
            obtain ⟨ad, e, h⟩ := at_bool2 (cl HR1.out : Kd.C k63 W A1 ps.length (ps.map toP)) k hlt rfl; refine ⟨ad, e, ?_⟩; have e2 : ps[k] = pk := Option.some.inj ((List.getElem?_eq_getElem hlt).symm.trans hpk); rw [h, e2, hlo]
          have HZP := Aside0.mk (show ∃ ad, A1 = some ad ∧ ∀ W : World, BelC w W → W.cell? (ad.add (k * 2)) = some (.int .i64 lo) from by
            obtain ⟨ad, e, _⟩ := hzp (W := w); refine ⟨ad, e, fun W hW => ?_⟩; obtain ⟨ad2, e2, h⟩ := hzp (W := W); rw [e] at e2; injection e2 with e2; subst e2
            exact h)
          clear hzp hlo hlt hik hlb hpk; obtain ⟨az, eaz, hz⟩ := HZP.out; subst eaz; have HZ := Aside0.mk hz; clear hz HZP; have pk0 := eq_true (Int.natCast_nonneg k); have qk0 := eq_true (show (k : Int) < (ps.length : Int) by have := HLT.out; omega)
          go_wp2
          go_loopw [9] (fun v9 wr => ∃ i : Nat, v9 = .int .i64 (i : Int) ∧ i ≤ cA l lo ∧ BelC w4 wr ∧ BelC w6 wr) (fun v9 _ => cA l lo - (intOf v9).toNat)
          case atStart => exact ⟨i, rfl, HIK.out.1, inferInstance, inferInstance⟩
          case round =>
            obtain ⟨i, rfl, hi, HBi, HB6i⟩ := hrel; have HBwi : BelC w wr := ⟨below_step HBw4.out HBi.out⟩; have hzc := HZ.out wr HBwi; have hla := cA_le l lo; have hn5 := HN5.out; have hlb := HL.out.1
            by_cases hc : i < cA l lo
            · have e1 : decide (i < l.length) = true := decide_eq_true (by omega)
              have hle := (cA_at H7.out.2.2.1 H7.out.2.2.2 lo (i := i) (by omega)).2 hc; have e2 : decide (rd r5 (i : Int) ≤ lo) = true := decide_eq_true hle; obtain ⟨ai, eai, hxi⟩ := Kd.at_int (cl (cl H7.out.2.1 : Kd.C (Kd.int .i64) w4 A7 l.length r5) : Kd.C (Kd.int .i64) wr A7 l.length r5) (i : Int) (Int.natCast_nonneg i) (by omega)
              cases eai
              rw [Int.toNat_natCast] at hxi; have pi0 := eq_true (Int.natCast_nonneg i); have qi0 := eq_true (show (i : Int) < (l.length : Int) by omega); have HC := Aside0.mk hc; have hww := w64 (x := (i : Int) + 1) (m := i + 1) (by omega) (by omega); have HWW := Aside0.mk hww; clear hla hn5 hlb hc hle hi hww
              go_wp2
              repeat (go_quiet (fail); try go_wp2)
              go_roundw
              case rel => exact ⟨i + 1, by rw [HWW.out], HC.out, inferInstance, inferInstance⟩
              case measure => rw [HWW.out]; exact measLo HC.out (s := 1) (Nat.le_refl _) rfl
            · have HI1 := Aside0.mk (show i = cA l lo by omega)
              obtain ⟨w7, rfl⟩ : ∃ x, x = wr := ⟨_, rfl⟩
              by_cases hil : i < l.length
              case' pos =>
                have e1 : decide (i < l.length) = true := decide_eq_true hil; have e2 : decide (rd r5 (i : Int) ≤ lo) = false := decide_eq_false (fun h => hc ((cA_at H7.out.2.2.1 H7.out.2.2.2 lo (i := i) (by omega)).1 h)); obtain ⟨ai, eai, hxi⟩ := Kd.at_int (cl (cl H7.out.2.1 : Kd.C (Kd.int .i64) w4 A7 l.length r5) : Kd.C (Kd.int .i64) w7 A7 l.length r5) (i : Int) (Int.natCast_nonneg i) (by omega)
                cases eai
                rw [Int.toNat_natCast] at hxi; have pi0 := eq_true (Int.natCast_nonneg i); have qi0 := eq_true (show (i : Int) < (l.length : Int) by omega)
              case' neg =>
                have e1 : decide (i < l.length) = false := decide_eq_false hil
              all_goals
                clear hla hn5 hlb hc hi hil
                go_wp2
                repeat (go_quiet (fail); try go_wp2)
                clear e1
                go_loopw [10] (fun v10 wr => ∃ j : Nat, v10 = .int .i64 (j : Int) ∧ j ≤ cB l lo ∧ BelC w4 wr ∧ BelC w7 wr) (fun v10 _ => cB l lo - (intOf v10).toNat)
                case atStart => exact ⟨j, rfl, HIK.out.2, inferInstance, inferInstance⟩
                case round =>
                  obtain ⟨j, rfl, hj, HBj, HB7j⟩ := hrel; have HBwj : BelC w wr := ⟨below_step HBw4.out HBj.out⟩; have hzd := HZ.out wr HBwj; have hla := cB_le l lo; have hn6 := HN6.out; have hlb := HL.out.1
                  by_cases hc : j < cB l lo
                  · have e1 : decide (j < l.length) = true := decide_eq_true (by omega)
                    have hle := (cB_at H8.out.2.2.1 H8.out.2.2.2 lo (i := j) (by omega)).2 hc; have e3 : decide (rd r6 (j : Int) < lo) = true := decide_eq_true hle; obtain ⟨aj, eaj, hxj⟩ := Kd.at_int (cl H8.out.2.1 : Kd.C (Kd.int .i64) wr A8 l.length r6) (j : Int) (Int.natCast_nonneg j) (by omega)
                    cases eaj
                    rw [Int.toNat_natCast] at hxj; have pj0 := eq_true (Int.natCast_nonneg j); have qj0 := eq_true (show (j : Int) < (l.length : Int) by omega); have HC := Aside0.mk hc; have hww := w64 (x := (j : Int) + 1) (m := j + 1) (by omega) (by omega); have HWW := Aside0.mk hww; clear hla hn6 hlb hc hle hj hww
                    go_wp2
                    repeat (go_quiet (fail); try go_wp2)
                    go_roundw
                    case rel => exact ⟨j + 1, by rw [HWW.out], HC.out, inferInstance, inferInstance⟩
                    case measure => rw [HWW.out]; exact measLo HC.out (s := 1) (Nat.le_refl _) rfl
                  · have HJ1 := Aside0.mk (show j = cB l lo by omega)
                    have HB6r : BelC w6 wr := ⟨below_step HB6i.out HB7j.out⟩; obtain ⟨g, cap, hv8, _, _⟩ := Kd.R_form HRk.out (by rw [HLN.out]; have := HLT.out; omega); rw [HLN.out] at hv8; obtain ⟨w8, rfl⟩ : ∃ x, x = wr := ⟨_, rfl⟩; have hrq := (rl HRk.out : Kd.R Kd.bool 4 w8 w4.heap.size (fun _ => True) v8 ((ps.take k).map (fun p => mem l p.f0) ++ List.replicate (ps.length - k) false)); rw [hv8] at hrq; have HRQ := Aside0.mk hrq; have HMB := Aside0.mk (show decide (j < i) = mem l lo by rw [HI1.out, HJ1.out]; exact cAB HU.out lo); have hkk := w64 (x := (k : Int) + 1) (m := k + 1) (by omega) (by have := HL.out; have := HLT.out; omega); have HKK := Aside0.mk hkk
                    by_cases hjl : j < l.length
                    case' pos =>
                      have e1 : decide (j < l.length) = true := decide_eq_true hjl; have e3 : decide (rd r6 (j : Int) < lo) = false := decide_eq_false (fun h => hc ((cB_at H8.out.2.2.1 H8.out.2.2.2 lo (i := j) (by omega)).1 h)); obtain ⟨aj, eaj, hxj⟩ := Kd.at_int (cl H8.out.2.1 : Kd.C (Kd.int .i64) w8 A8 l.length r6) (j : Int) (Int.natCast_nonneg j) (by omega)
                      cases eaj
                      rw [Int.toNat_natCast] at hxj; have pj0 := eq_true (Int.natCast_nonneg j); have qj0 := eq_true (show (j : Int) < (l.length : Int) by omega)
                    case' neg =>
                      have e1 : decide (j < l.length) = false := decide_eq_false hjl
                    all_goals
                      clear hla hn6 hlb hc hj hjl hkk hrq; subst hv8; obtain ⟨c, hcl, _, hcc, _⟩ := Kd.R_elem HRQ.out false (k : Int) (Int.natCast_nonneg k) (by have := HLT.out; omega); have HCL := Aside0.mk (And.intro hcl hcc); clear hcl hcc
                      go_wp2
                      repeat (go_quiet (fail); try go_wp2_with ((with_reducible refine gate_store (p := 90) rfl ?_); refine Kd.R_store Kd.bool (w0 := w4) w4.heap.size rfl rfl 4 (.tmp 90) (.tmp 89) rfl 4 (k : Int) 0 ((ps.take k).map (fun p => mem l p.f0) ++ List.replicate (ps.length - k) false) (decide (j < i)) (.bool (decide (j < i))) [.bool (decide (j < i))] c (fun _ => True) (fun _ => False) (o' := k) rfl (by rw [Int.toNat_natCast]; exact (Nat.mul_one k).symm) rfl rfl size4 (by simp [Value.oneCell']) (rl HRQ.out) (Int.natCast_nonneg k) (by have := HLT.out; omega) HCL.out.1 HCL.out.2 (Nat.le_refl 1) (by have h := HCL.out.1; rw [List.take_zero, List.drop_eq_nil_of_le (by show c.length ≤ 1; exact Nat.le_of_eq h)]; rfl) (fun _ hk => hk.elim) bw ?_; intro w10 ho hb hg; have HR9 := Aside0.mk ho; have HB9 : BelC w4 w10 := ⟨hb⟩; clear ho hb hg))
                      refine ⟨⟨i, j, k + 1, rfl, rfl, by rw [HKK.out], ⟨HLT.out, fun q p hq hkq => ?_⟩, ⟨?_⟩, inferInstance⟩, by rw [HKK.out]; exact measLo HLT.out (s := 1) (Nat.le_refl _) rfl⟩; (· obtain ⟨hk1, e1⟩ := List.getElem?_eq_some_iff.1 HPK.out.1; obtain ⟨hq1, e2⟩ := List.getElem?_eq_some_iff.1 hq; have h := List.pairwise_iff_getElem.1 HPS.out k q hk1 hq1 (by omega); rw [e1, e2, ← HPK.out.2] at h; rw [HI1.out, HJ1.out]; exact ⟨cA_mono l h, cB_mono l h⟩); (· have h := HR9.out; obtain ⟨hk1, e1⟩ := List.getElem?_eq_some_iff.1 HPK.out.1; have e := set_fill (fun p => mem l p.f0) false hk1; rw [Int.toNat_natCast, HMB.out] at h; rw [e1, ← HPK.out.2] at e; rw [← e]; exact h)
        · have d1 : decide (k < ps.length) = false := decide_eq_false hlt
          have HK := Aside0.mk (show k = ps.length by have := HIJ.out.1; omega); clear hlt hlb
          go_wp2
          go_ret; refine ⟨_, by first | rfl | simp, ?_, below_step HBw4.out HBk.out⟩; have h := HRk.out; rw [HK.out, List.take_length, Nat.sub_self, List.replicate_zero, List.append_nil] at h; exact Kd.R_lower h HBw4.out.size
end Go.Proofs.YtoggmegpodmfnaaGreatDoor.Q
namespace Go.Proofs.YtoggmegpodmfnaaGreatDoor.Q
open Go.RowKit Go.Proofs.YtoggmegpodmfnaaGreatDoorW.PrintWords Go.Proofs.YtoggmegpodmfnaaGreatDoorW.PrintLast Go.Proofs.YtoggmegpodmfnaaGreatDoorW.PrintMore Go.Proofs.YtoggmegpodmfnaaGreatDoor.PS Go.Proofs.YtoggmegpodmfnaaGreatDoor.B
set_option linter.unusedVariables false
set_option linter.unusedSimpArgs false
theorem block_is (u : Int) (hu : I32 u) : thistleref02_block.f 4 u = some (bandOf u) := by
  have e := w64i (x := u) (by unfold I32 at hu; omega); have h := bandOf_cases u
  have s1 : wrap64 (0 + 1) = 1 := by unfold wrap64; omega
  have s2 : wrap64 (1 + 1) = 2 := by unfold wrap64; omega
  have s3 : wrap64 (2 + 1) = 3 := by unfold wrap64; omega
  simp only [thistleref02_block.f, thistleref02_blocks.f, Option.bind_some, thistleref02_block.l0, List.length_cons, List.length_nil, rd_T63, e, s1, s2, s3]
  simp
  split <;> split <;> (try split) <;> (try split) <;> (try split) <;> (try split) <;> (try (congr 1)) <;> omega
theorem atLL {w : World} {A : Option Addr} {n : Nat} {xs : List (List Rg)} (h : Kd.C (Kd.slice 41 k41) w A n xs) (i : Nat) (h1 : i < n) {l : List Rg} (hl : xs[i]? = some l) : ∃ ad A0 c0, A = some ad ∧ w.cell? (ad.add i) = some (.slice A0 l.length c0) ∧ l.length ≤ c0 ∧ Kd.C k41 w A0 l.length l := by
  obtain ⟨ad, c, e, _, hK, hc0⟩ := Kd.C_get h ([] : List Rg) (i : Int) (Int.natCast_nonneg i) (by omega)
  have e2 : xs.getD (i : Int).toNat [] = l := by rw [Int.toNat_natCast, List.getD_eq_getElem?_getD, hl]; rfl
  rw [e2] at hK; rw [Int.toNat_natCast] at hc0; have hc : ∀ j u, c[j]? = some u → w.cell? (ad.add (i * 1 + j)) = some u := hc0; obtain ⟨A0, c0, rfl, l0, g0⟩ := hK; exact ⟨ad, A0, c0, e, by have hq := hc 0 _ rfl; rwa [Nat.mul_one, Nat.add_zero] at hq, l0, g0⟩
def BL : List Pc := [⟨0, 55295⟩, ⟨57344, 1114111⟩, ⟨1114240, 1114367⟩]
def cutsB (i : Nat) : List Int := (BL.take i).flatMap fun b => [b.f0, b.f1 + 1]
def ends2 (l : List Rg) : List Int := l.flatMap fun r => [r.f0, r.f1 + 1]
def cutsL (L : List (List Rg)) : List Int := cutsB 3 ++ L.flatMap ends2
def totL (L : List (List Rg)) : Nat := (L.map List.length).sum
theorem ends2_len (l : List Rg) : (ends2 l).length = 2 * l.length := by induction l with
  | nil => rfl
  | cons r l ih => simp only [ends2, List.flatMap_cons, List.length_append, List.length_cons, List.length_nil] at ih ⊢; omega
theorem flat_lenL (L : List (List Rg)) : (L.flatMap ends2).length = 2 * totL L := by induction L with
  | nil => rfl
  | cons l L ih => simp only [List.flatMap_cons, List.length_append, ends2_len, ih, totL, List.map_cons, List.sum_cons]; omega
theorem cutsB_len (i : Nat) (h : i ≤ 3) : (cutsB i).length = 2 * i := by
  match i, h with
  | 0, _ => rfl
  | 1, _ => rfl
  | 2, _ => rfl
  | 3, _ => rfl
theorem cutsB_succ (i : Nat) (h : i < 3) : cutsB (i + 1) = cutsB i ++ [(rd_T63 BL (i : Int)).f0, (rd_T63 BL (i : Int)).f1 + 1] := by
  match i, h with
  | 0, _ => rfl
  | 1, _ => rfl
  | 2, _ => rfl
theorem BL_small (i : Nat) (h : i < 3) : wrap64 ((rd_T63 BL (i : Int)).f1 + 1) = (rd_T63 BL (i : Int)).f1 + 1 := by
  match i, h with
  | 0, _ => show wrap64 (55295 + 1) = 55295 + 1; unfold wrap64; omega
  | 1, _ => show wrap64 (1114111 + 1) = 1114111 + 1; unfold wrap64; omega
  | 2, _ => show wrap64 (1114367 + 1) = 1114367 + 1; unfold wrap64; omega
theorem pcs_drop {C : List Int} {i : Nat} (h : i + 1 < C.length) : pcs (C.drop i) = if isU (rd C (i : Int)) then ⟨rd C (i : Int), rd C ((i + 1 : Nat) : Int) - 1⟩ :: pcs (C.drop (i + 1)) else pcs (C.drop (i + 1)) := by
  rw [List.drop_eq_getElem_cons (show i < C.length by omega), List.drop_eq_getElem_cons h, rd_at (show i < C.length by omega), rd_at h, pcs]
theorem pcs_end {C : List Int} {i : Nat} (h : ¬ i + 1 < C.length) : pcs (C.drop i) = [] := by
  by_cases h2 : i < C.length
  (· rw [List.drop_eq_getElem_cons h2, List.drop_eq_nil_of_le (by omega)]; rfl); (· rw [List.drop_eq_nil_of_le (by omega)]; rfl)
theorem info63_ : (Tryz.prog.info? 63).map (fun i => (i.zero, i.size, i.bytes)) = some (some (.agg #[.int .i64 0, .int .i64 0]), 2, 16) := by kernel_rfl
theorem cutsL_small {L : List (List Rg)} (hr : ∀ l ∈ L, ∀ r ∈ l, R32 r) : ∀ x ∈ cutsL L, -2147483648 ≤ x ∧ x ≤ 2147483648 := by
  intro x hx
  rcases List.mem_append.1 hx with hx | hx
  · have : x ∈ [(0 : Int), 55296, 57344, 1114112, 1114240, 1114368] := hx
    simp at this
    omega
  · obtain ⟨l, hl, hx⟩ := List.mem_flatMap.1 hx
    obtain ⟨r, hrr, hx⟩ := List.mem_flatMap.1 hx; have h := hr l hl r hrr; unfold R32 I32 at h
    simp at hx
    omega
def p22_T : Bool × List (List Nat × List Nat) := (true, [([], []), ([], []), ([], []), ([1, 2], [1, 2]), ([3], [3]), ([], []), ([], []), ([6], [6]), ([5, 7], [5, 7]), ([8], [8]), ([9], [9]), ([4, 10], [4, 10]), ([11], [11]), ([0, 12], [0, 12]), ([13, 13, 0, 1, 2, 3, 4, 5, 6, 7, 8, 9, 10, 11, 12, 13], [0, 13])])
def p22_B : List Nat := [0, 0, 0, 6, 14, 0, 0, 64, 224, 480, 992, 2046, 4094, 8191, 16383]
theorem p22_tab : rtab .any (opsOf Tryz.f38 22) = p22_T := by kernel_rfl
theorem p22_bits : waitsOk p22_T.2 p22_B = true := by kernel_rfl
set_option maxHeartbeats 8000000 in
set_option maxRecDepth 100000 in
theorem pieces_run (A0 : Option Addr) (c0 : Nat) (L : List (List Rg)) (w : World) (hl : L.length ≤ 16777216) (ht : totL L ≤ 16777216) (hr : ∀ l ∈ L, ∀ r ∈ l, R32 r) (hr0 : Kd.C (Kd.slice 41 k41) w A0 L.length L) (hc0 : L.length ≤ c0) :
    Calls Tryz.prog 38 #[.slice A0 L.length c0] w fun e w' => ∃ (v : Value) (C : List Int), e = .returned v ∧ Kd.R k63 63 w' w.heap.size (fun _ => True) v ((pcs C).map toP) ∧ C.Pairwise (· < ·) ∧ (∀ x, x ∈ C ↔ x ∈ cutsL L) ∧ C.length ≤ 50331648 ∧ Below w.heap.size w w' := by
  have HR0 := Aside0.mk hr0; have HL := Aside0.mk (And.intro hl ht); have HR := Aside0.mk hr; clear hr0 hl ht hr hc0; go_enter Tryz.func38, Tryz.ntmps38
  go_wp2_with (go_at_call 61; (refine (thistleref02_blocks.calls BL _ rfl).mono ?_); rintro e w1 ⟨v4, rfl, ho, hb⟩; have HB1 : BelC w w1 := ⟨hb⟩; obtain ⟨A4, c4, rfl, hc4, hC4⟩ := Kd.R_reads ho; have H4 := Aside0.mk (And.intro hc4 hC4); clear ho hb hc4 hC4)
  go_loopw [3, 5] (fun v3 v5 wr => ∃ (i : Nat) (cts : List Int), v5 = .int .i64 (i : Int) ∧ i ≤ 3 ∧ Aside0 (cts = cutsB i) ∧ Aside0 (Kd.R (Kd.int .i64) 3 wr w1.heap.size (fun _ => True) v3 cts) ∧ BelC w1 wr) (fun _ v5 _ => 3 - (intOf v5).toNat)
  case atStart => exact ⟨0, [], rfl, Nat.zero_le _, ⟨rfl⟩, ⟨Kd.R_nil _ _ _ _ _⟩, inferInstance⟩
  case round =>
    obtain ⟨i, cts, rfl, hi, HCE, HC, HB⟩ := hrel; have HCL := Aside0.mk (show cts.length = 2 * i by rw [HCE.out, cutsB_len i hi])
    by_cases hlt : i < 3
    · have d1 : decide (i < BL.length) = true := decide_eq_true hlt
      obtain ⟨y, hy⟩ : ∃ y, y = rd_T63 BL (i : Int) := ⟨_, rfl⟩; obtain ⟨a4, e4, _, _⟩ := at_T63 H4.out.2 (i : Int) (Int.natCast_nonneg i) (by show (i : Int) < 3; omega); subst e4
      have HY := Aside0.mk (fun (W : World) (hW : BelC w1 W) => by
        obtain ⟨ad, ea, h0, h1⟩ := at_T63 (cl H4.out.2 : Kd.C k63 W (some a4) BL.length BL) (i : Int) (Int.natCast_nonneg i) (by show (i : Int) < 3; omega)
        cases ea
        rw [Int.toNat_natCast, ← hy] at h0 h1
        exact And.intro h0 h1 : ∀ W : World, BelC w1 W → W.cell? (a4.add (i * 2)) = some (.int .i64 y.f0) ∧ W.cell? ⟨(a4.add (i * 2)).block, (a4.add (i * 2)).off + 1, none⟩ = some (.int .i64 y.f1))
      have hy0 := (HY.out wr HB).1; have p1 := eq_true (Int.natCast_nonneg i); have q1 := eq_true (show (i : Int) < (BL.length : Int) by show (i : Int) < 3; omega); have hys := BL_small i hlt; rw [← hy] at hys; have hysw : IntKind.i64.wrap (y.f1 + 1) = y.f1 + 1 := (i64_w _).trans hys; have HLT := Aside0.mk hlt; have HYE := Aside0.mk hy; have hww := w64 (x := (i : Int) + 1) (m := i + 1) (by omega) (by omega); have HWW := Aside0.mk hww; clear hy hlt hi hww hys
      go_wp2_with (first | ((with_reducible refine gate_builtin (b := .append) (xs := #[.tmp 17, .tmp 23]) rfl ?_); at_builtin; refine Kd.R_append (Kd.int .i64) (w0 := w1) w1.heap.size rfl (.tmp 17) (.tmp 23) 83 3 (.int .i64 0) 8 rfl Tryz.underlying83 info3_ rfl (by decide) (by omega) u3 cts y.f0 [.int .i64 y.f0] (fun _ => True) (fun _ => False) rfl rfl rfl (fun _ hk => hk.elim) (fun _ _ => trivial) (rl HC.out) bw bz (by rw [HCL.out]; have := HLT.out; omega) ?_; intro v9 w9 ho hb hg hat; have HR9 := Aside0.mk ho; have HB9 : BelC w1 w9 := ⟨hb⟩; have hy1 := (HY.out w9 HB9).2; clear ho hb hg hat) | ((with_reducible refine gate_builtin (b := .append) (xs := #[.tmp 25, .tmp 32]) rfl ?_); at_builtin; refine Kd.R_append (Kd.int .i64) (w0 := w1) w1.heap.size rfl (.tmp 25) (.tmp 32) 83 3 (.int .i64 0) 8 rfl Tryz.underlying83 info3_ rfl (by decide) (by omega) v9 (cts ++ [y.f0]) (y.f1 + 1) [.int .i64 (y.f1 + 1)] (fun _ => True) (fun _ => False) rfl rfl rfl (fun _ hk => hk.elim) (fun _ _ => trivial) (rl HR9.out) bw bz (by rw [List.length_append, HCL.out]; have := HLT.out; simp; omega) ?_; intro v10 w10 ho hb hg hat; have HR10 := Aside0.mk ho; have HB10 : BelC w1 w10 := ⟨hb⟩; clear ho hb hg hat))
      exact ⟨⟨i + 1, cts ++ [y.f0] ++ [y.f1 + 1], by rw [HWW.out], HLT.out, ⟨by rw [HCE.out, cutsB_succ i HLT.out, ← HYE.out]; simp⟩, HR10, inferInstance⟩, by rw [HWW.out]; exact measLo HLT.out (s := 1) (Nat.le_refl _) rfl⟩
    · have d1 : decide (i < BL.length) = false := decide_eq_false hlt
      have HI := Aside0.mk (show i = 3 by omega); clear hlt hi; have HC0 := Aside0.mk (show cts = cutsB 3 by rw [HCE.out, HI.out]); clear HCE HCL
      go_wp2
      go_loopw [3, 6] (fun v3 v6 wr => ∃ (i : Nat) (cts : List Int), v6 = .int .i64 (i : Int) ∧ Aside0 (i ≤ L.length ∧ cts = cutsB 3 ++ (L.take i).flatMap ends2) ∧ Aside0 (Kd.R (Kd.int .i64) 3 wr w1.heap.size (fun _ => True) v3 cts) ∧ BelC w1 wr) (fun _ v6 _ => L.length - (intOf v6).toNat)
      case atStart => exact ⟨0, cts, rfl, ⟨Nat.zero_le _, by rw [HC0.out]; simp⟩, HC, inferInstance⟩
      case round =>
        clear HC HB HC0 HI; obtain ⟨i, cts, rfl, HCE, HC, HB⟩ := hrel; have hlb := HL.out.1
        by_cases hlt : i < L.length
        · have d1 : decide (i < L.length) = true := decide_eq_true hlt
          obtain ⟨l, hl⟩ : ∃ l, L[i]? = some l := ⟨_, List.getElem?_eq_getElem hlt⟩; obtain ⟨aL, A2, c2, eL, h1, h2, h3⟩ := atLL HR0.out i hlt hl; subst eL; have HX := Aside0.mk (fun (W : World) (hW : BelC w W) => And.intro ((hW.out.cell (World.block_lt_of_cell? w _ h1)).trans h1) (cl h3 : Kd.C k41 W A2 l.length l) : ∀ W : World, BelC w W → W.cell? (aL.add i) = some (.slice A2 l.length c2) ∧ Kd.C k41 W A2 l.length l); have HLI := Aside0.mk hl; have HLTI := Aside0.mk hlt; have hlr := HR.out l (List.mem_of_getElem? hl); have HLR := Aside0.mk hlr
          have HTI := Aside0.mk (show 2 * totL (L.take i) + 2 * l.length ≤ 33554432 by
            have e : L = L.take i ++ l :: L.drop (i + 1) := by
              obtain ⟨h, e⟩ := List.getElem?_eq_some_iff.1 hl; rw [← e, ← List.drop_eq_getElem_cons h, List.take_append_drop]
            have h := HL.out.2; rw [e] at h; simp only [totL, List.map_append, List.sum_append, List.map_cons, List.sum_cons] at h ⊢
            omega)
          have HCLI := Aside0.mk (show cts.length = 6 + 2 * totL (L.take i) by rw [HCE.out.2, List.length_append, flat_lenL, cutsB_len 3 (Nat.le_refl _)]); have hww := w64 (x := (i : Int) + 1) (m := i + 1) (by omega) (by omega); have HWWI := Aside0.mk hww; have pi := eq_true (Int.natCast_nonneg i); have qi := eq_true (show (i : Int) < (L.length : Int) by omega); have hq := (HX.out wr ⟨below_step HB1.out HB.out⟩).1; clear hl h1 h2 h3 hlr hww hlb hlt
          go_wp2
          go_loopw [3, 7] (fun v3 v7 wr => ∃ (j : Nat) (ct2 : List Int), v7 = .int .i64 (j : Int) ∧ Aside0 (j ≤ l.length ∧ ct2 = cts ++ ends2 (l.take j)) ∧ Aside0 (Kd.R (Kd.int .i64) 3 wr w1.heap.size (fun _ => True) v3 ct2) ∧ BelC w1 wr) (fun _ v7 _ => l.length - (intOf v7).toNat)
          case atStart => exact ⟨0, cts, rfl, ⟨Nat.zero_le _, by simp [ends2]⟩, ⟨rl HC.out⟩, inferInstance⟩
          case round =>
            clear HC HB; obtain ⟨cts0, hct⟩ : ∃ x, x = cts := ⟨_, rfl⟩; rw [← hct] at hrel; obtain ⟨j, cts, rfl, HCJ, HC, HB⟩ := hrel; have HBw : BelC w wr := ⟨below_step HB1.out HB.out⟩; have hcl := (HX.out wr HBw).1; have HCL := Aside0.mk (show cts.length = 6 + 2 * totL (L.take i) + 2 * j by rw [HCJ.out.2, List.length_append, ends2_len, hct, HCLI.out]; have := HCJ.out.1; simp; omega)
            by_cases hlt : j < l.length
            · have d2 : decide (j < l.length) = true := decide_eq_true hlt
              obtain ⟨y, hy⟩ : ∃ y, l[j]? = some y := ⟨_, List.getElem?_eq_getElem hlt⟩; obtain ⟨a2, e2, h0, h1⟩ := at_T41 (HX.out w inferInstance).2 (j : Int) (Int.natCast_nonneg j) (by omega); subst e2
              have hrd : rd_T41 l (j : Int) = y := by unfold rd_T41; rw [Int.toNat_natCast, List.getD_eq_getElem?_getD, hy]; rfl
              rw [hrd, Int.toNat_natCast] at h0 h1
              have HQ := Aside0.mk (show (∀ W : World, BelC w W → W.cell? (aL.add i) = some (.slice (some a2) l.length c2)) ∧ ∀ W : World, BelC w W → W.cell? (a2.add (j * 2)) = some (.int .i32 y.f0) ∧ W.cell? ⟨(a2.add (j * 2)).block, (a2.add (j * 2)).off + 1, none⟩ = some (.int .i32 y.f1) from
                ⟨fun W hW => (HX.out W hW).1, fun W hW => ⟨(hW.out.cell (World.block_lt_of_cell? w _ h0)).trans h0, (hW.out.cell (World.block_lt_of_cell? w _ h1)).trans h1⟩⟩)
              have hp1 := (HQ.out.2 wr HBw).1; have hyr := HLR.out y (List.mem_of_getElem? hy); have y0 := w64i (x := y.f0) (by have := hyr.1; unfold I32 at this; omega); have y1 := w64i (x := y.f1) (by have := hyr.2; unfold I32 at this; omega); have y2 := w64i (x := y.f1 + 1) (by have := hyr.2; unfold I32 at this; omega); have y0w : IntKind.i64.wrap y.f0 = y.f0 := (i64_w _).trans y0; have y1w : IntKind.i64.wrap y.f1 = y.f1 := (i64_w _).trans y1; have y2w : IntKind.i64.wrap (y.f1 + 1) = y.f1 + 1 := (i64_w _).trans y2; have pj := eq_true (Int.natCast_nonneg j); have qj := eq_true (show (j : Int) < (l.length : Int) by omega); have HLT := Aside0.mk hlt; have HYJ := Aside0.mk hy; have HTB := HTI; have hwj := w64 (x := (j : Int) + 1) (m := j + 1) (by omega) (by have := HTI.out; omega); have HWWJ := Aside0.mk hwj; clear hlt hy h0 h1 hrd hyr y0 y1 y2 hwj
              go_wp2_with (first | ((with_reducible refine gate_builtin (b := .append) (xs := #[.tmp 49, .tmp 59]) rfl ?_); at_builtin; refine Kd.R_append (Kd.int .i64) (w0 := w1) w1.heap.size rfl (.tmp 49) (.tmp 59) 83 3 (.int .i64 0) 8 rfl Tryz.underlying83 info3_ rfl (by decide) (by omega) u3 cts y.f0 [.int .i64 y.f0] (fun _ => True) (fun _ => False) rfl rfl rfl (fun _ hk => hk.elim) (fun _ _ => trivial) (rl HC.out) bw bz (by rw [HCL.out]; have := HLT.out; have := HTB.out; omega) ?_; intro v9 w9 ho hb hg hat; have HR9 := Aside0.mk ho; have HB9 : BelC w1 w9 := ⟨hb⟩; have HBw9 : BelC w w9 := ⟨below_step HB1.out hb⟩; have hq0 := HQ.out.1 w9 HBw9; have hq1 := (HQ.out.2 w9 HBw9).2; clear ho hb hg hat hp1 hcl) | ((with_reducible refine gate_builtin (b := .append) (xs := #[.tmp 61, .tmp 72]) rfl ?_); at_builtin; refine Kd.R_append (Kd.int .i64) (w0 := w1) w1.heap.size rfl (.tmp 61) (.tmp 72) 83 3 (.int .i64 0) 8 rfl Tryz.underlying83 info3_ rfl (by decide) (by omega) v9 (cts ++ [y.f0]) (y.f1 + 1) [.int .i64 (y.f1 + 1)] (fun _ => True) (fun _ => False) rfl rfl rfl (fun _ hk => hk.elim) (fun _ _ => trivial) (rl HR9.out) bw bz (by rw [List.length_append, HCL.out]; have := HLT.out; have := HTB.out; simp; omega) ?_; intro v10 w10 ho hb hg hat; have HR10 := Aside0.mk ho; have HB10 : BelC w1 w10 := ⟨hb⟩; clear ho hb hg hat))
              exact ⟨⟨j + 1, cts ++ [y.f0] ++ [y.f1 + 1], by rw [HWWJ.out], ⟨HLT.out, by rw [HCJ.out.2, List.take_add_one, HYJ.out]; simp [ends2, hct]⟩, HR10, inferInstance⟩, by rw [HWWJ.out]; exact measLo HLT.out (s := 1) (Nat.le_refl _) rfl⟩
            · have d2 : decide (j < l.length) = false := decide_eq_false hlt
              have HJ := Aside0.mk (show j = l.length by have := HCJ.out.1; omega); clear hlt
              go_wp2
              refine ⟨⟨i + 1, cts, by rw [HWWI.out], ⟨HLTI.out, ?_⟩, HC, inferInstance⟩, by rw [HWWI.out]; exact measLo HLTI.out (s := 1) (Nat.le_refl _) rfl⟩; rw [HCJ.out.2, HJ.out, List.take_length, hct, HCE.out.2, List.take_add_one, HLI.out]
              simp
        · have d1 : decide (i < L.length) = false := decide_eq_false hlt
          have HI := Aside0.mk (show i = L.length by have := HCE.out.1; omega); clear hlt hlb; have HCE2 := Aside0.mk (show cts = cutsL L by rw [HCE.out.2, HI.out, List.take_length]; rfl)
          have hcl : cts.length ≤ 33554438 := by rw [HCE2.out, cutsL, List.length_append, flat_lenL, cutsB_len 3 (Nat.le_refl _)]; have := HL.out; omega
          obtain ⟨A3, c3, e3, hc3, hC3⟩ := Kd.R_reads HC.out; subst e3; have H3 := Aside0.mk (And.intro hcl (And.intro hc3 hC3)); clear hcl hc3 hC3 HC HCE
          go_wp2_with (go_at_call 62; (refine (sorted_run A3 c3 cts wr (by have := H3.out.1; omega) H3.out.2.2 H3.out.2.1).mono ?_); rintro e w3 ⟨v3, C, rfl, ho, hs, hm, hln, hb⟩; have HBr : BelC wr w3 := ⟨hb⟩; have HB3 : BelC w w3 := ⟨below_step HB1.out (below_step HB.out hb)⟩; obtain ⟨A5, c5, rfl, hc5, hC5⟩ := Kd.R_reads ho; have H5 := Aside0.mk (show C.Pairwise (· < ·) ∧ (∀ x, x ∈ C ↔ x ∈ cutsL L) ∧ C.length ≤ 33554438 ∧ Kd.C (Kd.int .i64) w3 A5 C.length C from ⟨hs, fun x => by rw [hm, HCE2.out], Nat.le_trans hln H3.out.1, hC5⟩); clear hb hs hm hln ho hc5 hC5)
          go_loopw [8, 9] (fun v8 v9 wr => ∃ (i : Nat) (O : List Pc), v9 = .int .i64 (i : Int) ∧ Aside0 (i ≤ C.length ∧ O.length ≤ i ∧ O ++ (pcs (C.drop i)).map toP = (pcs C).map toP) ∧ Aside0 (Kd.R k63 63 wr w3.heap.size (fun _ => True) v8 O) ∧ BelC w3 wr) (fun _ v9 _ => C.length - (intOf v9).toNat)
          case atStart => exact ⟨0, [], rfl, ⟨Nat.zero_le _, Nat.le_refl _, by simp⟩, ⟨Kd.R_nil _ _ _ _ _⟩, inferInstance⟩
          case round =>
            clear H3 HB HBr; obtain ⟨i, O, rfl, HE, HO, HB⟩ := hrel; have hlb := H5.out.2.2.1; obtain ⟨i1, hi1⟩ : ∃ i1, i1 = i + 1 := ⟨_, rfl⟩; have hiw : IntKind.i64.wrap ((i : Int) + 1) = (i1 : Int) := (i64_w _).trans (by rw [hi1]; exact w64 (by omega) (by have := HE.out.1; omega)); have HI1 := Aside0.mk hi1
            by_cases hlt : i1 < C.length
            · have d1 : decide (i1 < C.length) = true := decide_eq_true hlt
              obtain ⟨a, ha⟩ : ∃ a, a = rd C (i : Int) := ⟨_, rfl⟩; obtain ⟨b, hb⟩ : ∃ b, b = rd C (i1 : Int) := ⟨_, rfl⟩; obtain ⟨a5, e5, h0⟩ := Kd.at_int H5.out.2.2.2 (i : Int) (Int.natCast_nonneg i) (by omega); subst e5; obtain ⟨a6, e6, h1⟩ := Kd.at_int H5.out.2.2.2 (i1 : Int) (Int.natCast_nonneg i1) (by omega)
              cases e6
              rw [Int.toNat_natCast, ← ha] at h0; rw [Int.toNat_natCast, ← hb] at h1; have HXX := Aside0.mk (fun (W : World) (hW : BelC w3 W) => And.intro ((hW.out.cell (World.block_lt_of_cell? w3 _ h0)).trans h0) ((hW.out.cell (World.block_lt_of_cell? w3 _ h1)).trans h1) : ∀ W : World, BelC w3 W → W.cell? (a5.add i) = some (.int .i64 a) ∧ W.cell? (a5.add i1) = some (.int .i64 b)); have hxr := HXX.out wr HB; have hma : a ∈ cutsL L := (H5.out.2.1 a).1 (by rw [ha, rd_at (show i < C.length by omega)]; exact List.getElem_mem _); have hmb : b ∈ cutsL L := (H5.out.2.1 b).1 (by rw [hb, rd_at hlt]; exact List.getElem_mem _); have sa := cutsL_small HR.out a hma; have sb := cutsL_small HR.out b hmb; have hbw : IntKind.i64.wrap (b - 1) = b - 1 := (i64_w _).trans (w64i (by omega)); have HOL := Aside0.mk (show O.length ≤ 33554438 by have := HE.out; omega); have HLT := Aside0.mk hlt; have HAB := Aside0.mk (And.intro ha hb); have p1 := eq_true (Int.natCast_nonneg i); have q1 := eq_true (show (i : Int) < (C.length : Int) by omega); have p2 := eq_true (Int.natCast_nonneg i1); have q2 := eq_true (show (i1 : Int) < (C.length : Int) by omega); have hstep := pcs_drop (C := C) (i := i) (by omega); rw [← hi1, ← ha, ← hb] at hstep; clear h0 h1 hma hmb ha hb hi1 hlt hlb
              by_cases hu : isU a = true
              · rw [if_pos hu] at hstep
                have HST := Aside0.mk hstep; have hu2 := (isU_iff a).1 hu; have e1 : decide (0 ≤ a) = true := decide_eq_true (by omega); have e2 : decide (a ≤ 1114367) = true := decide_eq_true (by omega); have haw : IntKind.i32.wrap a = a := (i32_w _).trans (w32 (by unfold I32; omega)); have HBK := Aside0.mk (block_is a (by unfold I32; omega))
                have e3 : decide (0 ≤ bandOf a) = true := by simpa [isU] using hu
                clear hstep hu hu2 sa sb; obtain ⟨hx0, hx1⟩ := hxr
                go_wp2_with (go_at_call 46; (refine (thistleref02_block.calls 4 a (bandOf a) _ HBK.out).mono ?_); rintro e w9 ⟨rfl, hb⟩; have HB9 : BelC wr w9 := ⟨hb⟩; have HB39 : BelC w3 w9 := bs hb; have hx := HXX.out w9 HB39; clear hb hx0 hx1; obtain ⟨hx0, hx1⟩ := hx)
                refine start_ (n := 15) (S := fun w' => w'.cell? (a5.add i) = some (.int .i64 a) ∧ w'.cell? (a5.add i1) = some (.int .i64 b)) (ds := [12, 13]) (bA 15 0) (by kernel_rfl) rfl rfl ⟨hx0, hx1⟩ (fun hHeld => ?_); refine with_tabW p22_tab p22_bits (fun HT_ HW_ => ?_); obtain ⟨wD, hwD⟩ : ∃ x, x = World.drew w9 := ⟨_, rfl⟩; rw [← hwD] at hHeld ⊢
                have HD0 : BelC w3 wD := by rw [hwD]; infer_instance
                have HD1 : BelC wr wD := by rw [hwD]; infer_instance
                clear hwD; refine pure_ (i := 0) (N := some 104) (v := ?_) (a' := ?_) (bA 15 1) rfl rfl (any_of HT_.out (by kernel_rfl)) (fun _ _ _ h => h) (Or.inl ⟨by rfl, ?_⟩) ?_ ?_; rotate_left
                · (intro w'; go_simp; with_reducible rfl)
                rotate_left
                · (simp only [Act.put, List.setIfInBounds_toArray, List.set_cons_zero, List.set_cons_succ, i64_w, i32_w]; rfl)
                refine pure_ (i := 1) (N := some 105) (v := ?_) (a' := ?_) (bA 15 3) rfl rfl (any_of HT_.out (by kernel_rfl)) (fun _ _ _ h => h) (Or.inl ⟨by rfl, ?_⟩) ?_ ?_; rotate_left
                · (intro w'; go_simp; with_reducible rfl)
                rotate_left
                · (simp only [Act.put, List.setIfInBounds_toArray, List.set_cons_zero, List.set_cons_succ, i64_w, i32_w]; rfl)
                refine pure_ (i := 2) (N := some 106) (v := ?_) (a' := ?_) (bA 15 7) rfl rfl (any_of HT_.out (by kernel_rfl)) (fun _ _ _ h => h) (Or.inl ⟨by rfl, ?_⟩) ?_ ?_; rotate_left
                · (intro w'; go_simp; with_reducible rfl)
                rotate_left
                · (simp only [Act.put, List.setIfInBounds_toArray, List.set_cons_zero, List.set_cons_succ, i64_w, i32_w]; rfl)
                refine pure_ (i := 3) (N := some 107) (v := ?_) (a' := ?_) (bA 15 15) rfl rfl (any_of HT_.out (by kernel_rfl)) (fun _ _ _ h => h) (Or.inl ⟨by rfl, ?_⟩) ?_ ?_; rotate_left
                · (intro w'; go_simp; with_reducible rfl)
                rotate_left
                · (simp only [Act.put, List.setIfInBounds_toArray, List.set_cons_zero, List.set_cons_succ, i64_w, i32_w]; rfl)
                refine pure_ (i := 5) (N := some 109) (v := ?_) (a' := ?_) (bA 15 47) rfl rfl (any_of HT_.out (by kernel_rfl)) (fun _ _ _ h => h) (Or.inl ⟨by rfl, ?_⟩) ?_ ?_; rotate_left
                · (intro w'; go_simp; with_reducible rfl)
                rotate_left
                · (simp only [Act.put, List.setIfInBounds_toArray, List.set_cons_zero, List.set_cons_succ, i64_w, i32_w]; rfl)
                refine pure_ (i := 6) (N := some 110) (v := ?_) (a' := ?_) (bA 15 111) rfl rfl (any_of HT_.out (by kernel_rfl)) (fun _ _ _ h => h) (Or.inl ⟨by rfl, ?_⟩) ?_ ?_; rotate_left
                · (intro w'; go_simp; with_reducible rfl)
                rotate_left
                · (simp only [Act.put, List.setIfInBounds_toArray, List.set_cons_zero, List.set_cons_succ, i64_w, i32_w]; rfl)
                refine pure_ (i := 7) (N := some 111) (v := ?_) (a' := ?_) (bA 15 239) rfl rfl (any_of HT_.out (by kernel_rfl)) (fun _ _ _ h => h) (Or.inl ⟨by rfl, ?_⟩) ?_ ?_; rotate_left
                · (intro w'; go_simp; with_reducible rfl)
                rotate_left
                · (simp only [Act.put, List.setIfInBounds_toArray, List.set_cons_zero, List.set_cons_succ, i64_w, i32_w]; rfl)
                refine pure_ (i := 8) (N := some 112) (v := ?_) (a' := ?_) (bA 15 495) rfl rfl (any_of HT_.out (by kernel_rfl)) (fun _ _ _ h => h) (Or.inl ⟨by rfl, ?_⟩) ?_ ?_; rotate_left
                · (intro w'; go_simp; with_reducible rfl)
                rotate_left
                · (simp only [Act.put, List.setIfInBounds_toArray, List.set_cons_zero, List.set_cons_succ, i64_w, i32_w]; rfl)
                refine take_ (i := 4) (N := some 108) (v := ?_) (a' := ?_) (bA 15 511) rfl rfl (take_ofW HT_.out HW_.out (by kernel_rfl)) (fun _ _ _ h => h) (Or.inl ⟨by rfl, ?_⟩) hHeld ?_ ?_; rotate_left
                · (rintro w' ⟨s0, s1⟩; go_simp; with_reducible rfl)
                rotate_left
                · (simp only [Act.put, List.setIfInBounds_toArray, List.set_cons_zero, List.set_cons_succ, i64_w, i32_w]; rfl)
                refine take_ (i := 9) (N := some 113) (v := ?_) (a' := ?_) (bA 15 1023) rfl rfl (take_ofW HT_.out HW_.out (by kernel_rfl)) (fun _ _ _ h => h) (Or.inl ⟨by rfl, ?_⟩) hHeld ?_ ?_; rotate_left
                · (rintro w' ⟨s0, s1⟩; go_simp; with_reducible rfl)
                rotate_left
                · (simp only [Act.put, List.setIfInBounds_toArray, List.set_cons_zero, List.set_cons_succ, i64_w, i32_w]; rfl)
                refine pure_ (i := 10) (N := some 114) (v := ?_) (a' := ?_) (bA 15 2047) rfl rfl (any_of HT_.out (by kernel_rfl)) (fun _ _ _ h => h) (Or.inl ⟨by rfl, ?_⟩) ?_ ?_; rotate_left
                · (intro w'; go_simp; with_reducible rfl)
                rotate_left
                · (simp only [Act.put, List.setIfInBounds_toArray, List.set_cons_zero, List.set_cons_succ, i64_w, i32_w]; rfl)
                refine pure_ (i := 11) (N := some 115) (v := ?_) (a' := ?_) (bA 15 4095) rfl rfl (any_of HT_.out (by kernel_rfl)) (fun _ _ _ h => h) (Or.inl ⟨by rfl, ?_⟩) ?_ ?_; rotate_left
                · (intro w'; go_simp; with_reducible rfl)
                rotate_left
                · (simp only [Act.put, List.setIfInBounds_toArray, List.set_cons_zero, List.set_cons_succ, i64_w, i32_w]; rfl)
                refine last_ (i := 12) (N := some 116) (bA 15 8191) rfl rfl (one_of HT_.out (by kernel_rfl)) (by decide) (fun K hK => ?_); refine value_ (w1 := ?_) (v := ?_) (by rfl) rfl ?_ ?_; rotate_left 2
                · (go_simp; constructor <;> rfl)
                refine hK.out _ _ ?_; clear hK K; refine norm_ (a' := ?_) ?_ ?_; rotate_left
                · (show Act.put _ (some 116) _ = _; simp only [Act.put, List.setIfInBounds_toArray, List.set_cons_zero, List.set_cons_succ, i64_w, i32_w]; rfl)
                refine last_ (i := 13) (N := some 117) (bA 15 16383) rfl rfl (one_of HT_.out (by kernel_rfl)) (by decide) (fun K hK => ?_); refine Kd.R_append_step k63 (w0 := w3) w3.heap.size (by rfl) (.tmp 104) (.tmp 116) 57 63 (.agg #[.int .i64 0, .int .i64 0]) 16 rfl Tryz.underlying57 info63_ rfl (by decide) (by omega) u8 O (⟨a, b - 1⟩ : Pc) [.int .i64 a, .int .i64 (b - 1)] (fun _ => True) (fun _ => False) rfl rfl ?aP (fun _ hk => hk.elim) (fun _ _ => trivial) ?aO ?aB ?aS ?aL ?_
                (case aP => exact k63_mkM _ _ _ (⟨a, b - 1⟩ : Pc))
                (case aO => exact rl HO.out)
                (case aB => exact bw)
                (case aS => exact bz)
                (case aL => have := HOL.out; omega)
                intro v10 w10 ho hb hg hat; have HR10 := Aside0.mk ho; have HB10 : BelC w3 w10 := ⟨hb⟩; clear ho hb hg hat; refine hK.out _ _ ?_; clear hK K; refine norm_ (a' := ?_) ?_ ?_; rotate_left
                · (show Act.put _ (some 117) _ = _; simp only [Act.put, List.setIfInBounds_toArray, List.set_cons_zero, List.set_cons_succ, i64_w, i32_w]; rfl)
                refine pure_ (i := 14) (N := some 8) (v := ?_) (a' := ?_) (bA 15 32767) rfl rfl (any_of HT_.out (by kernel_rfl)) (fun _ _ _ h => h) (Or.inl ⟨by rfl, ?_⟩) ?_ ?_; rotate_left
                · (intro w'; go_simp; with_reducible rfl)
                rotate_left
                · (simp only [Act.put, List.setIfInBounds_toArray, List.set_cons_zero, List.set_cons_succ, i64_w, i32_w]; rfl)
                refine done_ (done_of HT_.out (by kernel_rfl)) ?_
                go_wp2
                exact ⟨⟨i1, O ++ [⟨a, b - 1⟩], rfl, ⟨by have := HI1.out; have := HLT.out; omega, by have := HI1.out; have := HE.out; simp; omega, by rw [← HE.out.2.2, HST.out]; simp [toP]⟩, HR10, inferInstance⟩, measLo (n := C.length) (lo := i) (s := 1) (by have := HI1.out; have := HLT.out; omega) (Nat.le_refl _) (by rw [HI1.out])⟩
              · rw [if_neg hu] at hstep
                have HST := Aside0.mk hstep; have hu2 := fun h => hu ((isU_iff a).2 h)
                have hbn : bandOf a = -1 := by
                  have := bandOf_cases a; unfold isU at hu; simp only [decide_eq_true_eq] at hu; omega
                clear hstep hu hu2
                have hF : (decide (0 ≤ a) = true ∧ decide (a ≤ 1114367) = true ∧ IntKind.i32.wrap a = a ∧ decide (0 ≤ bandOf a) = false ∧ Aside0 (thistleref02_block.f 4 a = some (bandOf a))) ∨ (decide (0 ≤ a) = true ∧ decide (a ≤ 1114367) = false) ∨ decide (0 ≤ a) = false := by
                  by_cases h1 : 0 ≤ a
                  · by_cases h2 : a ≤ 1114367
                    (· exact .inl ⟨decide_eq_true h1, decide_eq_true h2, (i32_w _).trans (w32 (by unfold I32; omega)), decide_eq_false (by omega), ⟨block_is a (by unfold I32; omega)⟩⟩); (· exact .inr (.inl ⟨decide_eq_true h1, decide_eq_false h2⟩))
                  · exact .inr (.inr (decide_eq_false h1))
                rcases hF with ⟨e1, e2, haw, e3, HBK⟩ | ⟨e1, e2⟩ | e1
                all_goals
                  clear sa sb hbn; obtain ⟨hx0, hx1⟩ := hxr
                  go_wp2_with (go_at_call 46; (refine (thistleref02_block.calls 4 a (bandOf a) _ HBK.out).mono ?_); rintro e w9 ⟨rfl, hb⟩; have HB9 : BelC wr w9 := ⟨hb⟩; have HB39 : BelC w3 w9 := bs hb; have hx := HXX.out w9 HB39; clear hb hx0 hx1; obtain ⟨hx0, hx1⟩ := hx)
                  exact ⟨⟨i1, O, rfl, ⟨by have := HI1.out; have := HLT.out; omega, by have := HI1.out; have := HE.out; omega, by rw [← HE.out.2.2, HST.out]⟩, ⟨rl HO.out⟩, inferInstance⟩, measLo (n := C.length) (lo := i) (s := 1) (by have := HI1.out; have := HLT.out; omega) (Nat.le_refl _) (by rw [HI1.out])⟩
            · have d1 : decide (i1 < C.length) = false := decide_eq_false hlt
              have HEN := Aside0.mk (pcs_end (C := C) (i := i) (by omega)); clear hlt hlb hi1
              go_wp2
              go_ret; refine ⟨_, C, by first | rfl | simp, ?_, H5.out.1, H5.out.2.1, by have := H5.out.2.2.1; omega, below_step HB3.out HB.out⟩; have h := HE.out.2.2; rw [HEN.out, List.map_nil, List.append_nil] at h; rw [← h]; exact Kd.R_lower HO.out HB3.out.size
end Go.Proofs.YtoggmegpodmfnaaGreatDoor.Q
namespace Go.Proofs.YtoggmegpodmfnaaGreatDoor.Q
open Go.RowKit Go.Proofs.YtoggmegpodmfnaaGreatDoorW.PrintWords Go.Proofs.YtoggmegpodmfnaaGreatDoorW.PrintLast Go.Proofs.YtoggmegpodmfnaaGreatDoorW.PrintMore Go.Proofs.YtoggmegpodmfnaaGreatDoor.PS Go.Proofs.YtoggmegpodmfnaaGreatDoor.B
set_option linter.unusedVariables false
set_option linter.unusedSimpArgs false
theorem snd_last {a : List Rg} {x r : Rg} (h : Sound (a ++ [x])) : (∀ y ∈ a ++ [x], y.f1 + 1 < r.f0) ↔ x.f1 + 1 < r.f0 := by
  constructor; (· exact fun h => h x (by simp))
  · intro hx y hy
    rcases List.mem_append.1 hy with hy | hy
    (· have h1 := ((sound_snoc a x).1 h).2.2 y hy; have h2 := ((sound_snoc a x).1 h).2.1.2.2; omega); (· rw [List.mem_singleton] at hy; subst hy; exact hx)
theorem snd_take {l : List Rg} {i : Nat} (h : ¬ Sound (l.take i)) : ¬ Sound l := fun hs => h ⟨fun r hr => hs.1 r (List.mem_of_mem_take hr), hs.2.sublist (List.take_sublist _ _)⟩
theorem snd_step0 {l : List Rg} {x : Rg} (hx : l[0]? = some x) : Sound (l.take 1) ↔ okR x := by
  rw [List.take_add_one, hx, List.take_zero]; exact ⟨fun h => h.1 x (by simp), fun h => ⟨by simpa using h, by simp⟩⟩
theorem snd_step {l : List Rg} {j : Nat} {x y : Rg} (hy : l[j]? = some y) (hx : l[j + 1]? = some x) (h : Sound (l.take (j + 1))) : Sound (l.take (j + 1 + 1)) ↔ okR x ∧ y.f1 + 1 < x.f0 := by
  have e1 : l.take (j + 1) = l.take j ++ [y] := by rw [List.take_add_one, hy]; rfl
  rw [List.take_add_one, hx]; show Sound (l.take (j + 1) ++ [x]) ↔ _; rw [sound_snoc]; constructor; (· rintro ⟨_, h1, h2⟩; exact ⟨h1, h2 y (by rw [e1]; simp)⟩); (· rintro ⟨h1, h2⟩; refine ⟨h, h1, ?_⟩; rw [e1] at h ⊢; exact (snd_last h).2 h2)
def c5_T : Bool × List (List Nat × List Nat) := (true, [([], []), ([0], [0]), ([1], [1]), ([2], [2]), ([2], [2]), ([2], [2]), ([4, 5, 2], [2, 4, 5]), ([6, 2], [2, 6]), ([7, 2], [2, 7]), ([8, 2, 2], [2, 8]), ([3, 9, 2], [2, 3, 9]), ([2, 10], [2, 10]), ([11, 9], [11]), ([12], [12]), ([12], [12]), ([13, 14, 12], [12, 13, 14]), ([15, 12], [12, 15]), ([16, 12], [12, 16]), ([12], [12]), ([12], [12]), ([18, 19, 12], [12, 18, 19]), ([20, 12], [12, 20]), ([21, 12], [12, 21]), ([17, 22, 12], [12, 17, 22]), ([12, 23], [12, 23])])
def c5_B : List Nat := [0, 1, 3, 7, 7, 7, 55, 119, 247, 503, 1023, 2047, 4095, 8191, 8191, 32767, 65535, 131071, 8191, 8191, 794623, 1843199, 3940351, 8388607, 16777215]
theorem c5_tab : rtab .any (opsOf Tryz.f13 5) = c5_T := by kernel_rfl
theorem c5_bits : waitsOk c5_T.2 c5_B = true := by kernel_rfl
set_option maxHeartbeats 8000000 in
set_option maxRecDepth 100000 in
theorem refCheck_run (A0 : Option Addr) (c0 : Nat) (l : List Rg) (w : World) (hl : l.length ≤ 67108864) (hr : ∀ r ∈ l, R32 r) (hr0 : Kd.C k41 w A0 l.length l) :
    Calls Tryz.prog 13 #[.slice A0 l.length c0] w fun e w' => e = .returned (.int .i64 (if Sound l then 0 else 1)) ∧ Below w.heap.size w w' := by
  obtain ⟨rr, hrr⟩ : ∃ r : Int, r = if Sound l then 0 else 1 := ⟨_, rfl⟩; rw [← hrr]; have HRR := Aside0.mk hrr; clear hrr; have HR0 := Aside0.mk hr0; have HL := Aside0.mk hl; have HR := Aside0.mk hr; clear hr0 hl hr; go_enter Tryz.func13, Tryz.ntmps13
  go_wp2
  go_loopw [3] (fun v3 wr => ∃ i : Nat, v3 = .int .i64 (i : Int) ∧ Aside0 (i ≤ l.length ∧ Sound (l.take i)) ∧ BelC w wr) (fun v3 _ => l.length - (intOf v3).toNat)
  case atStart => exact ⟨0, rfl, ⟨Nat.zero_le _, by simp, by simp⟩, inferInstance⟩
  case round =>
    obtain ⟨i, rfl, HI, HB⟩ := hrel; have hlb := HL.out
    by_cases hlt : i < l.length
    · have d1 : decide (i < l.length) = true := decide_eq_true hlt
      obtain ⟨x, hx⟩ : ∃ x, l[i]? = some x := ⟨_, List.getElem?_eq_getElem hlt⟩; obtain ⟨a1, e1, h0, h1⟩ := at_T41 HR0.out (i : Int) (Int.natCast_nonneg i) (by omega); subst e1
      have hrd : rd_T41 l (i : Int) = x := by unfold rd_T41; rw [Int.toNat_natCast, List.getD_eq_getElem?_getD, hx]; rfl
      rw [hrd, Int.toNat_natCast] at h0 h1; have HC := Aside0.mk (fun (W : World) (hW : BelC w W) => And.intro ((hW.out.cell (World.block_lt_of_cell? w _ h0)).trans h0) ((hW.out.cell (World.block_lt_of_cell? w _ h1)).trans h1) : ∀ W : World, BelC w W → W.cell? (a1.add (i * 2)) = some (.int .i32 x.f0) ∧ W.cell? ⟨(a1.add (i * 2)).block, (a1.add (i * 2)).off + 1, none⟩ = some (.int .i32 x.f1)); have hxr := HR.out x (List.mem_of_getElem? hx); have hx0 := (HC.out wr HB).1; have p1 := eq_true (Int.natCast_nonneg i); have q1 := eq_true (show (i : Int) < (l.length : Int) by omega); have HLT := Aside0.mk hlt; have HX := Aside0.mk hx; have HXR := Aside0.mk hxr; have hww := w64 (x := (i : Int) + 1) (m := i + 1) (by omega) (by omega); have HWW := Aside0.mk hww; have HB0 := Aside0.mk (block_is x.f0 hxr.1); have HB1 := Aside0.mk (block_is x.f1 hxr.2); clear h0 h1 hrd hx hxr hww hlt hlb
      go_wp2_with (go_at_call 46; (refine (thistleref02_block.calls 4 x.f0 (bandOf x.f0) _ HB0.out).mono ?_); rintro e w5 ⟨rfl, hb⟩; have HB5 : BelC w w5 := bs hb; have hy := HC.out w5 HB5; clear hb hx0)
      by_cases hA : bandOf x.f0 < 0
      · have e1 : decide (bandOf x.f0 < 0) = true := decide_eq_true hA
        have HN := Aside0.mk (show ¬ Sound l from snd_take (i := i + 1) (fun h => by
          have := (h.1 x (List.mem_of_getElem? (i := i) (by rw [List.getElem?_take, if_pos (by omega)]; exact HX.out))).1
          omega))
        clear hA
        repeat (go_quiet (fail); try go_wp2)
        go_ret; exact ⟨by rw [HRR.out, if_neg HN.out]; first | rfl | simp, bw⟩
      · have e1 : decide (bandOf x.f0 < 0) = false := decide_eq_false hA
        by_cases hok : okR x
        · have e2 : (bandOf x.f0 != bandOf x.f1) = false := by rw [hok.2.1]; simp
          have e3 : decide (x.f1 < x.f0) = false := decide_eq_false (by have := hok.2.2; omega); have HOK := Aside0.mk hok; clear hA hok; refine start_ (n := 25) (S := fun w' => w'.cell? (a1.add (i * 2)) = some (.int .i32 x.f0) ∧ w'.cell? ⟨(a1.add (i * 2)).block, (a1.add (i * 2)).off + 1, none⟩ = some (.int .i32 x.f1)) (ds := []) (bA 25 0) (by kernel_rfl) rfl rfl hy (fun hHeld => ?_); refine with_tabW c5_tab c5_bits (fun HT_ HW_ => ?_); refine pure_ (i := 0) (N := some 17) (v := ?_) (a' := ?_) (bA 25 1) rfl rfl (any_of HT_.out (by kernel_rfl)) (fun _ _ _ h => h) (Or.inl ⟨by rfl, ?_⟩) ?_ ?_; rotate_left
          · (intro w'; go_simp; with_reducible rfl)
          rotate_left
          · (simp only [Act.put, List.setIfInBounds_toArray, List.set_cons_zero, List.set_cons_succ, i64_w, i32_w]; rfl)
          refine pure_ (i := 1) (N := some 18) (v := ?_) (a' := ?_) (bA 25 3) rfl rfl (any_of HT_.out (by kernel_rfl)) (fun _ _ _ h => h) (Or.inl ⟨by rfl, ?_⟩) ?_ ?_; rotate_left
          · (intro w'; go_simp; with_reducible rfl)
          rotate_left
          · (simp only [Act.put, List.setIfInBounds_toArray, List.set_cons_zero, List.set_cons_succ, i64_w, i32_w]; rfl)
          refine pure_ (i := 2) (N := some 19) (v := ?_) (a' := ?_) (bA 25 7) rfl rfl (any_of HT_.out (by kernel_rfl)) (fun _ _ _ h => h) (Or.inl ⟨by rfl, ?_⟩) ?_ ?_; rotate_left
          · (intro w'; go_simp; with_reducible rfl)
          rotate_left
          · (simp only [Act.put, List.setIfInBounds_toArray, List.set_cons_zero, List.set_cons_succ, i64_w, i32_w]; rfl)
          refine pure_ (i := 3) (N := some 20) (v := ?_) (a' := ?_) (bA 25 15) rfl rfl (any_of HT_.out (by kernel_rfl)) (fun _ _ _ h => h) (Or.inl ⟨by rfl, ?_⟩) ?_ ?_; rotate_left
          · (intro w'; go_simp; with_reducible rfl)
          rotate_left
          · (simp only [Act.put, List.setIfInBounds_toArray, List.set_cons_zero, List.set_cons_succ, i64_w, i32_w]; rfl)
          refine pure_ (i := 4) (N := some 21) (v := ?_) (a' := ?_) (bA 25 31) rfl rfl (any_of HT_.out (by kernel_rfl)) (fun _ _ _ h => h) (Or.inl ⟨by rfl, ?_⟩) ?_ ?_; rotate_left
          · (intro w'; go_simp; with_reducible rfl)
          rotate_left
          · (simp only [Act.put, List.setIfInBounds_toArray, List.set_cons_zero, List.set_cons_succ, i64_w, i32_w]; rfl)
          refine pure_ (i := 5) (N := some 22) (v := ?_) (a' := ?_) (bA 25 63) rfl rfl (any_of HT_.out (by kernel_rfl)) (fun _ _ _ h => h) (Or.inl ⟨by rfl, ?_⟩) ?_ ?_; rotate_left
          · (intro w'; go_simp; with_reducible rfl)
          rotate_left
          · (simp only [Act.put, List.setIfInBounds_toArray, List.set_cons_zero, List.set_cons_succ, i64_w, i32_w]; rfl)
          refine pure_ (i := 6) (N := some 23) (v := ?_) (a' := ?_) (bA 25 127) rfl rfl (any_of HT_.out (by kernel_rfl)) (fun _ _ _ h => h) (Or.inl ⟨by rfl, ?_⟩) ?_ ?_; rotate_left
          · (intro w'; go_simp; with_reducible rfl)
          rotate_left
          · (simp only [Act.put, List.setIfInBounds_toArray, List.set_cons_zero, List.set_cons_succ, i64_w, i32_w]; rfl)
          refine pure_ (i := 7) (N := some 24) (v := ?_) (a' := ?_) (bA 25 255) rfl rfl (any_of HT_.out (by kernel_rfl)) (fun _ _ _ h => h) (Or.inl ⟨by rfl, ?_⟩) ?_ ?_; rotate_left
          · (intro w'; go_simp; with_reducible rfl)
          rotate_left
          · (simp only [Act.put, List.setIfInBounds_toArray, List.set_cons_zero, List.set_cons_succ, i64_w, i32_w]; rfl)
          refine take_ (i := 8) (N := some 25) (v := ?_) (a' := ?_) (bA 25 511) rfl rfl (take_ofW HT_.out HW_.out (by kernel_rfl)) (fun _ _ _ h => h) (Or.inl ⟨by rfl, ?_⟩) hHeld ?_ ?_; rotate_left
          · (rintro w' ⟨s0, s1⟩; go_simp; with_reducible rfl)
          rotate_left
          · (simp only [Act.put, List.setIfInBounds_toArray, List.set_cons_zero, List.set_cons_succ, i64_w, i32_w]; rfl)
          refine one_ (i := 9) (N := some 26) (bA 25 1023) rfl rfl (one_of HT_.out (by kernel_rfl)) (by decide) (fun K hK => ?_); refine goes_ Tryz.func46 (by kernel_rfl) rfl #[.int .i32 x.f1] (by rfl) rfl rfl (by (try simp only [List.map_toArray, List.map_cons, List.map_nil]); first | done | rfl) ?_; refine (thistleref02_block.calls 4 x.f1 (bandOf x.f1) _ HB1.out).mono ?_; rintro e w7 ⟨rfl, hb⟩; refine ⟨_, rfl, ?_⟩; have HB7 : BelC w w7 := ⟨below_step (below_drew1 HB5.out) hb⟩; refine hK.out _ _ (HC.out w7 HB7) (fun hHeld => ?_); clear hK K; refine norm_ (a' := ?_) ?_ ?_; rotate_left
          · (show Act.put _ (some 26) _ = _; simp only [Act.put, List.setIfInBounds_toArray, List.set_cons_zero, List.set_cons_succ, i64_w, i32_w]; rfl)
          refine pure_ (i := 10) (N := some 27) (v := ?_) (a' := ?_) (bA 25 2047) rfl rfl (any_of HT_.out (by kernel_rfl)) (fun _ _ _ h => h) (Or.inl ⟨by rfl, ?_⟩) ?_ ?_; rotate_left
          · (intro w'; go_simp; with_reducible rfl)
          rotate_left
          · (simp only [Act.put, List.setIfInBounds_toArray, List.set_cons_zero, List.set_cons_succ, i64_w, i32_w]; rfl)
          refine pure_ (i := 11) (N := some 28) (v := ?_) (a' := ?_) (bA 25 4095) rfl rfl (any_of HT_.out (by kernel_rfl)) (fun _ _ _ h => h) (Or.inl ⟨by rfl, ?_⟩) ?_ ?_; rotate_left
          · (intro w'; go_simp; with_reducible rfl)
          rotate_left
          · (simp only [Act.put, List.setIfInBounds_toArray, List.set_cons_zero, List.set_cons_succ, i64_w, i32_w]; rfl)
          refine pure_ (i := 12) (N := some 29) (v := ?_) (a' := ?_) (bA 25 8191) rfl rfl (any_of HT_.out (by kernel_rfl)) (fun _ _ _ h => h) (Or.inl ⟨by rfl, ?_⟩) ?_ ?_; rotate_left
          · (intro w'; go_simp; with_reducible rfl)
          rotate_left
          · (simp only [Act.put, List.setIfInBounds_toArray, List.set_cons_zero, List.set_cons_succ, i64_w, i32_w]; rfl)
          refine pure_ (i := 13) (N := some 30) (v := ?_) (a' := ?_) (bA 25 16383) rfl rfl (any_of HT_.out (by kernel_rfl)) (fun _ _ _ h => h) (Or.inl ⟨by rfl, ?_⟩) ?_ ?_; rotate_left
          · (intro w'; go_simp; with_reducible rfl)
          rotate_left
          · (simp only [Act.put, List.setIfInBounds_toArray, List.set_cons_zero, List.set_cons_succ, i64_w, i32_w]; rfl)
          refine pure_ (i := 14) (N := some 31) (v := ?_) (a' := ?_) (bA 25 32767) rfl rfl (any_of HT_.out (by kernel_rfl)) (fun _ _ _ h => h) (Or.inl ⟨by rfl, ?_⟩) ?_ ?_; rotate_left
          · (intro w'; go_simp; with_reducible rfl)
          rotate_left
          · (simp only [Act.put, List.setIfInBounds_toArray, List.set_cons_zero, List.set_cons_succ, i64_w, i32_w]; rfl)
          refine pure_ (i := 15) (N := some 32) (v := ?_) (a' := ?_) (bA 25 65535) rfl rfl (any_of HT_.out (by kernel_rfl)) (fun _ _ _ h => h) (Or.inl ⟨by rfl, ?_⟩) ?_ ?_; rotate_left
          · (intro w'; go_simp; with_reducible rfl)
          rotate_left
          · (simp only [Act.put, List.setIfInBounds_toArray, List.set_cons_zero, List.set_cons_succ, i64_w, i32_w]; rfl)
          refine pure_ (i := 16) (N := some 33) (v := ?_) (a' := ?_) (bA 25 131071) rfl rfl (any_of HT_.out (by kernel_rfl)) (fun _ _ _ h => h) (Or.inl ⟨by rfl, ?_⟩) ?_ ?_; rotate_left
          · (intro w'; go_simp; with_reducible rfl)
          rotate_left
          · (simp only [Act.put, List.setIfInBounds_toArray, List.set_cons_zero, List.set_cons_succ, i64_w, i32_w]; rfl)
          refine take_ (i := 17) (N := some 34) (v := ?_) (a' := ?_) (bA 25 262143) rfl rfl (take_ofW HT_.out HW_.out (by kernel_rfl)) (fun _ _ _ h => h) (Or.inl ⟨by rfl, ?_⟩) hHeld ?_ ?_; rotate_left
          · (rintro w' ⟨s0, s1⟩; go_simp; with_reducible rfl)
          rotate_left
          · (simp only [Act.put, List.setIfInBounds_toArray, List.set_cons_zero, List.set_cons_succ, i64_w, i32_w]; rfl)
          refine pure_ (i := 18) (N := some 35) (v := ?_) (a' := ?_) (bA 25 524287) rfl rfl (any_of HT_.out (by kernel_rfl)) (fun _ _ _ h => h) (Or.inl ⟨by rfl, ?_⟩) ?_ ?_; rotate_left
          · (intro w'; go_simp; with_reducible rfl)
          rotate_left
          · (simp only [Act.put, List.setIfInBounds_toArray, List.set_cons_zero, List.set_cons_succ, i64_w, i32_w]; rfl)
          refine pure_ (i := 19) (N := some 36) (v := ?_) (a' := ?_) (bA 25 1048575) rfl rfl (any_of HT_.out (by kernel_rfl)) (fun _ _ _ h => h) (Or.inl ⟨by rfl, ?_⟩) ?_ ?_; rotate_left
          · (intro w'; go_simp; with_reducible rfl)
          rotate_left
          · (simp only [Act.put, List.setIfInBounds_toArray, List.set_cons_zero, List.set_cons_succ, i64_w, i32_w]; rfl)
          refine pure_ (i := 20) (N := some 37) (v := ?_) (a' := ?_) (bA 25 2097151) rfl rfl (any_of HT_.out (by kernel_rfl)) (fun _ _ _ h => h) (Or.inl ⟨by rfl, ?_⟩) ?_ ?_; rotate_left
          · (intro w'; go_simp; with_reducible rfl)
          rotate_left
          · (simp only [Act.put, List.setIfInBounds_toArray, List.set_cons_zero, List.set_cons_succ, i64_w, i32_w]; rfl)
          refine pure_ (i := 21) (N := some 38) (v := ?_) (a' := ?_) (bA 25 4194303) rfl rfl (any_of HT_.out (by kernel_rfl)) (fun _ _ _ h => h) (Or.inl ⟨by rfl, ?_⟩) ?_ ?_; rotate_left
          · (intro w'; go_simp; with_reducible rfl)
          rotate_left
          · (simp only [Act.put, List.setIfInBounds_toArray, List.set_cons_zero, List.set_cons_succ, i64_w, i32_w]; rfl)
          refine take_ (i := 22) (N := some 39) (v := ?_) (a' := ?_) (bA 25 8388607) rfl rfl (take_ofW HT_.out HW_.out (by kernel_rfl)) (fun _ _ _ h => h) (Or.inl ⟨by rfl, ?_⟩) hHeld ?_ ?_; rotate_left
          · (rintro w' ⟨s0, s1⟩; go_simp; with_reducible rfl)
          rotate_left
          · (simp only [Act.put, List.setIfInBounds_toArray, List.set_cons_zero, List.set_cons_succ, i64_w, i32_w]; rfl)
          refine pure_ (i := 23) (N := some 40) (v := ?_) (a' := ?_) (bA 25 16777215) rfl rfl (any_of HT_.out (by kernel_rfl)) (fun _ _ _ h => h) (Or.inl ⟨by rfl, ?_⟩) ?_ ?_; rotate_left
          · (intro w'; go_simp; with_reducible rfl)
          rotate_left
          · (simp only [Act.put, List.setIfInBounds_toArray, List.set_cons_zero, List.set_cons_succ, i64_w, i32_w]; rfl)
          refine pure_ (i := 24) (N := some 41) (v := ?_) (a' := ?_) (bA 25 33554431) rfl rfl (any_of HT_.out (by kernel_rfl)) (fun _ _ _ h => h) (Or.inl ⟨by rfl, ?_⟩) ?_ ?_; rotate_left
          · (intro w'; go_simp; with_reducible rfl)
          rotate_left
          · (simp only [Act.put, List.setIfInBounds_toArray, List.set_cons_zero, List.set_cons_succ, i64_w, i32_w]; rfl)
          refine done_ (done_of HT_.out (by kernel_rfl)) ?_
          go_wp2
          have hz := HC.out w7 HB7
          by_cases h0 : i = 0
          · have e4 : decide (0 < i) = false := decide_eq_false (by omega)
            have HS1 := Aside0.mk (show Sound (l.take (i + 1)) by subst h0; exact (snd_step0 HX.out).2 HOK.out); clear h0
            repeat (go_quiet (fail); try go_wp2)
            go_roundw
            case rel => exact ⟨i + 1, by rw [HWW.out], ⟨HLT.out, HS1.out⟩, inferInstance⟩
            case measure => rw [HWW.out]; exact measLo HLT.out (s := 1) (Nat.le_refl _) rfl
          · have e4 : decide (0 < i) = true := decide_eq_true (by omega)
            obtain ⟨j, hij⟩ : ∃ j, i = j + 1 := ⟨i - 1, by omega⟩; have hjw : IntKind.i64.wrap ((i : Int) - 1) = (j : Int) := (i64_w _).trans (w64 (by omega) (by have := HLT.out; have := HL.out; omega)); obtain ⟨y, hyj⟩ : ∃ y, l[j]? = some y := ⟨_, List.getElem?_eq_getElem (by have := HLT.out; omega)⟩; obtain ⟨a2, e5, g0, g1⟩ := at_T41 (cl HR0.out : Kd.C k41 w7 (some a1) l.length l) (j : Int) (Int.natCast_nonneg j) (by have := HLT.out; omega)
            cases e5
            have hrj : rd_T41 l (j : Int) = y := by unfold rd_T41; rw [Int.toNat_natCast, List.getD_eq_getElem?_getD, hyj]; rfl
            rw [hrj, Int.toNat_natCast] at g0 g1; have hyr := HR.out y (List.mem_of_getElem? hyj); have y1w : IntKind.i64.wrap y.f1 = y.f1 := (i64_w _).trans (w64i (by have := hyr.2; unfold I32 at this; omega)); have y2w : IntKind.i64.wrap (y.f1 + 1) = y.f1 + 1 := (i64_w _).trans (w64i (by have := hyr.2; unfold I32 at this; omega)); have x0w : IntKind.i64.wrap x.f0 = x.f0 := (i64_w _).trans (w64i (by have := HXR.out.1; unfold I32 at this; omega)); have pj := eq_true (Int.natCast_nonneg j); have qj := eq_true (show (j : Int) < (l.length : Int) by have := HLT.out; omega)
            have HST := Aside0.mk (show Sound (l.take (i + 1)) ↔ okR x ∧ y.f1 + 1 < x.f0 by
              have hs := HI.out.2; have hx := HX.out; subst hij
              exact snd_step hyj hx hs)
            clear h0 hij hyj hrj hyr
            by_cases hle : x.f0 ≤ y.f1 + 1
            · have e6 : decide (x.f0 ≤ y.f1 + 1) = true := decide_eq_true hle
              have HN := Aside0.mk (show ¬ Sound l from snd_take (i := i + 1) (fun h => by have := (HST.out.1 h).2; omega)); clear hle
              repeat (go_quiet (fail); try go_wp2)
              go_ret; exact ⟨by rw [HRR.out, if_neg HN.out]; first | rfl | simp, bw⟩
            · have e6 : decide (x.f0 ≤ y.f1 + 1) = false := decide_eq_false hle
              have HS1 := Aside0.mk (show Sound (l.take (i + 1)) from HST.out.2 ⟨HOK.out, by omega⟩); clear hle
              repeat (go_quiet (fail); try go_wp2)
              go_roundw
              case rel => exact ⟨i + 1, by rw [HWW.out], ⟨HLT.out, HS1.out⟩, inferInstance⟩
              case measure => rw [HWW.out]; exact measLo HLT.out (s := 1) (Nat.le_refl _) rfl
        · have HN := Aside0.mk (show ¬ Sound l from snd_take (i := i + 1) (fun h => hok (h.1 x (List.mem_of_getElem? (i := i) (by rw [List.getElem?_take, if_pos (by omega)]; exact HX.out)))))
          by_cases h1 : bandOf x.f0 = bandOf x.f1
          · have e2 : (bandOf x.f0 != bandOf x.f1) = false := by rw [h1]; simp
            have e3 : decide (x.f1 < x.f0) = true := decide_eq_true (by unfold okR at hok; omega); clear hA hok h1; refine start_ (n := 25) (S := fun w' => w'.cell? (a1.add (i * 2)) = some (.int .i32 x.f0) ∧ w'.cell? ⟨(a1.add (i * 2)).block, (a1.add (i * 2)).off + 1, none⟩ = some (.int .i32 x.f1)) (ds := []) (bA 25 0) (by kernel_rfl) rfl rfl hy (fun hHeld => ?_); refine with_tabW c5_tab c5_bits (fun HT_ HW_ => ?_); refine pure_ (i := 0) (N := some 17) (v := ?_) (a' := ?_) (bA 25 1) rfl rfl (any_of HT_.out (by kernel_rfl)) (fun _ _ _ h => h) (Or.inl ⟨by rfl, ?_⟩) ?_ ?_; rotate_left
            · (intro w'; go_simp; with_reducible rfl)
            rotate_left
            · (simp only [Act.put, List.setIfInBounds_toArray, List.set_cons_zero, List.set_cons_succ, i64_w, i32_w]; rfl)
            refine pure_ (i := 1) (N := some 18) (v := ?_) (a' := ?_) (bA 25 3) rfl rfl (any_of HT_.out (by kernel_rfl)) (fun _ _ _ h => h) (Or.inl ⟨by rfl, ?_⟩) ?_ ?_; rotate_left
            · (intro w'; go_simp; with_reducible rfl)
            rotate_left
            · (simp only [Act.put, List.setIfInBounds_toArray, List.set_cons_zero, List.set_cons_succ, i64_w, i32_w]; rfl)
            refine pure_ (i := 2) (N := some 19) (v := ?_) (a' := ?_) (bA 25 7) rfl rfl (any_of HT_.out (by kernel_rfl)) (fun _ _ _ h => h) (Or.inl ⟨by rfl, ?_⟩) ?_ ?_; rotate_left
            · (intro w'; go_simp; with_reducible rfl)
            rotate_left
            · (simp only [Act.put, List.setIfInBounds_toArray, List.set_cons_zero, List.set_cons_succ, i64_w, i32_w]; rfl)
            refine pure_ (i := 3) (N := some 20) (v := ?_) (a' := ?_) (bA 25 15) rfl rfl (any_of HT_.out (by kernel_rfl)) (fun _ _ _ h => h) (Or.inl ⟨by rfl, ?_⟩) ?_ ?_; rotate_left
            · (intro w'; go_simp; with_reducible rfl)
            rotate_left
            · (simp only [Act.put, List.setIfInBounds_toArray, List.set_cons_zero, List.set_cons_succ, i64_w, i32_w]; rfl)
            refine pure_ (i := 4) (N := some 21) (v := ?_) (a' := ?_) (bA 25 31) rfl rfl (any_of HT_.out (by kernel_rfl)) (fun _ _ _ h => h) (Or.inl ⟨by rfl, ?_⟩) ?_ ?_; rotate_left
            · (intro w'; go_simp; with_reducible rfl)
            rotate_left
            · (simp only [Act.put, List.setIfInBounds_toArray, List.set_cons_zero, List.set_cons_succ, i64_w, i32_w]; rfl)
            refine pure_ (i := 5) (N := some 22) (v := ?_) (a' := ?_) (bA 25 63) rfl rfl (any_of HT_.out (by kernel_rfl)) (fun _ _ _ h => h) (Or.inl ⟨by rfl, ?_⟩) ?_ ?_; rotate_left
            · (intro w'; go_simp; with_reducible rfl)
            rotate_left
            · (simp only [Act.put, List.setIfInBounds_toArray, List.set_cons_zero, List.set_cons_succ, i64_w, i32_w]; rfl)
            refine pure_ (i := 6) (N := some 23) (v := ?_) (a' := ?_) (bA 25 127) rfl rfl (any_of HT_.out (by kernel_rfl)) (fun _ _ _ h => h) (Or.inl ⟨by rfl, ?_⟩) ?_ ?_; rotate_left
            · (intro w'; go_simp; with_reducible rfl)
            rotate_left
            · (simp only [Act.put, List.setIfInBounds_toArray, List.set_cons_zero, List.set_cons_succ, i64_w, i32_w]; rfl)
            refine pure_ (i := 7) (N := some 24) (v := ?_) (a' := ?_) (bA 25 255) rfl rfl (any_of HT_.out (by kernel_rfl)) (fun _ _ _ h => h) (Or.inl ⟨by rfl, ?_⟩) ?_ ?_; rotate_left
            · (intro w'; go_simp; with_reducible rfl)
            rotate_left
            · (simp only [Act.put, List.setIfInBounds_toArray, List.set_cons_zero, List.set_cons_succ, i64_w, i32_w]; rfl)
            refine take_ (i := 8) (N := some 25) (v := ?_) (a' := ?_) (bA 25 511) rfl rfl (take_ofW HT_.out HW_.out (by kernel_rfl)) (fun _ _ _ h => h) (Or.inl ⟨by rfl, ?_⟩) hHeld ?_ ?_; rotate_left
            · (rintro w' ⟨s0, s1⟩; go_simp; with_reducible rfl)
            rotate_left
            · (simp only [Act.put, List.setIfInBounds_toArray, List.set_cons_zero, List.set_cons_succ, i64_w, i32_w]; rfl)
            refine one_ (i := 9) (N := some 26) (bA 25 1023) rfl rfl (one_of HT_.out (by kernel_rfl)) (by decide) (fun K hK => ?_); refine goes_ Tryz.func46 (by kernel_rfl) rfl #[.int .i32 x.f1] (by rfl) rfl rfl (by (try simp only [List.map_toArray, List.map_cons, List.map_nil]); first | done | rfl) ?_; refine (thistleref02_block.calls 4 x.f1 (bandOf x.f1) _ HB1.out).mono ?_; rintro e w7 ⟨rfl, hb⟩; refine ⟨_, rfl, ?_⟩; have HB7 : BelC w w7 := ⟨below_step (below_drew1 HB5.out) hb⟩; refine hK.out _ _ (HC.out w7 HB7) (fun hHeld => ?_); clear hK K; refine norm_ (a' := ?_) ?_ ?_; rotate_left
            · (show Act.put _ (some 26) _ = _; simp only [Act.put, List.setIfInBounds_toArray, List.set_cons_zero, List.set_cons_succ, i64_w, i32_w]; rfl)
            refine pure_ (i := 10) (N := some 27) (v := ?_) (a' := ?_) (bA 25 2047) rfl rfl (any_of HT_.out (by kernel_rfl)) (fun _ _ _ h => h) (Or.inl ⟨by rfl, ?_⟩) ?_ ?_; rotate_left
            · (intro w'; go_simp; with_reducible rfl)
            rotate_left
            · (simp only [Act.put, List.setIfInBounds_toArray, List.set_cons_zero, List.set_cons_succ, i64_w, i32_w]; rfl)
            refine pure_ (i := 11) (N := some 28) (v := ?_) (a' := ?_) (bA 25 4095) rfl rfl (any_of HT_.out (by kernel_rfl)) (fun _ _ _ h => h) (Or.inl ⟨by rfl, ?_⟩) ?_ ?_; rotate_left
            · (intro w'; go_simp; with_reducible rfl)
            rotate_left
            · (simp only [Act.put, List.setIfInBounds_toArray, List.set_cons_zero, List.set_cons_succ, i64_w, i32_w]; rfl)
            refine pure_ (i := 12) (N := some 29) (v := ?_) (a' := ?_) (bA 25 8191) rfl rfl (any_of HT_.out (by kernel_rfl)) (fun _ _ _ h => h) (Or.inl ⟨by rfl, ?_⟩) ?_ ?_; rotate_left
            · (intro w'; go_simp; with_reducible rfl)
            rotate_left
            · (simp only [Act.put, List.setIfInBounds_toArray, List.set_cons_zero, List.set_cons_succ, i64_w, i32_w]; rfl)
            refine pure_ (i := 13) (N := some 30) (v := ?_) (a' := ?_) (bA 25 16383) rfl rfl (any_of HT_.out (by kernel_rfl)) (fun _ _ _ h => h) (Or.inl ⟨by rfl, ?_⟩) ?_ ?_; rotate_left
            · (intro w'; go_simp; with_reducible rfl)
            rotate_left
            · (simp only [Act.put, List.setIfInBounds_toArray, List.set_cons_zero, List.set_cons_succ, i64_w, i32_w]; rfl)
            refine pure_ (i := 14) (N := some 31) (v := ?_) (a' := ?_) (bA 25 32767) rfl rfl (any_of HT_.out (by kernel_rfl)) (fun _ _ _ h => h) (Or.inl ⟨by rfl, ?_⟩) ?_ ?_; rotate_left
            · (intro w'; go_simp; with_reducible rfl)
            rotate_left
            · (simp only [Act.put, List.setIfInBounds_toArray, List.set_cons_zero, List.set_cons_succ, i64_w, i32_w]; rfl)
            refine pure_ (i := 15) (N := some 32) (v := ?_) (a' := ?_) (bA 25 65535) rfl rfl (any_of HT_.out (by kernel_rfl)) (fun _ _ _ h => h) (Or.inl ⟨by rfl, ?_⟩) ?_ ?_; rotate_left
            · (intro w'; go_simp; with_reducible rfl)
            rotate_left
            · (simp only [Act.put, List.setIfInBounds_toArray, List.set_cons_zero, List.set_cons_succ, i64_w, i32_w]; rfl)
            refine pure_ (i := 16) (N := some 33) (v := ?_) (a' := ?_) (bA 25 131071) rfl rfl (any_of HT_.out (by kernel_rfl)) (fun _ _ _ h => h) (Or.inl ⟨by rfl, ?_⟩) ?_ ?_; rotate_left
            · (intro w'; go_simp; with_reducible rfl)
            rotate_left
            · (simp only [Act.put, List.setIfInBounds_toArray, List.set_cons_zero, List.set_cons_succ, i64_w, i32_w]; rfl)
            refine take_ (i := 17) (N := some 34) (v := ?_) (a' := ?_) (bA 25 262143) rfl rfl (take_ofW HT_.out HW_.out (by kernel_rfl)) (fun _ _ _ h => h) (Or.inl ⟨by rfl, ?_⟩) hHeld ?_ ?_; rotate_left
            · (rintro w' ⟨s0, s1⟩; go_simp; with_reducible rfl)
            rotate_left
            · (simp only [Act.put, List.setIfInBounds_toArray, List.set_cons_zero, List.set_cons_succ, i64_w, i32_w]; rfl)
            refine pure_ (i := 18) (N := some 35) (v := ?_) (a' := ?_) (bA 25 524287) rfl rfl (any_of HT_.out (by kernel_rfl)) (fun _ _ _ h => h) (Or.inl ⟨by rfl, ?_⟩) ?_ ?_; rotate_left
            · (intro w'; go_simp; with_reducible rfl)
            rotate_left
            · (simp only [Act.put, List.setIfInBounds_toArray, List.set_cons_zero, List.set_cons_succ, i64_w, i32_w]; rfl)
            refine pure_ (i := 19) (N := some 36) (v := ?_) (a' := ?_) (bA 25 1048575) rfl rfl (any_of HT_.out (by kernel_rfl)) (fun _ _ _ h => h) (Or.inl ⟨by rfl, ?_⟩) ?_ ?_; rotate_left
            · (intro w'; go_simp; with_reducible rfl)
            rotate_left
            · (simp only [Act.put, List.setIfInBounds_toArray, List.set_cons_zero, List.set_cons_succ, i64_w, i32_w]; rfl)
            refine pure_ (i := 20) (N := some 37) (v := ?_) (a' := ?_) (bA 25 2097151) rfl rfl (any_of HT_.out (by kernel_rfl)) (fun _ _ _ h => h) (Or.inl ⟨by rfl, ?_⟩) ?_ ?_; rotate_left
            · (intro w'; go_simp; with_reducible rfl)
            rotate_left
            · (simp only [Act.put, List.setIfInBounds_toArray, List.set_cons_zero, List.set_cons_succ, i64_w, i32_w]; rfl)
            refine pure_ (i := 21) (N := some 38) (v := ?_) (a' := ?_) (bA 25 4194303) rfl rfl (any_of HT_.out (by kernel_rfl)) (fun _ _ _ h => h) (Or.inl ⟨by rfl, ?_⟩) ?_ ?_; rotate_left
            · (intro w'; go_simp; with_reducible rfl)
            rotate_left
            · (simp only [Act.put, List.setIfInBounds_toArray, List.set_cons_zero, List.set_cons_succ, i64_w, i32_w]; rfl)
            refine take_ (i := 22) (N := some 39) (v := ?_) (a' := ?_) (bA 25 8388607) rfl rfl (take_ofW HT_.out HW_.out (by kernel_rfl)) (fun _ _ _ h => h) (Or.inl ⟨by rfl, ?_⟩) hHeld ?_ ?_; rotate_left
            · (rintro w' ⟨s0, s1⟩; go_simp; with_reducible rfl)
            rotate_left
            · (simp only [Act.put, List.setIfInBounds_toArray, List.set_cons_zero, List.set_cons_succ, i64_w, i32_w]; rfl)
            refine pure_ (i := 23) (N := some 40) (v := ?_) (a' := ?_) (bA 25 16777215) rfl rfl (any_of HT_.out (by kernel_rfl)) (fun _ _ _ h => h) (Or.inl ⟨by rfl, ?_⟩) ?_ ?_; rotate_left
            · (intro w'; go_simp; with_reducible rfl)
            rotate_left
            · (simp only [Act.put, List.setIfInBounds_toArray, List.set_cons_zero, List.set_cons_succ, i64_w, i32_w]; rfl)
            refine pure_ (i := 24) (N := some 41) (v := ?_) (a' := ?_) (bA 25 33554431) rfl rfl (any_of HT_.out (by kernel_rfl)) (fun _ _ _ h => h) (Or.inl ⟨by rfl, ?_⟩) ?_ ?_; rotate_left
            · (intro w'; go_simp; with_reducible rfl)
            rotate_left
            · (simp only [Act.put, List.setIfInBounds_toArray, List.set_cons_zero, List.set_cons_succ, i64_w, i32_w]; rfl)
            refine done_ (done_of HT_.out (by kernel_rfl)) ?_
            go_wp2
            go_ret; exact ⟨by rw [HRR.out, if_neg HN.out]; first | rfl | simp, bw⟩
          · have e2 : (bandOf x.f0 != bandOf x.f1) = true := by simpa using h1
            clear hA hok h1; refine start_ (n := 25) (S := fun w' => w'.cell? (a1.add (i * 2)) = some (.int .i32 x.f0) ∧ w'.cell? ⟨(a1.add (i * 2)).block, (a1.add (i * 2)).off + 1, none⟩ = some (.int .i32 x.f1)) (ds := []) (bA 25 0) (by kernel_rfl) rfl rfl hy (fun hHeld => ?_); refine with_tabW c5_tab c5_bits (fun HT_ HW_ => ?_); refine pure_ (i := 0) (N := some 17) (v := ?_) (a' := ?_) (bA 25 1) rfl rfl (any_of HT_.out (by kernel_rfl)) (fun _ _ _ h => h) (Or.inl ⟨by rfl, ?_⟩) ?_ ?_; rotate_left
            · (intro w'; go_simp; with_reducible rfl)
            rotate_left
            · (simp only [Act.put, List.setIfInBounds_toArray, List.set_cons_zero, List.set_cons_succ, i64_w, i32_w]; rfl)
            refine pure_ (i := 1) (N := some 18) (v := ?_) (a' := ?_) (bA 25 3) rfl rfl (any_of HT_.out (by kernel_rfl)) (fun _ _ _ h => h) (Or.inl ⟨by rfl, ?_⟩) ?_ ?_; rotate_left
            · (intro w'; go_simp; with_reducible rfl)
            rotate_left
            · (simp only [Act.put, List.setIfInBounds_toArray, List.set_cons_zero, List.set_cons_succ, i64_w, i32_w]; rfl)
            refine pure_ (i := 2) (N := some 19) (v := ?_) (a' := ?_) (bA 25 7) rfl rfl (any_of HT_.out (by kernel_rfl)) (fun _ _ _ h => h) (Or.inl ⟨by rfl, ?_⟩) ?_ ?_; rotate_left
            · (intro w'; go_simp; with_reducible rfl)
            rotate_left
            · (simp only [Act.put, List.setIfInBounds_toArray, List.set_cons_zero, List.set_cons_succ, i64_w, i32_w]; rfl)
            refine pure_ (i := 3) (N := some 20) (v := ?_) (a' := ?_) (bA 25 15) rfl rfl (any_of HT_.out (by kernel_rfl)) (fun _ _ _ h => h) (Or.inl ⟨by rfl, ?_⟩) ?_ ?_; rotate_left
            · (intro w'; go_simp; with_reducible rfl)
            rotate_left
            · (simp only [Act.put, List.setIfInBounds_toArray, List.set_cons_zero, List.set_cons_succ, i64_w, i32_w]; rfl)
            refine pure_ (i := 4) (N := some 21) (v := ?_) (a' := ?_) (bA 25 31) rfl rfl (any_of HT_.out (by kernel_rfl)) (fun _ _ _ h => h) (Or.inl ⟨by rfl, ?_⟩) ?_ ?_; rotate_left
            · (intro w'; go_simp; with_reducible rfl)
            rotate_left
            · (simp only [Act.put, List.setIfInBounds_toArray, List.set_cons_zero, List.set_cons_succ, i64_w, i32_w]; rfl)
            refine pure_ (i := 5) (N := some 22) (v := ?_) (a' := ?_) (bA 25 63) rfl rfl (any_of HT_.out (by kernel_rfl)) (fun _ _ _ h => h) (Or.inl ⟨by rfl, ?_⟩) ?_ ?_; rotate_left
            · (intro w'; go_simp; with_reducible rfl)
            rotate_left
            · (simp only [Act.put, List.setIfInBounds_toArray, List.set_cons_zero, List.set_cons_succ, i64_w, i32_w]; rfl)
            refine pure_ (i := 6) (N := some 23) (v := ?_) (a' := ?_) (bA 25 127) rfl rfl (any_of HT_.out (by kernel_rfl)) (fun _ _ _ h => h) (Or.inl ⟨by rfl, ?_⟩) ?_ ?_; rotate_left
            · (intro w'; go_simp; with_reducible rfl)
            rotate_left
            · (simp only [Act.put, List.setIfInBounds_toArray, List.set_cons_zero, List.set_cons_succ, i64_w, i32_w]; rfl)
            refine pure_ (i := 7) (N := some 24) (v := ?_) (a' := ?_) (bA 25 255) rfl rfl (any_of HT_.out (by kernel_rfl)) (fun _ _ _ h => h) (Or.inl ⟨by rfl, ?_⟩) ?_ ?_; rotate_left
            · (intro w'; go_simp; with_reducible rfl)
            rotate_left
            · (simp only [Act.put, List.setIfInBounds_toArray, List.set_cons_zero, List.set_cons_succ, i64_w, i32_w]; rfl)
            refine take_ (i := 8) (N := some 25) (v := ?_) (a' := ?_) (bA 25 511) rfl rfl (take_ofW HT_.out HW_.out (by kernel_rfl)) (fun _ _ _ h => h) (Or.inl ⟨by rfl, ?_⟩) hHeld ?_ ?_; rotate_left
            · (rintro w' ⟨s0, s1⟩; go_simp; with_reducible rfl)
            rotate_left
            · (simp only [Act.put, List.setIfInBounds_toArray, List.set_cons_zero, List.set_cons_succ, i64_w, i32_w]; rfl)
            refine one_ (i := 9) (N := some 26) (bA 25 1023) rfl rfl (one_of HT_.out (by kernel_rfl)) (by decide) (fun K hK => ?_); refine goes_ Tryz.func46 (by kernel_rfl) rfl #[.int .i32 x.f1] (by rfl) rfl rfl (by (try simp only [List.map_toArray, List.map_cons, List.map_nil]); first | done | rfl) ?_; refine (thistleref02_block.calls 4 x.f1 (bandOf x.f1) _ HB1.out).mono ?_; rintro e w7 ⟨rfl, hb⟩; refine ⟨_, rfl, ?_⟩; have HB7 : BelC w w7 := ⟨below_step (below_drew1 HB5.out) hb⟩; refine hK.out _ _ (HC.out w7 HB7) (fun hHeld => ?_); clear hK K; refine norm_ (a' := ?_) ?_ ?_; rotate_left
            · (show Act.put _ (some 26) _ = _; simp only [Act.put, List.setIfInBounds_toArray, List.set_cons_zero, List.set_cons_succ, i64_w, i32_w]; rfl)
            refine pure_ (i := 10) (N := some 27) (v := ?_) (a' := ?_) (bA 25 2047) rfl rfl (any_of HT_.out (by kernel_rfl)) (fun _ _ _ h => h) (Or.inl ⟨by rfl, ?_⟩) ?_ ?_; rotate_left
            · (intro w'; go_simp; with_reducible rfl)
            rotate_left
            · (simp only [Act.put, List.setIfInBounds_toArray, List.set_cons_zero, List.set_cons_succ, i64_w, i32_w]; rfl)
            refine pure_ (i := 11) (N := some 28) (v := ?_) (a' := ?_) (bA 25 4095) rfl rfl (any_of HT_.out (by kernel_rfl)) (fun _ _ _ h => h) (Or.inl ⟨by rfl, ?_⟩) ?_ ?_; rotate_left
            · (intro w'; go_simp; with_reducible rfl)
            rotate_left
            · (simp only [Act.put, List.setIfInBounds_toArray, List.set_cons_zero, List.set_cons_succ, i64_w, i32_w]; rfl)
            refine pure_ (i := 12) (N := some 29) (v := ?_) (a' := ?_) (bA 25 8191) rfl rfl (any_of HT_.out (by kernel_rfl)) (fun _ _ _ h => h) (Or.inl ⟨by rfl, ?_⟩) ?_ ?_; rotate_left
            · (intro w'; go_simp; with_reducible rfl)
            rotate_left
            · (simp only [Act.put, List.setIfInBounds_toArray, List.set_cons_zero, List.set_cons_succ, i64_w, i32_w]; rfl)
            refine pure_ (i := 13) (N := some 30) (v := undef) (a' := ?_) (bA 25 16383) rfl rfl (any_of HT_.out (by kernel_rfl)) (fun _ _ _ h => h) (Or.inr ⟨by rfl, rfl⟩) ?_ ?_; rotate_left
            · (simp only [Act.put, List.setIfInBounds_toArray, List.set_cons_zero, List.set_cons_succ, i64_w, i32_w]; rfl)
            refine pure_ (i := 14) (N := some 31) (v := undef) (a' := ?_) (bA 25 32767) rfl rfl (any_of HT_.out (by kernel_rfl)) (fun _ _ _ h => h) (Or.inr ⟨by rfl, rfl⟩) ?_ ?_; rotate_left
            · (simp only [Act.put, List.setIfInBounds_toArray, List.set_cons_zero, List.set_cons_succ, i64_w, i32_w]; rfl)
            refine pure_ (i := 15) (N := some 32) (v := undef) (a' := ?_) (bA 25 65535) rfl rfl (any_of HT_.out (by kernel_rfl)) (fun _ _ _ h => h) (Or.inr ⟨by rfl, rfl⟩) ?_ ?_; rotate_left
            · (simp only [Act.put, List.setIfInBounds_toArray, List.set_cons_zero, List.set_cons_succ, i64_w, i32_w]; rfl)
            refine pure_ (i := 16) (N := some 33) (v := undef) (a' := ?_) (bA 25 131071) rfl rfl (any_of HT_.out (by kernel_rfl)) (fun _ _ _ h => h) (Or.inr ⟨by rfl, rfl⟩) ?_ ?_; rotate_left
            · (simp only [Act.put, List.setIfInBounds_toArray, List.set_cons_zero, List.set_cons_succ, i64_w, i32_w]; rfl)
            refine pure_ (i := 17) (N := some 34) (v := undef) (a' := ?_) (bA 25 262143) rfl rfl (any_of HT_.out (by kernel_rfl)) (fun _ _ _ h => h) (Or.inr ⟨by rfl, rfl⟩) ?_ ?_; rotate_left
            · (simp only [Act.put, List.setIfInBounds_toArray, List.set_cons_zero, List.set_cons_succ, i64_w, i32_w]; rfl)
            refine pure_ (i := 18) (N := some 35) (v := undef) (a' := ?_) (bA 25 524287) rfl rfl (any_of HT_.out (by kernel_rfl)) (fun _ _ _ h => h) (Or.inr ⟨by rfl, rfl⟩) ?_ ?_; rotate_left
            · (simp only [Act.put, List.setIfInBounds_toArray, List.set_cons_zero, List.set_cons_succ, i64_w, i32_w]; rfl)
            refine pure_ (i := 19) (N := some 36) (v := undef) (a' := ?_) (bA 25 1048575) rfl rfl (any_of HT_.out (by kernel_rfl)) (fun _ _ _ h => h) (Or.inr ⟨by rfl, rfl⟩) ?_ ?_; rotate_left
            · (simp only [Act.put, List.setIfInBounds_toArray, List.set_cons_zero, List.set_cons_succ, i64_w, i32_w]; rfl)
            refine pure_ (i := 20) (N := some 37) (v := undef) (a' := ?_) (bA 25 2097151) rfl rfl (any_of HT_.out (by kernel_rfl)) (fun _ _ _ h => h) (Or.inr ⟨by rfl, rfl⟩) ?_ ?_; rotate_left
            · (simp only [Act.put, List.setIfInBounds_toArray, List.set_cons_zero, List.set_cons_succ, i64_w, i32_w]; rfl)
            refine pure_ (i := 21) (N := some 38) (v := undef) (a' := ?_) (bA 25 4194303) rfl rfl (any_of HT_.out (by kernel_rfl)) (fun _ _ _ h => h) (Or.inr ⟨by rfl, rfl⟩) ?_ ?_; rotate_left
            · (simp only [Act.put, List.setIfInBounds_toArray, List.set_cons_zero, List.set_cons_succ, i64_w, i32_w]; rfl)
            refine pure_ (i := 22) (N := some 39) (v := undef) (a' := ?_) (bA 25 8388607) rfl rfl (any_of HT_.out (by kernel_rfl)) (fun _ _ _ h => h) (Or.inr ⟨by rfl, rfl⟩) ?_ ?_; rotate_left
            · (simp only [Act.put, List.setIfInBounds_toArray, List.set_cons_zero, List.set_cons_succ, i64_w, i32_w]; rfl)
            refine pure_ (i := 23) (N := some 40) (v := undef) (a' := ?_) (bA 25 16777215) rfl rfl (any_of HT_.out (by kernel_rfl)) (fun _ _ _ h => h) (Or.inr ⟨by rfl, rfl⟩) ?_ ?_; rotate_left
            · (simp only [Act.put, List.setIfInBounds_toArray, List.set_cons_zero, List.set_cons_succ, i64_w, i32_w]; rfl)
            refine pure_ (i := 24) (N := some 41) (v := ?_) (a' := ?_) (bA 25 33554431) rfl rfl (any_of HT_.out (by kernel_rfl)) (fun _ _ _ h => h) (Or.inl ⟨by rfl, ?_⟩) ?_ ?_; rotate_left
            · (intro w'; go_simp; with_reducible rfl)
            rotate_left
            · (simp only [Act.put, List.setIfInBounds_toArray, List.set_cons_zero, List.set_cons_succ, i64_w, i32_w]; rfl)
            refine done_ (done_of HT_.out (by kernel_rfl)) ?_
            go_wp2
            go_ret; exact ⟨by rw [HRR.out, if_neg HN.out]; first | rfl | simp, bw⟩
    · have d1 : decide (i < l.length) = false := decide_eq_false hlt
      have hs : Sound l := by have h := HI.out; rw [List.take_of_length_le (by omega)] at h; exact h.2
      have HS := Aside0.mk hs; clear hlt hlb hs
      go_wp2
      go_ret; exact ⟨by rw [HRR.out, if_pos HS.out]; first | rfl | simp, bw⟩
end Go.Proofs.YtoggmegpodmfnaaGreatDoor.Q
