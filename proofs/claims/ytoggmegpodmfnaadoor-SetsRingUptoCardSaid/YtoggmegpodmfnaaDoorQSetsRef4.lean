/- The law's plain side (SetsRef4): what the printed functions come to; each theorem states its own conditions. -/
import Derived.Test.YtoggmegpodmfnaaDoorPUx0
import Derived.Test.YtoggmegpodmfnaaDoorPUx3
import Derived.Test.YtoggmegpodmfnaaDoorPUx7
import Derived.Test.YtoggmegpodmfnaaDoorPUx8
import Derived.Test.YtoggmegpodmfnaaDoorPUx9
import Derived.Test.YtoggmegpodmfnaaDoorBSetsBand
import Derived.Test.YtoggmegpodmfnaaDoorQSetsRef
import Derived.Test.YtoggmegpodmfnaaDoorQSetsRef2
import Derived.Test.YtoggmegpodmfnaaDoorQSetsRef3
namespace Go.Proofs.YtoggmegpodmfnaaDoor.Q
open Go.RowKit Go.Proofs.YtoggmegpodmfnaaDoorW.PrintWords Go.Proofs.YtoggmegpodmfnaaDoorW.PrintLast Go.Proofs.YtoggmegpodmfnaaDoorW.PrintMore Go.Proofs.YtoggmegpodmfnaaDoor.PU Go.Proofs.YtoggmegpodmfnaaDoor.B
set_option linter.unusedVariables false
set_option linter.unusedSimpArgs false
theorem sound_len0 : ∀ (l : List Rg) (m : Int), 0 ≤ m → m ≤ 1114368 → Sound l → (∀ r ∈ l, m ≤ r.f0) → (l.length : Int) ≤ 1114368 - m
  | [], m, h0, h1, _, _ => by simp; omega
  | x :: l, m, h0, h1, h, hm => by
    have hx := h.1 x (by simp)
    have hmx := hm x (by simp)
    obtain ⟨a0, a1, a2⟩ := hx
    have b := bandOf_cases x.f1
    have ih := sound_len0 l (x.f1 + 1) (by omega) (by omega) h.tail (fun r hr => by have := (List.pairwise_cons.1 h.2).1 r hr; omega)
    simp only [List.length_cons]
    omega
theorem sound_len {l : List Rg} (h : Sound l) : l.length ≤ 1114368 := by
  have := sound_len0 l 0 (by omega) (by omega) h (fun r hr => by have a := h.1 r hr; have b := bandOf_cases r.f0; obtain ⟨a0, _, _⟩ := a; omega)
  omega
theorem piece_ok {r : Rg} (hr : okR r) {lo hi : Int} (h0 : r.f0 ≤ lo) (h1 : lo ≤ hi) (h2 : hi ≤ r.f1) : okR ⟨lo, hi⟩ := by
  obtain ⟨a0, a1, a2⟩ := hr
  have a := bandOf_cases r.f0
  have b := bandOf_cases r.f1
  have c := bandOf_cases lo
  have d := bandOf_cases hi
  refine ⟨?_, ?_, h1⟩
  · show 0 ≤ bandOf lo; omega
  · show bandOf lo = bandOf hi; omega
theorem mem_single (lo hi u : Int) : mem [(⟨lo, hi⟩ : Rg)] u = decide (lo ≤ u ∧ u ≤ hi) := by simp [mem]
/-- The last rounds at a range: what is left of it, behind b's number j. -/
theorem wo2 (a b : List Rg) (ha : Sound a) (hb : Sound b) (i ki : Nat) (hi : i < a.length) (out0 : List Rg) (hm0 : ∀ u, mem out0 u = (mem (a.take i) u && !mem b u))
    (R : List Rg) (next : ∀ out2 : List Rg, Sound out2 → (∀ x ∈ out2, x.f1 ≤ a[i].f1) → (∀ u, mem out2 u = (mem (a.take (i + 1)) u && !mem b u)) → Ev (fun k => sets_without.l0 k b out2 (ki : Int) a (a.length : Int) ((i + 1 : Nat) : Int)) R)
    : ∀ (d j : Nat) (out : List Rg) (lo : Int), b.length - j = d → a[i].f0 ≤ lo → lo ≤ 1114369 → Sound out → (∀ x ∈ out, x.f1 + 1 < lo ∧ x.f1 ≤ a[i].f1) → (∀ q (hq : q < b.length), q < j → b[q].f1 < lo) → (∀ q (hq : q < b.length), j ≤ q → lo ≤ b[q].f1) →
      (∀ u, mem out u = (mem out0 u || (decide (a[i].f0 ≤ u ∧ u < lo ∧ u ≤ a[i].f1) && !mem b u))) → Ev (fun k => sets_without.l2 k b out (ki : Int) (j : Int) a (a.length : Int) (i : Int) lo a[i].f1) R := by
  have har := ha.1 a[i] (List.getElem_mem hi)
  have har32 := okR_r32 har
  unfold R32 I32 at har32
  have hal := sound_len ha
  have hbl := sound_len hb
  have fin : ∀ (j : Nat) (out : List Rg) (lo : Int), a[i].f0 ≤ lo → lo ≤ 1114369 → Sound out → (∀ x ∈ out, x.f1 + 1 < lo ∧ x.f1 ≤ a[i].f1) → (∀ q (hq : q < b.length), q < j → b[q].f1 < lo) → (∀ q (hq : q < b.length), j ≤ q → a[i].f1 < b[q].f0) →
      (∀ u, mem out u = (mem out0 u || (decide (a[i].f0 ≤ u ∧ u < lo ∧ u ≤ a[i].f1) && !mem b u))) → Ev (fun k => sets_without.j4 k b out (ki : Int) (j : Int) a (a.length : Int) (i : Int) false lo a[i].f1) R := by
    intro j out lo h0 h1 hso hx hq hq2 hm
    have hol := sound_len hso
    have hnb : ∀ u, lo ≤ u → u ≤ a[i].f1 → mem b u = false := by
      intro u hu1 hu2
      rw [← Bool.not_eq_true, mem_iff]
      rintro ⟨r, hr, hr0, hr1⟩
      obtain ⟨q, hqb, rfl⟩ := List.getElem_of_mem hr
      by_cases hqj : q < j
      · have := hq q hqb hqj; omega
      · have := hq2 q hqb (by omega); omega
    by_cases hle : lo ≤ a[i].f1
    · refine Ev.step (fun k => ?_) (next (out ++ [⟨lo, a[i].f1⟩]) (by rw [sound_snoc]; exact ⟨hso, piece_ok har h0 hle (Int.le_refl _), fun x hxo => (hx x hxo).1⟩) (fun x hxo => by
        rw [List.mem_append] at hxo
        rcases hxo with hxo | hxo
        · exact (hx x hxo).2
        · rw [List.mem_singleton] at hxo; subst hxo; exact Int.le_refl _) (fun u => ?_))
      · rw [sets_without.j4, if_neg (by simp), if_pos hle, if_pos (by omega), wrapS i (by omega)]
      · rw [mem_app, mem_single, hm, hm0, mem_take a i hi, mem_single]
        by_cases hu : lo ≤ u ∧ u ≤ a[i].f1
        · rw [decide_eq_true hu, hnb u hu.1 hu.2, decide_eq_true (show a[i].f0 ≤ u ∧ u ≤ a[i].f1 from ⟨by omega, hu.2⟩)]; simp
        · rw [decide_eq_false hu, Bool.or_false]
          have : decide (a[i].f0 ≤ u ∧ u < lo ∧ u ≤ a[i].f1) = decide (a[i].f0 ≤ u ∧ u ≤ a[i].f1) := by rw [decide_eq_decide]; omega
          rw [this, Bool.and_or_distrib_right]
    · refine Ev.step (fun k => ?_) (next out hso (fun x hxo => (hx x hxo).2) (fun u => ?_))
      · rw [sets_without.j4, if_neg (by simp), if_neg hle, wrapS i (by omega)]
      · rw [hm, hm0, mem_take a i hi, mem_single]
        have : decide (a[i].f0 ≤ u ∧ u < lo ∧ u ≤ a[i].f1) = decide (a[i].f0 ≤ u ∧ u ≤ a[i].f1) := by rw [decide_eq_decide]; omega
        rw [this, Bool.and_or_distrib_right]
  intro d
  induction d with
  | zero =>
    intro j out lo hd h0 h1 hso hx hq hqg hm
    refine Ev.step (fun k => ?_) (fin j out lo h0 h1 hso hx hq (fun q hq hj => by omega) hm)
    rw [sets_without.l2, if_neg (by omega)]
  | succ d ih =>
    intro j out lo hd h0 h1 hso hx hq hqg hm
    have hj : j < b.length := by omega
    have hbr := hb.1 b[j] (List.getElem_mem hj)
    have hbr1 := hbr.2.2
    have hbc := bandOf_cases b[j].f1
    have hb0c := bandOf_cases b[j].f0
    have hol := sound_len hso
    obtain ⟨bb0, bb1, bb2⟩ := hbr
    have hqg' : ∀ q (hq : q < b.length), j + 1 ≤ q → b[j].f1 + 1 ≤ b[q].f1 := by
      intro q hqb hqj
      have h1 := List.pairwise_iff_getElem.1 hb.2 j q hj hqb (by omega)
      have h2 := (hb.1 b[q] (List.getElem_mem hqb)).2.2
      omega
    have hge := hqg j hj (Nat.le_refl _)
    by_cases hc : b[j].f0 ≤ a[i].f1
    · have hq' : ∀ q (hq : q < b.length), q < j + 1 → b[q].f1 < b[j].f1 + 1 := by
        intro q hqb hqj
        by_cases e : q = j
        · subst e; omega
        · have := List.pairwise_iff_getElem.1 hb.2 q j hqb hj (by omega); omega
      by_cases hlt : b[j].f0 > lo
      · have h2 := ih (j + 1) (out ++ [⟨lo, b[j].f0 - 1⟩]) (b[j].f1 + 1) (by omega) (by omega) (by omega)
          (by rw [sound_snoc]; exact ⟨hso, piece_ok har h0 (by omega) (by omega), fun x hxo => (hx x hxo).1⟩)
          (fun x hxo => by
            rw [List.mem_append] at hxo
            rcases hxo with hxo | hxo
            · have := hx x hxo; omega
            · rw [List.mem_singleton] at hxo; subst hxo; simp only; omega) hq' hqg' (fun u => by
            rw [mem_app, mem_single, hm]
            have hin : b[j].f0 ≤ u → u ≤ b[j].f1 → mem b u = true := fun h1 h2 => (mem_iff b u).2 ⟨b[j], List.getElem_mem hj, h1, h2⟩
            have hout : lo ≤ u → u < b[j].f0 → mem b u = false := by
              intro hu1 hu2
              rw [← Bool.not_eq_true, mem_iff]
              rintro ⟨r, hr, hr0, hr1⟩
              obtain ⟨q, hqb, rfl⟩ := List.getElem_of_mem hr
              by_cases hqj : q < j
              · have := hq q hqb hqj; omega
              · by_cases e : q = j
                · subst e; omega
                · have := List.pairwise_iff_getElem.1 hb.2 j q hj hqb (by omega); omega
            by_cases hu1 : lo ≤ u ∧ u ≤ b[j].f0 - 1
            · rw [decide_eq_true hu1, hout hu1.1 (by omega), decide_eq_true (show a[i].f0 ≤ u ∧ u < b[j].f1 + 1 ∧ u ≤ a[i].f1 from ⟨by omega, by omega, by omega⟩)]; simp
            · rw [decide_eq_false hu1, Bool.or_false]
              by_cases hu2 : b[j].f0 ≤ u ∧ u ≤ b[j].f1
              · rw [hin hu2.1 hu2.2]; simp
              · have : decide (a[i].f0 ≤ u ∧ u < lo ∧ u ≤ a[i].f1) = decide (a[i].f0 ≤ u ∧ u < b[j].f1 + 1 ∧ u ≤ a[i].f1) := by rw [decide_eq_decide]; omega
                rw [this])
        refine Ev.step (f := fun k => sets_without.j4 k b out (ki : Int) (j : Int) a (a.length : Int) (i : Int) true lo a[i].f1) (fun k => ?_) (Ev.step (fun k => ?_) h2)
        · rw [sets_without.l2, if_pos (by omega), if_pos (by omega), rdT b j hj, decide_eq_true hc]
        · rw [sets_without.j4, if_pos rfl, if_pos (by omega), if_pos (by omega), rdT b j hj, if_pos hlt, if_pos (by omega), wrapS j (by omega), wrap32_of _ (by omega), wrap32_of _ (by omega)]
      · have h2 : Ev (fun k => sets_without.l2 k b out (ki : Int) ((j + 1 : Nat) : Int) a (a.length : Int) (i : Int) (b[j].f1 + 1) a[i].f1) R := by
          refine ih (j + 1) out (b[j].f1 + 1) (by omega) (by omega) (by omega) hso (fun x hxo => by have := hx x hxo; omega) hq' hqg' (fun u => by
              rw [hm]
              have hin : b[j].f0 ≤ u → u ≤ b[j].f1 → mem b u = true := fun h1 h2 => (mem_iff b u).2 ⟨b[j], List.getElem_mem hj, h1, h2⟩
              by_cases hu2 : b[j].f0 ≤ u ∧ u ≤ b[j].f1
              · rw [hin hu2.1 hu2.2]; simp
              · have : decide (a[i].f0 ≤ u ∧ u < lo ∧ u ≤ a[i].f1) = decide (a[i].f0 ≤ u ∧ u < b[j].f1 + 1 ∧ u ≤ a[i].f1) := by rw [decide_eq_decide]; omega
                rw [this])
        refine Ev.step (f := fun k => sets_without.j4 k b out (ki : Int) (j : Int) a (a.length : Int) (i : Int) true lo a[i].f1) (fun k => ?_) (Ev.step (fun k => ?_) h2)
        · rw [sets_without.l2, if_pos (by omega), if_pos (by omega), rdT b j hj, decide_eq_true hc]
        · rw [sets_without.j4, if_pos rfl, if_pos (by omega), if_pos (by omega), rdT b j hj, if_neg hlt, wrapS j (by omega), wrap32_of _ (by omega)]
    · refine Ev.step (fun k => ?_) (fin j out lo h0 h1 hso hx hq (fun q hqb hjq => by
        by_cases e : q = j
        · subst e; omega
        · have := List.pairwise_iff_getElem.1 hb.2 j q hj hqb (by omega); omega) hm)
      rw [sets_without.l2, if_pos (by omega), if_pos (by omega), rdT b j hj, decide_eq_false hc]
/-- The range's first rounds: b's ranges that lie below it are passed over. -/
theorem wo1 (a b : List Rg) (ha : Sound a) (hb : Sound b) (i : Nat) (hi : i < a.length) (out : List Rg) (hso : Sound out) (hx : ∀ x ∈ out, x.f1 + 1 < a[i].f0) (hm0 : ∀ u, mem out u = (mem (a.take i) u && !mem b u))
    (R : List Rg) (next : ∀ (ki : Nat) (out2 : List Rg), ki ≤ b.length → Sound out2 → (∀ x ∈ out2, x.f1 ≤ a[i].f1) → (∀ q (hq : q < b.length), q < ki → b[q].f1 < a[i].f0) → (∀ u, mem out2 u = (mem (a.take (i + 1)) u && !mem b u)) → Ev (fun k => sets_without.l0 k b out2 (ki : Int) a (a.length : Int) ((i + 1 : Nat) : Int)) R) :
    ∀ (d ki : Nat), b.length - ki = d → ki ≤ b.length → (∀ q (hq : q < b.length), q < ki → b[q].f1 < a[i].f0) → Ev (fun k => sets_without.l1 k b out (ki : Int) a (a.length : Int) (i : Int) a[i].f0 a[i].f1) R := by
  have har := ha.1 a[i] (List.getElem_mem hi)
  have hac := bandOf_cases a[i].f0
  have hbl := sound_len hb
  obtain ⟨a0, a1, a2⟩ := har
  have stop : ∀ ki : Nat, ki ≤ b.length → (∀ q (hq : q < b.length), q < ki → b[q].f1 < a[i].f0) → (∀ q (hq : q < b.length), ki ≤ q → a[i].f0 ≤ b[q].f1) → Ev (fun k => sets_without.j2 k b out (ki : Int) a (a.length : Int) (i : Int) a[i].f0 a[i].f1) R := by
    intro ki hk h1 h2
    refine Ev.step (fun k => ?_) (wo2 a b ha hb i ki hi out hm0 R (fun out2 g1 g2 g3 => next ki out2 hk g1 g2 h1 g3) (b.length - ki) ki out a[i].f0 rfl (Int.le_refl _) (by omega) hso (fun x hxo => by have := hx x hxo; omega) h1 h2 (fun u => ?_))
    · rw [sets_without.j2]
    · rw [decide_eq_false (show ¬ (a[i].f0 ≤ u ∧ u < a[i].f0 ∧ u ≤ a[i].f1) by omega)]; simp
  intro d
  induction d with
  | zero =>
    intro ki hd hk h1
    refine Ev.step (fun k => ?_) (stop ki hk h1 (fun q hq hqk => by omega))
    rw [sets_without.l1, if_neg (by omega)]
  | succ d ih =>
    intro ki hd hk h1
    have hki : ki < b.length := by omega
    by_cases hc : b[ki].f1 < a[i].f0
    · refine Ev.step (fun k => ?_) (ih (ki + 1) (by omega) (by omega) (fun q hq hqk => by
        by_cases e : q = ki
        · subst e; exact hc
        · exact h1 q hq (by omega)))
      rw [sets_without.l1, if_pos (by omega), if_pos (by omega), rdT b ki hki, if_pos hc, wrapS ki (by omega)]
    · refine Ev.step (fun k => ?_) (stop ki hk h1 (fun q hq hqk => by
        by_cases e : q = ki
        · subst e; omega
        · have h3 := List.pairwise_iff_getElem.1 hb.2 ki q hki hq (by omega)
          have h4 := (hb.1 b[q] (List.getElem_mem hq)).2.2
          omega))
      rw [sets_without.l1, if_pos (by omega), if_pos (by omega), rdT b ki hki, if_neg hc]
/-- There is a set of whatever units. -/
theorem set_of (p : Int → Bool) (hp : ∀ u, p u = true → isU u = true) : ∃ R, Sound R ∧ ∀ u, mem R u = p u := by
  obtain ⟨g, _, h1, h2, _⟩ := gather_is (((List.range 1114368).filter fun n : Nat => p (n : Int)).map fun n : Nat => (⟨(n : Int), (n : Int)⟩ : Rg)) (by
    rw [List.length_map]
    have := List.length_filter_le (fun n : Nat => p (n : Int)) (List.range 1114368)
    rw [List.length_range] at this
    omega) (fun r hr => by
    obtain ⟨n, hn, rfl⟩ := List.mem_map.1 hr
    have h := hp _ (List.mem_filter.1 hn).2
    unfold isU at h
    exact ⟨by simpa using h, rfl, Int.le_refl _⟩)
  refine ⟨g, h1, fun u => ?_⟩
  rw [h2, Bool.eq_iff_iff, mem_iff]
  constructor
  · rintro ⟨r, hr, h3, h4⟩
    obtain ⟨n, hn, rfl⟩ := List.mem_map.1 hr
    simp only at h3 h4
    obtain rfl : u = (n : Int) := by omega
    exact (List.mem_filter.1 hn).2
  · intro h
    have hu := hp u h
    have hc := bandOf_cases u
    unfold isU at hu
    simp only [decide_eq_true_eq] at hu
    obtain ⟨n, rfl⟩ := Int.eq_ofNat_of_zero_le (show 0 ≤ u by omega)
    exact ⟨⟨(n : Int), (n : Int)⟩, List.mem_map.2 ⟨n, List.mem_filter.2 ⟨List.mem_range.2 (by omega), h⟩, rfl⟩, Int.le_refl _, Int.le_refl _⟩
theorem wo0 (a b : List Rg) (ha : Sound a) (hb : Sound b) : ∀ (d i ki : Nat) (out : List Rg), a.length - i = d → i ≤ a.length → ki ≤ b.length → Sound out → (∀ x ∈ out, ∀ r ∈ a.drop i, x.f1 + 1 < r.f0) → (∀ q (hq : q < b.length), q < ki → ∀ r ∈ a.drop i, b[q].f1 < r.f0) →
    (∀ u, mem out u = (mem (a.take i) u && !mem b u)) → ∃ R, Ev (fun k => sets_without.l0 k b out (ki : Int) a (a.length : Int) (i : Int)) R ∧ Sound R ∧ ∀ u, mem R u = (mem a u && !mem b u)
  | 0, i, ki, out, hd, hi, hk, hso, hx, hq, hm => by
    rw [List.take_of_length_le (by omega)] at hm
    refine ⟨out, Ev.step (f := fun _ => some out) (fun k => ?_) (Ev.now _), hso, hm⟩
    rw [sets_without.l0, if_neg (by omega)]
  | d + 1, i, ki, out, hd, hi, hk, hso, hx, hq, hm => by
    have hi : i < a.length := by omega
    have hal := sound_len ha
    have hdr : a.drop i = a[i] :: a.drop (i + 1) := List.drop_eq_getElem_cons hi
    have hmem : a[i] ∈ a.drop i := by rw [hdr]; exact List.mem_cons_self
    have hgap : ∀ r ∈ a.drop (i + 1), a[i].f1 + 1 < r.f0 := by
      have := (List.pairwise_append.1 (by rw [List.take_append_drop i a]; exact ha.2 : (a.take i ++ a.drop i).Pairwise _)).2.1
      rw [hdr] at this
      exact (List.pairwise_cons.1 this).1
    have har := (ha.1 a[i] (List.getElem_mem hi)).2.2
    -- what the later rounds come to hangs on how this one ends: the set itself does not
    obtain ⟨R0, hR0⟩ : ∃ R0 : List Rg, Sound R0 ∧ ∀ u, mem R0 u = (mem a u && !mem b u) := by
      exact set_of (fun u => mem a u && !mem b u) (fun u hu => ha.unit (by simp only [Bool.and_eq_true] at hu; exact hu.1))
    refine ⟨R0, ?_, hR0⟩
    refine Ev.step (fun k => ?_) (wo1 a b ha hb i hi out hso (fun x hxo => hx x hxo _ hmem) hm R0 (fun k2 out2 h1 h2 h3 h4 h5 => ?_) (b.length - ki) ki rfl hk (fun q hqb hqk => hq q hqb hqk _ hmem))
    · rw [sets_without.l0, if_pos (by omega), if_pos (by omega), if_pos (by omega), rdT a i hi]
    · obtain ⟨R, hR, hs, hmR⟩ := wo0 a b ha hb d (i + 1) k2 out2 (by omega) (by omega) h1 h2 (fun x hxo r hr => by have := h3 x hxo; have := hgap r hr; omega) (fun q hqb hqk r hr => by have := h4 q hqb hqk; have := hgap r hr; omega) h5
      have : R = R0 := sound_ext R R0 hs hR0.1 (fun u => (hmR u).trans (hR0.2 u).symm)
      rw [← this]; exact hR
theorem without_is (a b : List Rg) (ha : Sound a) (hb : Sound b) : ∃ R, Ev (fun k => sets_without.f k a b) R ∧ Sound R ∧ ∀ u, mem R u = (mem a u && !mem b u) := by
  unfold sets_without.f
  exact wo0 a b ha hb a.length 0 0 [] (by omega) (by omega) (by omega) ⟨by simp, by simp⟩ (by simp) (fun q hq hq0 => by omega) (fun u => by simp [mem])
/-! ### check -/
theorem checks_two (a b : List Rg) (ha : Sound a) (hb : Sound b) : Ev (fun k => sets_check.f k [a, b]) 0 := by
  have hal := sound_len ha
  have hbl := sound_len hb
  unfold sets_check.f
  refine Ev.step (f := fun k => (sets_Check.f k a).bind fun t191 => if t191 = 0 then sets_check.l0 k [a, b] 2 1 else some 1) (fun k => ?_) (Ev.bind (check_is a (by omega) ha.r32) ?_)
  · rw [sets_check.l0, if_pos (by simp), if_pos (by omega), if_pos (by simp), show rd_L2 [a, b] 0 = a from rfl, show wrap64 (0 + 1) = 1 by unfold wrap64; omega]; rfl
  · rw [if_pos ha]
    refine ev_if_pos rfl (Ev.step (f := fun k => (sets_Check.f k b).bind fun t191 => if t191 = 0 then sets_check.l0 k [a, b] 2 2 else some 1) (fun k => ?_) (Ev.bind (check_is b (by omega) hb.r32) ?_))
    · rw [sets_check.l0, if_pos (by omega), if_pos (by omega), if_pos (by simp), show rd_L2 [a, b] 1 = b from rfl, show wrap64 (1 + 1) = 2 by unfold wrap64; omega]
    · rw [if_pos hb]
      exact ev_if_pos rfl (Ev.step (f := fun _ => some 0) (fun k => by rw [sets_check.l0, if_neg (by omega)]) (Ev.now _))
/-! ### the calls -/
theorem or_is (a b : List Rg) (ha : Sound a) (hb : Sound b) : ∃ R, Ev (fun k => sets_Or.f k a b) (R, 0) ∧ Sound R ∧ ∀ u, mem R u = (mem a u || mem b u) := by
  have hal := sound_len ha
  have hbl := sound_len hb
  obtain ⟨g, hg, h1, h2, _⟩ := gather_is (a ++ b) (by simp; omega) (fun r hr => by
    rw [List.mem_append] at hr
    rcases hr with hr | hr
    · exact ha.1 r hr
    · exact hb.1 r hr)
  refine ⟨g, ?_, h1, fun u => by rw [h2, mem_app]⟩
  unfold sets_Or.f
  refine Ev.bind (checks_two a b ha hb) (ev_if_pos rfl (evb0 (a := a ++ b) ?_ (Ev.bind hg (Ev.now _))))
  show (if ([a, b] : List (List Rg)).flatten.length ≤ 4294967296 then some ([a, b] : List (List Rg)).flatten else none) = some (a ++ b)
  have : ([a, b] : List (List Rg)).flatten = a ++ b := by simp
  rw [this, if_pos (by simp; omega)]
theorem minus_is (a b : List Rg) (ha : Sound a) (hb : Sound b) : ∃ R, Ev (fun k => sets_Minus.f k a b) (R, 0) ∧ Sound R ∧ ∀ u, mem R u = (mem a u && !mem b u) := by
  obtain ⟨R, hR, h⟩ := without_is a b ha hb
  refine ⟨R, ?_, h⟩
  unfold sets_Minus.f
  exact Ev.bind (checks_two a b ha hb) (ev_if_pos rfl (Ev.bind hR (Ev.now _)))
def allB : List Rg := [⟨0, 55295⟩, ⟨57344, 1114111⟩, ⟨1114240, 1114367⟩]
theorem allB_sound : Sound allB := by decide
theorem allB_mem (u : Int) : mem allB u = isU u := by
  have c := bandOf_cases u
  unfold allB isU
  rw [Bool.eq_iff_iff, mem_iff]
  simp only [List.mem_cons, List.not_mem_nil, or_false, exists_eq_or_imp, exists_eq_left, decide_eq_true_eq]
  omega
theorem and_is (a b : List Rg) (ha : Sound a) (hb : Sound b) : ∃ R, Ev (fun k => sets_And.f k a b) (R, 0) ∧ Sound R ∧ ∀ u, mem R u = (mem a u && mem b u) := by
  obtain ⟨N, hN, hNs, hNm⟩ := without_is allB b allB_sound hb
  obtain ⟨R, hR, hRs, hRm⟩ := without_is a N ha hNs
  refine ⟨R, ?_, hRs, fun u => ?_⟩
  · unfold sets_And.f
    exact Ev.bind (checks_two a b ha hb) (ev_if_pos rfl (Ev.bind hN (Ev.bind hR (Ev.now _))))
  · rw [hRm, hNm, allB_mem]
    cases hm : mem a u with
    | false => simp
    | true => rw [ha.unit hm]; simp
theorem not_is (a : List Rg) (ha : Sound a) : ∃ R, Ev (fun k => sets_Not.f k a) (R, 0) ∧ Sound R ∧ ∀ u, mem R u = (isU u && !mem a u) := by
  have hal := sound_len ha
  obtain ⟨N, hN, hNs, hNm⟩ := without_is allB a allB_sound ha
  refine ⟨N, ?_, hNs, fun u => by rw [hNm, allB_mem]⟩
  unfold sets_Not.f
  refine Ev.bind (check_is a (by omega) ha.r32) ?_
  rw [if_pos ha]
  exact ev_if_pos rfl (Ev.bind hN (Ev.now _))
def allR : List Rg := [⟨0, 55295⟩, ⟨57344, 1114111⟩]
theorem allR_sound : Sound allR := by decide
theorem allR_mem (u : Int) : mem allR u = (isU u && decide (u ≤ 1114111)) := by
  have c := bandOf_cases u
  unfold allR isU
  rw [Bool.eq_iff_iff, mem_iff]
  simp only [List.mem_cons, List.not_mem_nil, or_false, exists_eq_or_imp, exists_eq_left, decide_eq_true_eq, Bool.and_eq_true]
  omega
theorem notRunes_is (a : List Rg) (ha : Sound a) : ∃ R, Ev (fun k => sets_NotRunes.f k a) (R, 0) ∧ Sound R ∧ ∀ u, mem R u = (isU u && decide (u ≤ 1114111) && !mem a u) := by
  have hal := sound_len ha
  obtain ⟨N, hN, hNs, hNm⟩ := without_is allR a allR_sound ha
  refine ⟨N, ?_, hNs, fun u => by rw [hNm, allR_mem]⟩
  unfold sets_NotRunes.f
  refine Ev.bind (check_is a (by omega) ha.r32) ?_
  rw [if_pos ha]
  exact ev_if_pos rfl (Ev.bind hN (Ev.now _))
/-! ### Size -/
def sz (l : List Rg) : Int := (l.map fun r => r.f1 - r.f0 + 1).sum
theorem sz_bound0 : ∀ (l : List Rg) (m : Int), 0 ≤ m → m ≤ 1114368 → Sound l → (∀ r ∈ l, m ≤ r.f0) → 0 ≤ sz l ∧ sz l ≤ 1114368 - m
  | [], m, h0, h1, _, _ => by simp [sz]; omega
  | x :: l, m, h0, h1, h, hm => by
    have hx := h.1 x (by simp)
    have hmx := hm x (by simp)
    obtain ⟨a0, a1, a2⟩ := hx
    have b := bandOf_cases x.f1
    have ih := sz_bound0 l (x.f1 + 1) (by omega) (by omega) h.tail (fun r hr => by have := (List.pairwise_cons.1 h.2).1 r hr; omega)
    have e : sz (x :: l) = x.f1 - x.f0 + 1 + sz l := by simp [sz]
    omega
theorem sz_bound {l : List Rg} (h : Sound l) : 0 ≤ sz l ∧ sz l ≤ 1114368 := by
  have := sz_bound0 l 0 (by omega) (by omega) h (fun r hr => by have a := h.1 r hr; have b := bandOf_cases r.f0; obtain ⟨a0, _, _⟩ := a; omega)
  omega
theorem sz_app (a b : List Rg) : sz (a ++ b) = sz a + sz b := by simp [sz]
theorem size0 (l : List Rg) (h : Sound l) : ∀ (d i : Nat), l.length - i = d → i ≤ l.length → Ev (fun k => sets_Size.l0 k (sz (l.take i)) l (l.length : Int) (i : Int)) (sz l, 0)
  | 0, i, hd, hi => by
    rw [List.take_of_length_le (by omega)]
    refine Ev.step (f := fun _ => some (sz l, 0)) (fun k => ?_) (Ev.now _)
    rw [sets_Size.l0, if_neg (by omega)]
  | d + 1, i, hd, hi => by
    have hi : i < l.length := by omega
    have hl := sound_len h
    have hx := h.1 l[i] (List.getElem_mem hi)
    obtain ⟨a0, a1, a2⟩ := hx
    have b0 := bandOf_cases l[i].f0
    have b1 := bandOf_cases l[i].f1
    have ht : l.take (i + 1) = l.take i ++ [l[i]] := by rw [List.take_add_one, List.getElem?_eq_getElem hi]; rfl
    have hs : Sound (l.take i) := ⟨fun r hr => h.1 r (List.mem_of_mem_take hr), h.2.sublist (List.take_sublist _ _)⟩
    have hb := sz_bound hs
    have e : sz (l.take (i + 1)) = sz (l.take i) + (l[i].f1 - l[i].f0 + 1) := by rw [ht, sz_app]; simp [sz]
    refine Ev.step (fun k => ?_) (size0 l h d (i + 1) (by omega) (by omega))
    rw [sets_Size.l0, if_pos (by omega), if_pos (by omega), if_pos (by omega), rdT l i hi, wrap32_of _ (by omega), wrap64_of (l[i].f1 - l[i].f0) (by omega), wrap64_of (l[i].f1 - l[i].f0 + 1) (by omega), wrap64_of _ (by omega), wrapS i (by omega), e]
theorem size_is (l : List Rg) (h : Sound l) : Ev (fun k => sets_Size.f k l) (sz l, 0) := by
  have hl := sound_len h
  unfold sets_Size.f
  refine Ev.bind (check_is l (by omega) h.r32) ?_
  rw [if_pos h]
  exact ev_if_pos rfl (by simpa [sz] using size0 l h l.length 0 (by omega) (by omega))
/-- How many units: one by one. -/
theorem count_in (lo hi : Int) (h0 : 0 ≤ lo) (h1 : lo ≤ hi + 1) : ∀ n : Nat, hi < n → (((List.range n).countP fun u : Nat => decide (lo ≤ (u : Int) ∧ (u : Int) ≤ hi)) : Int) = hi - lo + 1 := by
  have key : ∀ n : Nat, (((List.range n).countP fun u : Nat => decide (lo ≤ (u : Int) ∧ (u : Int) ≤ hi)) : Int) = if (n : Int) ≤ lo then 0 else if (n : Int) ≤ hi + 1 then n - lo else hi - lo + 1 := by
    intro n
    induction n with
    | zero => simp [h0]
    | succ n ih =>
      rw [List.range_succ, List.countP_append, Int.natCast_add, ih, List.countP_singleton]
      by_cases hin : lo ≤ (n : Int) ∧ (n : Int) ≤ hi
      · rw [decide_eq_true hin]
        simp only [if_true]
        repeat' split
        all_goals omega
      · rw [decide_eq_false hin]
        simp only [Bool.false_eq_true, if_false]
        repeat' split
        all_goals omega
  intro n hn
  rw [key]
  repeat' split
  all_goals omega
theorem countP_or {α : Type} (p q : α → Bool) : ∀ l : List α, l.countP p + l.countP q = l.countP (fun x => p x || q x) + l.countP (fun x => p x && q x)
  | [] => rfl
  | x :: l => by
    have ih := countP_or p q l
    simp only [List.countP_cons]
    cases p x <;> cases q x <;> simp <;> omega
def cnt (p : Int → Bool) : Nat := (List.range 1114368).countP fun u : Nat => p (u : Int)
theorem cnt_or (p q : Int → Bool) : cnt p + cnt q = cnt (fun u => p u || q u) + cnt (fun u => p u && q u) := countP_or _ _ _
theorem cnt_congr {p q : Int → Bool} (h : ∀ u, p u = q u) : cnt p = cnt q := by unfold cnt; congr 1; funext u; exact h _
theorem cnt_false : cnt (fun _ => false) = 0 := by unfold cnt; simp
theorem sz_cnt : ∀ l : List Rg, Sound l → sz l = (cnt (mem l) : Int)
  | [], _ => by rw [cnt_congr (q := fun _ => false) (fun u => by simp [mem]), cnt_false]; simp [sz]
  | x :: l, h => by
    have ih := sz_cnt l h.tail
    have hx := h.1 x (by simp)
    obtain ⟨a0, a1, a2⟩ := hx
    have b0 := bandOf_cases x.f0
    have b1 := bandOf_cases x.f1
    have e : sz (x :: l) = x.f1 - x.f0 + 1 + sz l := by simp [sz]
    have c1 : ((cnt fun u => decide (x.f0 ≤ u ∧ u ≤ x.f1)) : Int) = x.f1 - x.f0 + 1 := count_in x.f0 x.f1 (by omega) (by omega) 1114368 (by omega)
    have c2 := cnt_or (fun u => decide (x.f0 ≤ u ∧ u ≤ x.f1)) (mem l)
    have c3 : cnt (fun u => decide (x.f0 ≤ u ∧ u ≤ x.f1) && mem l u) = 0 := by
      rw [← cnt_false]
      refine cnt_congr fun u => ?_
      rw [← Bool.not_eq_true, Bool.and_eq_true, decide_eq_true_eq]
      rintro ⟨h1, h2⟩
      have := mem_gap h h2
      omega
    have c4 : cnt (mem (x :: l)) = cnt (fun u => decide (x.f0 ≤ u ∧ u ≤ x.f1) || mem l u) := cnt_congr fun u => mem_cons x l u
    omega

end Go.Proofs.YtoggmegpodmfnaaDoor.Q
