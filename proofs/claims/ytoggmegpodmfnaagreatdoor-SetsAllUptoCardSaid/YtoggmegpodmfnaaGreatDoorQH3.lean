/- The law's plain side (SetsRef): what the printed functions come to; each theorem states its own conditions. -/
import Derived.Test.YtoggmegpodmfnaaGreatDoorPSx01
import Derived.Test.YtoggmegpodmfnaaGreatDoorPSx2
import Derived.Test.YtoggmegpodmfnaaGreatDoorPSx8
import Derived.Test.YtoggmegpodmfnaaGreatDoorBSetsBand
import Derived.Test.YtoggmegpodmfnaaGreatDoorQH1
import Derived.Test.YtoggmegpodmfnaaGreatDoorPSx3
import Derived.Test.YtoggmegpodmfnaaGreatDoorPSx4
import Derived.Test.YtoggmegpodmfnaaGreatDoorPSx6
import Derived.Test.YtoggmegpodmfnaaGreatDoorPSx9
import Derived.Test.YtoggmegpodmfnaaGreatDoorPSx5
import Derived.Test.YtoggmegpodmfnaaGreatDoorPSx7
import Derived.Test.YtoggmegpodmfnaaGreatDoorBGlobSetsT
import Derived.Test.YtoggmegpodmfnaaGreatDoorBSq
import Derived.Test.YtoggmegpodmfnaaGreatDoorQH2
import Derived.Deep.QuietTactic
import Derived.BigQuiet
namespace Go.Proofs.YtoggmegpodmfnaaGreatDoor.Q
open Go.RowKit Go.Proofs.YtoggmegpodmfnaaGreatDoorW.PrintWords Go.Proofs.YtoggmegpodmfnaaGreatDoorW.PrintLast Go.Proofs.YtoggmegpodmfnaaGreatDoorW.PrintMore Go.Proofs.YtoggmegpodmfnaaGreatDoor.PS Go.Proofs.YtoggmegpodmfnaaGreatDoor.B
set_option linter.unusedVariables false
set_option linter.unusedSimpArgs false
theorem ev_if_pos {α : Type} {g f : Nat → Option α} {r : α} {c : Prop} [Decidable c] (hc : c) (h : Ev g r) : Ev (fun k => if c then g k else f k) r := by
  simp only [if_pos hc]; exact h
theorem ev_if_neg {α : Type} {g f : Nat → Option α} {r : α} {c : Prop} [Decidable c] (hc : ¬ c) (h : Ev f r) : Ev (fun k => if c then g k else f k) r := by
  simp only [if_neg hc]; exact h
theorem wrap64_of (x : Int) (h : -9223372036854775808 ≤ x ∧ x ≤ 9223372036854775807) : wrap64 x = x := by unfold wrap64; omega
theorem wrap32_of (x : Int) (h : -2147483648 ≤ x ∧ x ≤ 2147483647) : wrap32 x = x := by unfold wrap32; omega
theorem wrapS (i : Nat) (h : i ≤ 1099511627776) : wrap64 ((i : Int) + 1) = ((i + 1 : Nat) : Int) := by unfold wrap64; omega
theorem rdT (l : List Rg) (i : Nat) (h : i < l.length) : rd_T41 l (i : Int) = l[i] := by
  unfold rd_T41; rw [Int.toNat_natCast, List.getD_eq_getElem?_getD, List.getElem?_eq_getElem h]; rfl
theorem band_is (u : Int) : sets_band.f u = some (bandOf u) := rfl
theorem sound_last {a : List Rg} {x r : Rg} (h : Sound (a ++ [x])) : (∀ y ∈ a ++ [x], y.f1 + 1 < r.f0) ↔ x.f1 + 1 < r.f0 := by
  constructor; (· exact fun h => h x (by simp))
  · intro hx y hy
    rw [List.mem_append] at hy
    rcases hy with hy | hy
    (· have h1 := ((sound_snoc a x).1 h).2.2 y hy; have h2 := ((sound_snoc a x).1 h).2.1.2.2; omega); (· rw [List.mem_singleton] at hy; subst hy; exact hx)
theorem not_sound_prefix {a b : List Rg} (h : ¬ Sound a) : ¬ Sound (a ++ b) := fun hs => h ⟨fun r hr => hs.1 r (by simp [hr]), (List.pairwise_append.1 hs.2).1⟩
theorem check0 (l : List Rg) (hl : l.length ≤ 1073741824) (hr : ∀ r ∈ l, R32 r) : ∀ (d i : Nat), l.length - i = d → i ≤ l.length → Sound (l.take i) →
    Ev (fun k => sets_Check.l0 k l l (l.length : Int) (i : Int)) (if Sound l then 0 else 1)
  | 0, i, hd, hi, hs => by
    rw [List.take_of_length_le (by omega)] at hs; rw [if_pos hs]; refine Ev.step (f := fun _ => some 0) (fun k => ?_) (Ev.now _); rw [sets_Check.l0, if_neg (by omega)]
  | d + 1, i, hd, hi, hs => by
    have hi : i < l.length := by omega
    have h32 := hr l[i] (List.getElem_mem hi)
    have htk : l.take (i + 1) = l.take i ++ [l[i]] := by rw [List.take_add_one, List.getElem?_eq_getElem hi]; rfl
    have hall : l = l.take (i + 1) ++ l.drop (i + 1) := (List.take_append_drop _ _).symm; have hcont : Sound (l.take (i + 1)) → Ev (fun k => sets_Check.l0 k l l (l.length : Int) ((i + 1 : Nat) : Int)) (if Sound l then 0 else 1) := fun h => check0 l hl hr d (i + 1) (by omega) (by omega) h; have hstop : ¬ Sound (l.take (i + 1)) → (if Sound l then (0 : Int) else 1) = 1 := fun h => if_neg (by rw [hall]; exact not_sound_prefix h); obtain ⟨bad, hbad⟩ : ∃ b : Bool, b = !decide (okR l[i]) := ⟨_, rfl⟩; refine Ev.step (f := fun k => sets_Check.j1 k l (i : Int) l (l.length : Int) (i : Int) bad l[i].f0 l[i].f1) (fun k => ?_) ?_
    · rw [sets_Check.l0, if_pos (by omega), if_pos (by omega), if_pos (by omega), rdT l i hi, band_is]
      simp only [Option.bind_some]
      by_cases h1 : bandOf l[i].f0 < 0
      · rw [if_pos h1, show bad = true by rw [hbad, decide_eq_false (fun h : okR l[i] => by have := h.1; omega)]; rfl]
      · rw [if_neg h1, band_is]
        simp only [Option.bind_some]
        by_cases h2 : bandOf l[i].f0 = bandOf l[i].f1
        · rw [if_pos h2, show decide (l[i].f0 > l[i].f1) = bad by
            rw [hbad]
            by_cases h3 : l[i].f0 ≤ l[i].f1
            · rw [decide_eq_true (show okR l[i] from ⟨by omega, h2, h3⟩), decide_eq_false (by omega)]; rfl
            · rw [decide_eq_false (fun h : okR l[i] => h3 h.2.2), decide_eq_true (by omega)]; rfl]
        · rw [if_neg h2, show bad = true by rw [hbad, decide_eq_false (fun h : okR l[i] => h2 h.2.1)]; rfl]
    · by_cases hok : okR l[i]
      · obtain rfl : bad = false := by rw [hbad]; simp [hok]
        by_cases h0 : i = 0
        · subst h0
          have hs1 : Sound (l.take 1) := by rw [htk, sound_snoc]; exact ⟨hs, hok, by simp⟩
          refine Ev.step (f := fun k => sets_Check.l0 k l l (l.length : Int) ((1 : Nat) : Int)) (fun k => ?_) (hcont hs1); rw [sets_Check.j1, if_neg (by simp), if_neg (by omega), wrapS 0 (by omega)]
        · obtain ⟨j, rfl⟩ : ∃ j, i = j + 1 := ⟨i - 1, by omega⟩
          have hj : j < l.length := by omega
          have h32j := hr l[j] (List.getElem_mem hj)
          have htj : l.take (j + 1) = l.take j ++ [l[j]] := by rw [List.take_add_one, List.getElem?_eq_getElem hj]; rfl
          unfold R32 I32 at h32j h32; have hokj : okR l[j] := hs.1 l[j] (by rw [htj]; exact List.mem_append_right _ (List.mem_singleton.2 rfl)); have hjm := okR_r32 hokj; have hb := bandOf_cases l[j].f1; obtain ⟨b0, b1, b2⟩ := hokj
          have e1 : wrap64 (((j + 1 : Nat) : Int) - 1) = (j : Int) := by unfold wrap64; omega
          have hiff : Sound (l.take (j + 1 + 1)) ↔ l[j].f1 + 1 < l[j + 1].f0 := by
            rw [htk, sound_snoc]; constructor; (· rintro ⟨_, _, h⟩; exact h _ (by rw [htj]; exact List.mem_append_right _ (List.mem_singleton.2 rfl))); (· intro h; refine ⟨hs, hok, ?_⟩; rw [htj] at hs ⊢; exact (sound_last hs).2 h)
          refine Ev.step (f := fun k => if l[j].f1 + 1 < l[j + 1].f0 then sets_Check.l0 k l l (l.length : Int) ((j + 1 + 1 : Nat) : Int) else some 1) (fun k => ?_) ?_
          · rw [sets_Check.j1, if_neg (by simp), if_pos (by omega), e1, if_pos (by omega), if_pos (by omega), rdT l j hj, wrap32_of _ (by omega), wrapS (j + 1) (by omega)]
            by_cases h1 : l[j + 1].f0 ≤ l[j].f1
            · rw [if_pos h1, if_neg (by omega)]
            · rw [if_neg h1]
              by_cases h2 : l[j + 1].f0 = l[j].f1 + 1
              (· rw [if_pos h2, if_neg (by omega)]); (· rw [if_neg h2, if_pos (by omega)])
          · by_cases h : l[j].f1 + 1 < l[j + 1].f0
            (· exact ev_if_pos h (hcont (hiff.2 h))); (· rw [hstop (fun hs => h (hiff.1 hs))]; exact ev_if_neg h (Ev.now _))
      · obtain rfl : bad = true := by rw [hbad]; simp [hok]
        have : ¬ Sound (l.take (i + 1)) := by rw [htk, sound_snoc]; exact fun h => hok h.2.1
        rw [hstop this]; refine Ev.step (f := fun _ => some 1) (fun k => ?_) (Ev.now _); rw [sets_Check.j1, if_pos rfl]
theorem check_is (l : List Rg) (hl : l.length ≤ 1073741824) (hr : ∀ r ∈ l, R32 r) : Ev (fun k => sets_Check.f k l) (if Sound l then 0 else 1) := by
  simpa [sets_Check.f] using check0 l hl hr l.length 0 (by omega) (by omega) ⟨by simp, by simp⟩
end Go.Proofs.YtoggmegpodmfnaaGreatDoor.Q
namespace Go.Proofs.YtoggmegpodmfnaaGreatDoor.Q
open Go.RowKit Go.Proofs.YtoggmegpodmfnaaGreatDoorW.PrintWords Go.Proofs.YtoggmegpodmfnaaGreatDoorW.PrintLast Go.Proofs.YtoggmegpodmfnaaGreatDoorW.PrintMore Go.Proofs.YtoggmegpodmfnaaGreatDoor.PS Go.Proofs.YtoggmegpodmfnaaGreatDoor.B
set_option linter.unusedVariables false
set_option linter.unusedSimpArgs false
theorem merge_ok {x r : Rg} (hx : okR x) (hr : okR r) (h0 : x.f0 ≤ r.f0) (h1 : r.f0 ≤ x.f1 + 1) : okR ⟨x.f0, mx x.f1 r.f1⟩ := by
  obtain ⟨x0, x1, x2⟩ := hx; obtain ⟨r0, r1, r2⟩ := hr; unfold okR mx; simp only; have a := bandOf_cases x.f0; have b := bandOf_cases x.f1; have c := bandOf_cases r.f0; have d := bandOf_cases r.f1
  split <;> omega
theorem merge_mem {x r : Rg} (hx : x.f0 ≤ x.f1) (hr : r.f0 ≤ r.f1) (h0 : x.f0 ≤ r.f0) (h1 : r.f0 ≤ x.f1 + 1) (u : Int) :
    mem [⟨x.f0, mx x.f1 r.f1⟩] u = (mem [x] u || mem [r] u) := by
  unfold mx; rw [Bool.eq_iff_iff, Bool.or_eq_true, mem_iff, mem_iff, mem_iff]; simp only [List.mem_singleton, exists_eq_left]
  split <;> omega
theorem mem_take (s : List Rg) (i : Nat) (hi : i < s.length) (u : Int) : mem (s.take (i + 1)) u = (mem (s.take i) u || mem [s[i]] u) := by
  rw [List.take_add_one, List.getElem?_eq_getElem hi, ← mem_app]; rfl
theorem set_last (o : List Rg) (x y : Rg) : (o ++ [x]).set o.length y = o ++ [y] := by simp
theorem gather0 (s : List Rg) (hs : s.length ≤ 4294967296) (hok : ∀ r ∈ s, okR r) (hsort : s.Pairwise (fun a b => a.f0 ≤ b.f0)) : ∀ (d i : Nat) (out : List Rg), s.length - i = d → i ≤ s.length → Sound out → out.length ≤ i →
    (∀ x ∈ out, ∀ r ∈ s.drop i, x.f0 ≤ r.f0) → (∀ u, mem out u = mem (s.take i) u) →
    ∃ g, Ev (fun k => sets_gather.l0 k out s (s.length : Int) (i : Int)) g ∧ Sound g ∧ (∀ u, mem g u = mem s u) ∧ g.length ≤ s.length
  | 0, i, out, hd, hi, hso, hl, hlo, hm => by
    rw [List.take_of_length_le (by omega)] at hm; refine ⟨out, Ev.step (f := fun _ => some out) (fun k => ?_) (Ev.now _), hso, hm, by omega⟩; rw [sets_gather.l0, if_neg (by omega)]
  | d + 1, i, out, hd, hi, hso, hl, hlo, hm => by
    have hi : i < s.length := by omega
    have hdr : s.drop i = s[i] :: s.drop (i + 1) := List.drop_eq_getElem_cons hi; have hor := hok s[i] (List.getElem_mem hi)
    have hrest : ∀ r ∈ s.drop (i + 1), s[i].f0 ≤ r.f0 := by
      have := (List.pairwise_append.1 (by rw [List.take_append_drop i s]; exact hsort : (s.take i ++ s.drop i).Pairwise _)).2.1; rw [hdr] at this; exact (List.pairwise_cons.1 this).1
    have next : ∀ out2 : List Rg, Sound out2 → out2.length ≤ i + 1 → (∀ x ∈ out2, x.f0 ≤ s[i].f0) → (∀ u, mem out2 u = (mem out u || mem [s[i]] u)) →
        ∃ g, Ev (fun k => sets_gather.l0 k out2 s (s.length : Int) ((i + 1 : Nat) : Int)) g ∧ Sound g ∧ (∀ u, mem g u = mem s u) ∧ g.length ≤ s.length := by
      intro out2 h1 h2 h3 h4; refine gather0 s hs hok hsort d (i + 1) out2 (by omega) (by omega) h1 h2 (fun x hx r hr => ?_) (fun u => by rw [h4, hm, mem_take s i hi]); have := h3 x hx; have := hrest r hr; omega
    have hlo0 : ∀ x ∈ out, x.f0 ≤ s[i].f0 := fun x hx => hlo x hx s[i] (by rw [hdr]; exact List.mem_cons_self)
    by_cases hout : out = []
    · subst hout; obtain ⟨g, hg, h⟩ := next [s[i]] ⟨by simpa using hor, by simp⟩ (by simp) (by simp) (fun u => by simp [mem]); refine ⟨g, Ev.step (fun k => ?_) hg, h⟩; rw [sets_gather.l0, if_pos (by omega), if_pos (by omega), if_pos (by omega), if_neg (by simp), if_pos (by simp), rdT s i hi, wrapS i (by omega)]; rfl
    · obtain ⟨o, x, rfl⟩ : ∃ o x, out = o ++ [x] := ⟨out.dropLast, out.getLast hout, (List.dropLast_concat_getLast hout).symm⟩
      have hll : (o ++ [x]).length = o.length + 1 := by simp
      have hxo := (sound_snoc o x).1 hso; have h32 := okR_r32 hxo.2.1; have hx01 := hxo.2.1.2.2
      have e1 : wrap64 (((o ++ [x]).length : Int) - 1) = (o.length : Int) := by rw [hll]; unfold wrap64; omega
      have erd : rd_T41 (o ++ [x]) (o.length : Int) = x := by rw [rdT _ _ (by omega)]; simp
      have hb := bandOf_cases x.f1; have hx0 := hlo0 x (by simp); unfold R32 I32 at h32; obtain ⟨bx0, bx1, bx2⟩ := hxo.2.1
      by_cases hc : s[i].f0 ≤ x.f1 + 1
      · obtain ⟨g, hg, h⟩ := next (o ++ [⟨x.f0, mx x.f1 s[i].f1⟩]) (by rw [sound_snoc]; exact ⟨hxo.1, merge_ok hxo.2.1 hor hx0 hc, hxo.2.2⟩) (by simp at hl ⊢; omega)
          (fun y hy => by
            rw [List.mem_append] at hy
            rcases hy with hy | hy
            · exact hlo0 y (List.mem_append_left _ hy)
            · rw [List.mem_singleton] at hy; subst hy; exact hx0)
          (fun u => by rw [mem_app, mem_app, merge_mem hx01 hor.2.2 hx0 hc, Bool.or_assoc])
        refine ⟨g, Ev.step (fun k => ?_) hg, h⟩; rw [sets_gather.l0, if_pos (by omega), if_pos (by omega), if_pos (by omega), if_pos (by omega), e1, if_pos (by omega), if_pos (by omega), erd, rdT s i hi, wrap32_of _ (by omega), if_pos hc, wrapS i (by omega), Int.toNat_natCast, set_last]
      · obtain ⟨g, hg, h⟩ := next (o ++ [x] ++ [s[i]]) (by rw [sound_snoc]; exact ⟨hso, hor, (sound_last hso).2 (by omega)⟩) (by simp at hl ⊢; omega)
          (fun y hy => by
            rw [List.mem_append] at hy
            rcases hy with hy | hy
            · exact hlo0 y hy
            · rw [List.mem_singleton] at hy; subst hy; omega)
          (fun u => by rw [mem_app])
        refine ⟨g, Ev.step (fun k => ?_) hg, h⟩; rw [sets_gather.l0, if_pos (by omega), if_pos (by omega), if_pos (by omega), if_pos (by omega), e1, if_pos (by omega), if_pos (by omega), erd, rdT s i hi, wrap32_of _ (by omega), if_neg hc, if_pos (by omega), wrapS i (by omega)]
theorem mem_perm {a b : List Rg} (h : a.Perm b) (u : Int) : mem a u = mem b u := by
  rw [Bool.eq_iff_iff, mem_iff, mem_iff]; exact ⟨fun ⟨r, hr, hu⟩ => ⟨r, h.mem_iff.1 hr, hu⟩, fun ⟨r, hr, hu⟩ => ⟨r, h.mem_iff.2 hr, hu⟩⟩
theorem gather_is (l : List Rg) (hl : l.length ≤ 4294967296) (hok : ∀ r ∈ l, okR r) : ∃ g, Ev (fun k => sets_gather.f k l) g ∧ Sound g ∧ (∀ u, mem g u = mem l u) ∧ g.length ≤ l.length := by
  have hp := sortRanges_perm l; have hln := sortRanges_length l; obtain ⟨g, hg, h1, h2, h3⟩ := gather0 (sortRanges l) (by omega) (fun r hr => hok r (hp.mem_iff.1 hr)) (sortRanges_sorted l) (sortRanges l).length 0 [] (by omega) (by omega) ⟨by simp, by simp⟩ (by simp) (by simp) (by simp [mem]); refine ⟨g, ?_, h1, fun u => (h2 u).trans (mem_perm hp u), by omega⟩; unfold sets_gather.f; exact ev_if_pos hl hg
theorem clipB_facts (lo hi : Int) (r : Rg) (hb : ∀ u, lo ≤ u → u ≤ hi → bandOf u = bandOf lo) (h0 : 0 ≤ bandOf lo) : (∀ x ∈ clipB lo hi r, okR x) ∧ ∀ u, mem (clipB lo hi r) u = (decide (lo ≤ u ∧ u ≤ hi) && decide (r.f0 ≤ u ∧ u ≤ r.f1)) := by
  have hL : (mx r.f0 lo = r.f0 ∨ mx r.f0 lo = lo) ∧ r.f0 ≤ mx r.f0 lo ∧ lo ≤ mx r.f0 lo := by unfold mx; split <;> omega
  have hH : (mn r.f1 hi = r.f1 ∨ mn r.f1 hi = hi) ∧ mn r.f1 hi ≤ r.f1 ∧ mn r.f1 hi ≤ hi := by unfold mn; split <;> omega
  unfold clipB
  generalize mx r.f0 lo = L at *
  generalize mn r.f1 hi = H at *
  by_cases h : L ≤ H
  · rw [if_pos h]
    have h1 := hb L (by omega) (by omega); have h2 := hb H (by omega) (by omega); refine ⟨fun x hx => ?_, fun u => ?_⟩; (· rw [List.mem_singleton] at hx; subst hx; exact ⟨by show 0 ≤ bandOf L; omega, by show bandOf L = bandOf H; omega, h⟩); (· rw [Bool.eq_iff_iff, Bool.and_eq_true, decide_eq_true_eq, decide_eq_true_eq, mem_iff]; simp only [List.mem_singleton, exists_eq_left]; omega)
  · rw [if_neg h]; refine ⟨by simp, fun u => ?_⟩; rw [Bool.eq_iff_iff, Bool.and_eq_true, decide_eq_true_eq, decide_eq_true_eq, mem_iff]; simp only [List.not_mem_nil, false_and, exists_false, false_iff]; omega
theorem clips_ok (r : Rg) : ∀ x ∈ clips r, okR x := by
  intro x hx; unfold clips at hx; rw [List.mem_append, List.mem_append] at hx
  rcases hx with (hx | hx) | hx
  (· exact (clipB_facts 0 55295 r (fun u a b => by rw [bandOf_0 ⟨a, b⟩]; rfl) (by decide)).1 x hx); (· exact (clipB_facts 57344 1114111 r (fun u a b => by rw [bandOf_1 ⟨a, b⟩]; rfl) (by decide)).1 x hx); (· exact (clipB_facts 1114240 1114367 r (fun u a b => by rw [bandOf_2 ⟨a, b⟩]; rfl) (by decide)).1 x hx)
theorem clips_mem (r : Rg) (u : Int) : mem (clips r) u = (isU u && decide (r.f0 ≤ u ∧ u ≤ r.f1)) := by
  unfold clips
  rw [mem_app, mem_app, (clipB_facts 0 55295 r (fun u a b => by rw [bandOf_0 ⟨a, b⟩]; rfl) (by decide)).2, (clipB_facts 57344 1114111 r (fun u a b => by rw [bandOf_1 ⟨a, b⟩]; rfl) (by decide)).2,
    (clipB_facts 1114240 1114367 r (fun u a b => by rw [bandOf_2 ⟨a, b⟩]; rfl) (by decide)).2, ← Bool.and_or_distrib_right, ← Bool.and_or_distrib_right]
  congr 1
  have c := bandOf_cases u; unfold isU; rw [Bool.eq_iff_iff]; simp only [Bool.or_eq_true, decide_eq_true_eq]; omega
theorem clips_len (r : Rg) : (clips r).length ≤ 3 := by
  unfold clips; have a := clipB_length 0 55295 r; have b := clipB_length 57344 1114111 r; have c := clipB_length 1114240 1114367 r; simp only [List.length_append]; omega
theorem flat_len : ∀ l : List Rg, (l.flatMap clips).length ≤ 3 * l.length
  | [] => by simp
  | r :: l => by have := flat_len l; have := clips_len r; simp only [List.flatMap_cons, List.length_append, List.length_cons]; omega
theorem flat_mem : ∀ (l : List Rg) (u : Int), mem (l.flatMap clips) u = (isU u && mem l u)
  | [], u => by simp [mem]
  | r :: l, u => by rw [List.flatMap_cons, mem_app, clips_mem, flat_mem l u, mem_cons, Bool.and_or_distrib_left]
def allUp (l : List Rg) : Bool := l.all fun r => decide (r.f0 ≤ r.f1)
theorem make_is (l : List Rg) (hl : l.length ≤ 1073741824) (hup : allUp l = true) : ∃ g, Ev (fun k => sets_Make.f k l) (g, 0) ∧ Sound g ∧ (∀ u, mem g u = (isU u && mem l u)) ∧ g.length ≤ 3 * l.length := by
  have h3 := flat_len l
  obtain ⟨g, hg, h1, h2, h4⟩ := gather_is (l.flatMap clips) (by omega) (fun r hr => by
    obtain ⟨x, _, hx⟩ := List.mem_flatMap.1 hr
    exact clips_ok x r hx)
  refine ⟨g, ?_, h1, fun u => (h2 u).trans (flat_mem l u), by omega⟩; unfold sets_Make.f; exact ev_if_pos hl (ev_if_pos hup (Ev.bind hg (Ev.now _)))
theorem make_no (l : List Rg) (hl : l.length ≤ 1073741824) (hup : allUp l = false) : Ev (fun k => sets_Make.f k l) ([], 2) := by
  unfold sets_Make.f; exact ev_if_pos hl (ev_if_neg (by unfold allUp at hup; simp [hup]) (Ev.now _))
end Go.Proofs.YtoggmegpodmfnaaGreatDoor.Q
namespace Go.Proofs.YtoggmegpodmfnaaGreatDoor.Q
open Go.RowKit Go.Proofs.YtoggmegpodmfnaaGreatDoorW.PrintWords Go.Proofs.YtoggmegpodmfnaaGreatDoorW.PrintLast Go.Proofs.YtoggmegpodmfnaaGreatDoorW.PrintMore Go.Proofs.YtoggmegpodmfnaaGreatDoor.PS Go.Proofs.YtoggmegpodmfnaaGreatDoor.B
set_option linter.unusedVariables false
set_option linter.unusedSimpArgs false
theorem has1_is (x : Rg) (u : Int) : sets_has_1.f x.f0 x.f1 u = some (if x.f1 < u then -1 else if x.f0 > u then 1 else 0) := by
  unfold sets_has_1.f
  repeat' split
  all_goals rfl
theorem search0 (l : List Rg) (u : Int) (hl : l.length ≤ 1073741824) (h : Sound l) : ∀ (d i j : Nat), j - i = d → i ≤ j → j ≤ l.length → (∀ q (hq : q < l.length), q < i → l[q].f1 < u) → (∀ q (hq : q < l.length), j ≤ q → u ≤ l[q].f1) →
    ∃ p, Ev (fun k => api_Range_rune.l0 k l u (l.length : Int) (i : Int) (j : Int)) (p, mem l u) := by
  intro d
  induction d using Nat.strongRecOn with
  | ind d ih =>
    intro i j hd hij hj hlo hhi
    by_cases hlt : i < j
    · obtain ⟨m, hm⟩ : ∃ m : Nat, m = (i + j) / 2 := ⟨_, rfl⟩
      have hmi : i ≤ m := by omega
      have hmj : m < j := by omega
      have hml : m < l.length := by omega
      have em : wrap64 ((IntKind.u64.wrap (wrap64 ((i : Int) + (j : Int)))) / 2) = (m : Int) := by
        have e1 : wrap64 ((i : Int) + (j : Int)) = ((i + j : Nat) : Int) := by unfold wrap64; omega
        rw [e1]
        have e2 : IntKind.u64.wrap ((i + j : Nat) : Int) = ((i + j : Nat) : Int) := by
          show ((i + j : Nat) : Int) % 18446744073709551616 = _; omega
        rw [e2]; unfold wrap64; omega
      by_cases hc : l[m].f1 < u
      · obtain ⟨p, hp⟩ := ih (j - (m + 1)) (by omega) (m + 1) j rfl (by omega) hj (fun q hq hqm => by
          by_cases e : q = m
          · subst e; exact hc
          · have h1 := List.pairwise_iff_getElem.1 h.2 q m hq hml (by omega)
            have h2 := (h.1 l[m] (List.getElem_mem hml)).2.2
            omega) hhi
        refine ⟨p, Ev.step (fun k => ?_) hp⟩; rw [api_Range_rune.l0, if_pos (by omega), em, if_pos (by omega), if_pos (by omega), rdT l m hml, has1_is, if_pos hc]; simp only [Option.bind_some]; rw [if_pos (by omega), wrapS m (by omega)]
      · obtain ⟨p, hp⟩ := ih (m - i) (by omega) i m rfl hmi (by omega) hlo (fun q hq hqm => by
          by_cases e : q = m
          · subst e; omega
          · have h1 := List.pairwise_iff_getElem.1 h.2 m q hml hq (by omega)
            have h2 := (h.1 l[q] (List.getElem_mem hq)).2.2
            omega)
        refine ⟨p, Ev.step (fun k => ?_) hp⟩; rw [api_Range_rune.l0, if_pos (by omega), em, if_pos (by omega), if_pos (by omega), rdT l m hml, has1_is, if_neg hc]; simp only [Option.bind_some]; rw [if_neg (by split <;> omega)]
    · obtain rfl : i = j := by omega
      by_cases hn : i < l.length
      · have hu := hhi i hn (by omega)
        have hmem : mem l u = decide (l[i].f0 ≤ u) := by
          rw [Bool.eq_iff_iff, mem_iff, decide_eq_true_eq]; constructor
          · rintro ⟨r, hr, h0, h1⟩
            obtain ⟨q, hq, rfl⟩ := List.getElem_of_mem hr; have := fun hlt => hlo q hq hlt
            by_cases e : q = i
            (· subst e; exact h0); (· have h3 := List.pairwise_iff_getElem.1 h.2 i q hn hq (by omega); omega)
          · exact fun h0 => ⟨l[i], List.getElem_mem hn, h0, hu⟩
        refine ⟨(i : Int), Ev.step (f := fun _ => some ((i : Int), mem l u)) (fun k => ?_) (Ev.now _)⟩; rw [api_Range_rune.l0, if_neg (by omega), if_pos (by omega), if_pos (by omega), if_pos (by omega), rdT l i hn, has1_is, if_neg (by omega), hmem]; simp only [Option.bind_some]
        by_cases h0 : l[i].f0 ≤ u
        (· rw [if_neg (by omega), decide_eq_true h0]; rfl); (· rw [if_pos (by omega), decide_eq_false h0]; rfl)
      · have hmem : mem l u = false := by
          rw [← Bool.not_eq_true, mem_iff]; rintro ⟨r, hr, h0, h1⟩; obtain ⟨q, hq, rfl⟩ := List.getElem_of_mem hr; have := hlo q hq (by omega); omega
        refine ⟨(i : Int), Ev.step (f := fun _ => some ((i : Int), mem l u)) (fun k => ?_) (Ev.now _)⟩; rw [api_Range_rune.l0, if_neg (by omega), if_neg (by omega), hmem]
theorem has_is (l : List Rg) (u : Int) (hl : l.length ≤ 1073741824) (h : Sound l) : Ev (fun k => sets_has.f k l u) (mem l u) := by
  obtain ⟨p, hp⟩ := search0 l u hl h l.length 0 l.length (by omega) (by omega) (by omega) (by omega) (by omega); unfold sets_has.f api_Range_rune.f; exact Ev.bind hp (Ev.now _)
theorem Has_is (l : List Rg) (u : Int) (hl : l.length ≤ 1073741824) (h : Sound l) : Ev (fun k => sets_Has.f k l u) (mem l u, 0) := by
  unfold sets_Has.f; refine Ev.bind (check_is l hl h.r32) ?_; rw [if_pos h]; exact ev_if_pos rfl (Ev.bind (has_is l u hl h) (Ev.now _))
theorem wakes_is : Ev (fun k => thistlelaw02_wakes.f k) true := by
  unfold thistlelaw02_wakes.f; obtain ⟨g, hg, h1, h2, _⟩ := make_is [⟨100, 100⟩, ⟨97, 99⟩] (by simp) (by decide)
  have hs : Sound [(⟨97, 100⟩ : Rg)] := by decide
  have : g = [⟨97, 100⟩] := sound_ext g _ h1 hs fun u => by
    rw [h2]; have c := bandOf_cases u; unfold isU; rw [Bool.eq_iff_iff, Bool.and_eq_true, mem_iff, mem_iff]; simp only [List.mem_cons, List.not_mem_nil, or_false, exists_eq_or_imp, exists_eq_left, decide_eq_true_eq]; omega
  subst this; refine Ev.bind hg ?_; exact ⟨0, fun k _ => rfl⟩
end Go.Proofs.YtoggmegpodmfnaaGreatDoor.Q
namespace Go.Proofs.YtoggmegpodmfnaaGreatDoor.Q
open Go.RowKit Go.Proofs.YtoggmegpodmfnaaGreatDoorW.PrintWords Go.Proofs.YtoggmegpodmfnaaGreatDoorW.PrintLast Go.Proofs.YtoggmegpodmfnaaGreatDoorW.PrintMore Go.Proofs.YtoggmegpodmfnaaGreatDoor.PS Go.Proofs.YtoggmegpodmfnaaGreatDoor.B
set_option linter.unusedVariables false
set_option linter.unusedSimpArgs false
theorem size0 (l : List Rg) (h : Sound l) : ∀ (d i : Nat), l.length - i = d → i ≤ l.length → Ev (fun k => sets_Size.l0 k (sz (l.take i)) l (l.length : Int) (i : Int)) (sz l, 0)
  | 0, i, hd, hi => by
    rw [List.take_of_length_le (by omega)]; refine Ev.step (f := fun _ => some (sz l, 0)) (fun k => ?_) (Ev.now _); rw [sets_Size.l0, if_neg (by omega)]
  | d + 1, i, hd, hi => by
    have hi : i < l.length := by omega
    have hl := sound_len h; have hx := h.1 l[i] (List.getElem_mem hi); obtain ⟨a0, a1, a2⟩ := hx; have b0 := bandOf_cases l[i].f0; have b1 := bandOf_cases l[i].f1
    have ht : l.take (i + 1) = l.take i ++ [l[i]] := by rw [List.take_add_one, List.getElem?_eq_getElem hi]; rfl
    have hs : Sound (l.take i) := ⟨fun r hr => h.1 r (List.mem_of_mem_take hr), h.2.sublist (List.take_sublist _ _)⟩; have hb := sz_bound hs
    have e : sz (l.take (i + 1)) = sz (l.take i) + (l[i].f1 - l[i].f0 + 1) := by rw [ht, sz_app]; simp [sz]
    refine Ev.step (fun k => ?_) (size0 l h d (i + 1) (by omega) (by omega)); rw [sets_Size.l0, if_pos (by omega), if_pos (by omega), if_pos (by omega), rdT l i hi, wrap32_of _ (by omega), wrap64_of (l[i].f1 - l[i].f0) (by omega), wrap64_of (l[i].f1 - l[i].f0 + 1) (by omega), wrap64_of _ (by omega), wrapS i (by omega), e]
theorem size_is (l : List Rg) (h : Sound l) : Ev (fun k => sets_Size.f k l) (sz l, 0) := by
  have hl := sound_len h; unfold sets_Size.f; refine Ev.bind (check_is l (by omega) h.r32) ?_; rw [if_pos h]; exact ev_if_pos rfl (by simpa [sz] using size0 l h l.length 0 (by omega) (by omega))
end Go.Proofs.YtoggmegpodmfnaaGreatDoor.Q
namespace Go.Proofs.YtoggmegpodmfnaaGreatDoor.Q
open Go.RowKit Go.Proofs.YtoggmegpodmfnaaGreatDoorW.PrintWords Go.Proofs.YtoggmegpodmfnaaGreatDoorW.PrintLast Go.Proofs.YtoggmegpodmfnaaGreatDoorW.PrintMore Go.Proofs.YtoggmegpodmfnaaGreatDoor.PS Go.Proofs.YtoggmegpodmfnaaGreatDoor.B
set_option linter.unusedVariables false
set_option linter.unusedSimpArgs false
theorem piece_ok {r : Rg} (hr : okR r) {lo hi : Int} (h0 : r.f0 ≤ lo) (h1 : lo ≤ hi) (h2 : hi ≤ r.f1) : okR ⟨lo, hi⟩ := by
  obtain ⟨a0, a1, a2⟩ := hr; have a := bandOf_cases r.f0; have b := bandOf_cases r.f1; have c := bandOf_cases lo; have d := bandOf_cases hi; refine ⟨?_, ?_, h1⟩; (· show 0 ≤ bandOf lo; omega); (· show bandOf lo = bandOf hi; omega)
theorem mem_single (lo hi u : Int) : mem [(⟨lo, hi⟩ : Rg)] u = decide (lo ≤ u ∧ u ≤ hi) := by simp [mem]
theorem wo2 (a b : List Rg) (ha : Sound a) (hb : Sound b) (i ki : Nat) (hi : i < a.length) (out0 : List Rg) (hm0 : ∀ u, mem out0 u = (mem (a.take i) u && !mem b u))
    (R : List Rg) (next : ∀ out2 : List Rg, Sound out2 → (∀ x ∈ out2, x.f1 ≤ a[i].f1) → (∀ u, mem out2 u = (mem (a.take (i + 1)) u && !mem b u)) → Ev (fun k => sets_without.l0 k b out2 (ki : Int) a (a.length : Int) ((i + 1 : Nat) : Int)) R)
    : ∀ (d j : Nat) (out : List Rg) (lo : Int), b.length - j = d → a[i].f0 ≤ lo → lo ≤ 1114369 → Sound out → (∀ x ∈ out, x.f1 + 1 < lo ∧ x.f1 ≤ a[i].f1) → (∀ q (hq : q < b.length), q < j → b[q].f1 < lo) → (∀ q (hq : q < b.length), j ≤ q → lo ≤ b[q].f1) →
      (∀ u, mem out u = (mem out0 u || (decide (a[i].f0 ≤ u ∧ u < lo ∧ u ≤ a[i].f1) && !mem b u))) → Ev (fun k => sets_without.l2 k b out (ki : Int) (j : Int) a (a.length : Int) (i : Int) lo a[i].f1) R := by
  have har := ha.1 a[i] (List.getElem_mem hi); have har32 := okR_r32 har; unfold R32 I32 at har32; have hal := sound_len ha; have hbl := sound_len hb
  have fin : ∀ (j : Nat) (out : List Rg) (lo : Int), a[i].f0 ≤ lo → lo ≤ 1114369 → Sound out → (∀ x ∈ out, x.f1 + 1 < lo ∧ x.f1 ≤ a[i].f1) → (∀ q (hq : q < b.length), q < j → b[q].f1 < lo) → (∀ q (hq : q < b.length), j ≤ q → a[i].f1 < b[q].f0) →
      (∀ u, mem out u = (mem out0 u || (decide (a[i].f0 ≤ u ∧ u < lo ∧ u ≤ a[i].f1) && !mem b u))) → Ev (fun k => sets_without.j4 k b out (ki : Int) (j : Int) a (a.length : Int) (i : Int) false lo a[i].f1) R := by
    intro j out lo h0 h1 hso hx hq hq2 hm; have hol := sound_len hso
    have hnb : ∀ u, lo ≤ u → u ≤ a[i].f1 → mem b u = false := by
      intro u hu1 hu2; rw [← Bool.not_eq_true, mem_iff]; rintro ⟨r, hr, hr0, hr1⟩; obtain ⟨q, hqb, rfl⟩ := List.getElem_of_mem hr
      by_cases hqj : q < j
      (· have := hq q hqb hqj; omega); (· have := hq2 q hqb (by omega); omega)
    by_cases hle : lo ≤ a[i].f1
    · refine Ev.step (fun k => ?_) (next (out ++ [⟨lo, a[i].f1⟩]) (by rw [sound_snoc]; exact ⟨hso, piece_ok har h0 hle (Int.le_refl _), fun x hxo => (hx x hxo).1⟩) (fun x hxo => by
        rw [List.mem_append] at hxo
        rcases hxo with hxo | hxo
        · exact (hx x hxo).2
        · rw [List.mem_singleton] at hxo; subst hxo; exact Int.le_refl _) (fun u => ?_))
      · rw [sets_without.j4, if_neg (by simp), if_pos hle, if_pos (by omega), wrapS i (by omega)]
      · rw [mem_app, mem_single, hm, hm0, mem_take a i hi, mem_single]
        by_cases hu : lo ≤ u ∧ u ≤ a[i].f1
        · rw [decide_eq_true hu, hnb u hu.1 hu.2, decide_eq_true (show a[i].f0 ≤ u ∧ u ≤ a[i].f1 from ⟨by omega, hu.2⟩)]; simp
        · rw [decide_eq_false hu, Bool.or_false]
          have : decide (a[i].f0 ≤ u ∧ u < lo ∧ u ≤ a[i].f1) = decide (a[i].f0 ≤ u ∧ u ≤ a[i].f1) := by rw [decide_eq_decide]; omega
          rw [this, Bool.and_or_distrib_right]
    · refine Ev.step (fun k => ?_) (next out hso (fun x hxo => (hx x hxo).2) (fun u => ?_))
      · rw [sets_without.j4, if_neg (by simp), if_neg hle, wrapS i (by omega)]
      · rw [hm, hm0, mem_take a i hi, mem_single]
        have : decide (a[i].f0 ≤ u ∧ u < lo ∧ u ≤ a[i].f1) = decide (a[i].f0 ≤ u ∧ u ≤ a[i].f1) := by rw [decide_eq_decide]; omega
        rw [this, Bool.and_or_distrib_right]
  intro d
  induction d with
  | zero =>
    intro j out lo hd h0 h1 hso hx hq hqg hm; refine Ev.step (fun k => ?_) (fin j out lo h0 h1 hso hx hq (fun q hq hj => by omega) hm); rw [sets_without.l2, if_neg (by omega)]
  | succ d ih =>
    intro j out lo hd h0 h1 hso hx hq hqg hm
    have hj : j < b.length := by omega
    have hbr := hb.1 b[j] (List.getElem_mem hj); have hbr1 := hbr.2.2; have hbc := bandOf_cases b[j].f1; have hb0c := bandOf_cases b[j].f0; have hol := sound_len hso; obtain ⟨bb0, bb1, bb2⟩ := hbr
    have hqg' : ∀ q (hq : q < b.length), j + 1 ≤ q → b[j].f1 + 1 ≤ b[q].f1 := by
      intro q hqb hqj; have h1 := List.pairwise_iff_getElem.1 hb.2 j q hj hqb (by omega); have h2 := (hb.1 b[q] (List.getElem_mem hqb)).2.2; omega
    have hge := hqg j hj (Nat.le_refl _)
    by_cases hc : b[j].f0 ≤ a[i].f1
    · have hq' : ∀ q (hq : q < b.length), q < j + 1 → b[q].f1 < b[j].f1 + 1 := by
        intro q hqb hqj
        by_cases e : q = j
        (· subst e; omega); (· have := List.pairwise_iff_getElem.1 hb.2 q j hqb hj (by omega); omega)
      by_cases hlt : b[j].f0 > lo
      · have h2 := ih (j + 1) (out ++ [⟨lo, b[j].f0 - 1⟩]) (b[j].f1 + 1) (by omega) (by omega) (by omega)
          (by rw [sound_snoc]; exact ⟨hso, piece_ok har h0 (by omega) (by omega), fun x hxo => (hx x hxo).1⟩)
          (fun x hxo => by
            rw [List.mem_append] at hxo
            rcases hxo with hxo | hxo
            · have := hx x hxo; omega
            · rw [List.mem_singleton] at hxo; subst hxo; simp only; omega) hq' hqg' (fun u => by
            rw [mem_app, mem_single, hm]; have hin : b[j].f0 ≤ u → u ≤ b[j].f1 → mem b u = true := fun h1 h2 => (mem_iff b u).2 ⟨b[j], List.getElem_mem hj, h1, h2⟩
            have hout : lo ≤ u → u < b[j].f0 → mem b u = false := by
              intro hu1 hu2; rw [← Bool.not_eq_true, mem_iff]; rintro ⟨r, hr, hr0, hr1⟩; obtain ⟨q, hqb, rfl⟩ := List.getElem_of_mem hr
              by_cases hqj : q < j
              · have := hq q hqb hqj; omega
              · by_cases e : q = j
                (· subst e; omega); (· have := List.pairwise_iff_getElem.1 hb.2 j q hj hqb (by omega); omega)
            by_cases hu1 : lo ≤ u ∧ u ≤ b[j].f0 - 1
            · rw [decide_eq_true hu1, hout hu1.1 (by omega), decide_eq_true (show a[i].f0 ≤ u ∧ u < b[j].f1 + 1 ∧ u ≤ a[i].f1 from ⟨by omega, by omega, by omega⟩)]; simp
            · rw [decide_eq_false hu1, Bool.or_false]
              by_cases hu2 : b[j].f0 ≤ u ∧ u ≤ b[j].f1
              · rw [hin hu2.1 hu2.2]; simp
              · have : decide (a[i].f0 ≤ u ∧ u < lo ∧ u ≤ a[i].f1) = decide (a[i].f0 ≤ u ∧ u < b[j].f1 + 1 ∧ u ≤ a[i].f1) := by rw [decide_eq_decide]; omega
                rw [this])
        refine Ev.step (f := fun k => sets_without.j4 k b out (ki : Int) (j : Int) a (a.length : Int) (i : Int) true lo a[i].f1) (fun k => ?_) (Ev.step (fun k => ?_) h2); (· rw [sets_without.l2, if_pos (by omega), if_pos (by omega), rdT b j hj, decide_eq_true hc]); (· rw [sets_without.j4, if_pos rfl, if_pos (by omega), if_pos (by omega), rdT b j hj, if_pos hlt, if_pos (by omega), wrapS j (by omega), wrap32_of _ (by omega), wrap32_of _ (by omega)])
      · have h2 : Ev (fun k => sets_without.l2 k b out (ki : Int) ((j + 1 : Nat) : Int) a (a.length : Int) (i : Int) (b[j].f1 + 1) a[i].f1) R := by
          refine ih (j + 1) out (b[j].f1 + 1) (by omega) (by omega) (by omega) hso (fun x hxo => by have := hx x hxo; omega) hq' hqg' (fun u => by
              rw [hm]; have hin : b[j].f0 ≤ u → u ≤ b[j].f1 → mem b u = true := fun h1 h2 => (mem_iff b u).2 ⟨b[j], List.getElem_mem hj, h1, h2⟩
              by_cases hu2 : b[j].f0 ≤ u ∧ u ≤ b[j].f1
              · rw [hin hu2.1 hu2.2]; simp
              · have : decide (a[i].f0 ≤ u ∧ u < lo ∧ u ≤ a[i].f1) = decide (a[i].f0 ≤ u ∧ u < b[j].f1 + 1 ∧ u ≤ a[i].f1) := by rw [decide_eq_decide]; omega
                rw [this])
        refine Ev.step (f := fun k => sets_without.j4 k b out (ki : Int) (j : Int) a (a.length : Int) (i : Int) true lo a[i].f1) (fun k => ?_) (Ev.step (fun k => ?_) h2); (· rw [sets_without.l2, if_pos (by omega), if_pos (by omega), rdT b j hj, decide_eq_true hc]); (· rw [sets_without.j4, if_pos rfl, if_pos (by omega), if_pos (by omega), rdT b j hj, if_neg hlt, wrapS j (by omega), wrap32_of _ (by omega)])
    · refine Ev.step (fun k => ?_) (fin j out lo h0 h1 hso hx hq (fun q hqb hjq => by
        by_cases e : q = j
        · subst e; omega
        · have := List.pairwise_iff_getElem.1 hb.2 j q hj hqb (by omega); omega) hm)
      rw [sets_without.l2, if_pos (by omega), if_pos (by omega), rdT b j hj, decide_eq_false hc]
theorem wo1 (a b : List Rg) (ha : Sound a) (hb : Sound b) (i : Nat) (hi : i < a.length) (out : List Rg) (hso : Sound out) (hx : ∀ x ∈ out, x.f1 + 1 < a[i].f0) (hm0 : ∀ u, mem out u = (mem (a.take i) u && !mem b u))
    (R : List Rg) (next : ∀ (ki : Nat) (out2 : List Rg), ki ≤ b.length → Sound out2 → (∀ x ∈ out2, x.f1 ≤ a[i].f1) → (∀ q (hq : q < b.length), q < ki → b[q].f1 < a[i].f0) → (∀ u, mem out2 u = (mem (a.take (i + 1)) u && !mem b u)) → Ev (fun k => sets_without.l0 k b out2 (ki : Int) a (a.length : Int) ((i + 1 : Nat) : Int)) R) :
    ∀ (d ki : Nat), b.length - ki = d → ki ≤ b.length → (∀ q (hq : q < b.length), q < ki → b[q].f1 < a[i].f0) → Ev (fun k => sets_without.l1 k b out (ki : Int) a (a.length : Int) (i : Int) a[i].f0 a[i].f1) R := by
  have har := ha.1 a[i] (List.getElem_mem hi); have hac := bandOf_cases a[i].f0; have hbl := sound_len hb; obtain ⟨a0, a1, a2⟩ := har
  have stop : ∀ ki : Nat, ki ≤ b.length → (∀ q (hq : q < b.length), q < ki → b[q].f1 < a[i].f0) → (∀ q (hq : q < b.length), ki ≤ q → a[i].f0 ≤ b[q].f1) → Ev (fun k => sets_without.j2 k b out (ki : Int) a (a.length : Int) (i : Int) a[i].f0 a[i].f1) R := by
    intro ki hk h1 h2; refine Ev.step (fun k => ?_) (wo2 a b ha hb i ki hi out hm0 R (fun out2 g1 g2 g3 => next ki out2 hk g1 g2 h1 g3) (b.length - ki) ki out a[i].f0 rfl (Int.le_refl _) (by omega) hso (fun x hxo => by have := hx x hxo; omega) h1 h2 (fun u => ?_)); (· rw [sets_without.j2]); (· rw [decide_eq_false (show ¬ (a[i].f0 ≤ u ∧ u < a[i].f0 ∧ u ≤ a[i].f1) by omega)]; simp)
  intro d
  induction d with
  | zero =>
    intro ki hd hk h1; refine Ev.step (fun k => ?_) (stop ki hk h1 (fun q hq hqk => by omega)); rw [sets_without.l1, if_neg (by omega)]
  | succ d ih =>
    intro ki hd hk h1
    have hki : ki < b.length := by omega
    by_cases hc : b[ki].f1 < a[i].f0
    · refine Ev.step (fun k => ?_) (ih (ki + 1) (by omega) (by omega) (fun q hq hqk => by
        by_cases e : q = ki
        · subst e; exact hc
        · exact h1 q hq (by omega)))
      rw [sets_without.l1, if_pos (by omega), if_pos (by omega), rdT b ki hki, if_pos hc, wrapS ki (by omega)]
    · refine Ev.step (fun k => ?_) (stop ki hk h1 (fun q hq hqk => by
        by_cases e : q = ki
        · subst e; omega
        · have h3 := List.pairwise_iff_getElem.1 hb.2 ki q hki hq (by omega)
          have h4 := (hb.1 b[q] (List.getElem_mem hq)).2.2
          omega))
      rw [sets_without.l1, if_pos (by omega), if_pos (by omega), rdT b ki hki, if_neg hc]
theorem set_of (p : Int → Bool) (hp : ∀ u, p u = true → isU u = true) : ∃ R, Sound R ∧ ∀ u, mem R u = p u := by
  obtain ⟨g, _, h1, h2, _⟩ := gather_is (((List.range 1114368).filter fun n : Nat => p (n : Int)).map fun n : Nat => (⟨(n : Int), (n : Int)⟩ : Rg)) (by
    rw [List.length_map]; have := List.length_filter_le (fun n : Nat => p (n : Int)) (List.range 1114368); rw [List.length_range] at this
    omega) (fun r hr => by
    obtain ⟨n, hn, rfl⟩ := List.mem_map.1 hr; have h := hp _ (List.mem_filter.1 hn).2; unfold isU at h
    exact ⟨by simpa using h, rfl, Int.le_refl _⟩)
  refine ⟨g, h1, fun u => ?_⟩; rw [h2, Bool.eq_iff_iff, mem_iff]; constructor
  · rintro ⟨r, hr, h3, h4⟩
    obtain ⟨n, hn, rfl⟩ := List.mem_map.1 hr; simp only at h3 h4
    obtain rfl : u = (n : Int) := by omega
    exact (List.mem_filter.1 hn).2
  · intro h; have hu := hp u h; have hc := bandOf_cases u; unfold isU at hu; simp only [decide_eq_true_eq] at hu; obtain ⟨n, rfl⟩ := Int.eq_ofNat_of_zero_le (show 0 ≤ u by omega); exact ⟨⟨(n : Int), (n : Int)⟩, List.mem_map.2 ⟨n, List.mem_filter.2 ⟨List.mem_range.2 (by omega), h⟩, rfl⟩, Int.le_refl _, Int.le_refl _⟩
theorem wo0 (a b : List Rg) (ha : Sound a) (hb : Sound b) : ∀ (d i ki : Nat) (out : List Rg), a.length - i = d → i ≤ a.length → ki ≤ b.length → Sound out → (∀ x ∈ out, ∀ r ∈ a.drop i, x.f1 + 1 < r.f0) → (∀ q (hq : q < b.length), q < ki → ∀ r ∈ a.drop i, b[q].f1 < r.f0) →
    (∀ u, mem out u = (mem (a.take i) u && !mem b u)) → ∃ R, Ev (fun k => sets_without.l0 k b out (ki : Int) a (a.length : Int) (i : Int)) R ∧ Sound R ∧ ∀ u, mem R u = (mem a u && !mem b u)
  | 0, i, ki, out, hd, hi, hk, hso, hx, hq, hm => by
    rw [List.take_of_length_le (by omega)] at hm; refine ⟨out, Ev.step (f := fun _ => some out) (fun k => ?_) (Ev.now _), hso, hm⟩; rw [sets_without.l0, if_neg (by omega)]
  | d + 1, i, ki, out, hd, hi, hk, hso, hx, hq, hm => by
    have hi : i < a.length := by omega
    have hal := sound_len ha; have hdr : a.drop i = a[i] :: a.drop (i + 1) := List.drop_eq_getElem_cons hi
    have hmem : a[i] ∈ a.drop i := by rw [hdr]; exact List.mem_cons_self
    have hgap : ∀ r ∈ a.drop (i + 1), a[i].f1 + 1 < r.f0 := by
      have := (List.pairwise_append.1 (by rw [List.take_append_drop i a]; exact ha.2 : (a.take i ++ a.drop i).Pairwise _)).2.1; rw [hdr] at this; exact (List.pairwise_cons.1 this).1
    have har := (ha.1 a[i] (List.getElem_mem hi)).2.2
    obtain ⟨R0, hR0⟩ : ∃ R0 : List Rg, Sound R0 ∧ ∀ u, mem R0 u = (mem a u && !mem b u) := by
      exact set_of (fun u => mem a u && !mem b u) (fun u hu => ha.unit (by simp only [Bool.and_eq_true] at hu; exact hu.1))
    refine ⟨R0, ?_, hR0⟩; refine Ev.step (fun k => ?_) (wo1 a b ha hb i hi out hso (fun x hxo => hx x hxo _ hmem) hm R0 (fun k2 out2 h1 h2 h3 h4 h5 => ?_) (b.length - ki) ki rfl hk (fun q hqb hqk => hq q hqb hqk _ hmem)); (· rw [sets_without.l0, if_pos (by omega), if_pos (by omega), if_pos (by omega), rdT a i hi]); (· obtain ⟨R, hR, hs, hmR⟩ := wo0 a b ha hb d (i + 1) k2 out2 (by omega) (by omega) h1 h2 (fun x hxo r hr => by have := h3 x hxo; have := hgap r hr; omega) (fun q hqb hqk r hr => by have := h4 q hqb hqk; have := hgap r hr; omega) h5; have : R = R0 := sound_ext R R0 hs hR0.1 (fun u => (hmR u).trans (hR0.2 u).symm); rw [← this]; exact hR)
theorem without_is (a b : List Rg) (ha : Sound a) (hb : Sound b) : ∃ R, Ev (fun k => sets_without.f k a b) R ∧ Sound R ∧ ∀ u, mem R u = (mem a u && !mem b u) := by
  unfold sets_without.f; exact wo0 a b ha hb a.length 0 0 [] (by omega) (by omega) (by omega) ⟨by simp, by simp⟩ (by simp) (fun q hq hq0 => by omega) (fun u => by simp [mem])
theorem checks_two (a b : List Rg) (ha : Sound a) (hb : Sound b) : Ev (fun k => sets_check.f k [a, b]) 0 := by
  have hal := sound_len ha; have hbl := sound_len hb; unfold sets_check.f; refine Ev.step (f := fun k => (sets_Check.f k a).bind fun t191 => if t191 = 0 then sets_check.l0 k [a, b] 2 1 else some 1) (fun k => ?_) (Ev.bind (check_is a (by omega) ha.r32) ?_); (· rw [sets_check.l0, if_pos (by simp), if_pos (by omega), if_pos (by simp), show rd_L4 [a, b] 0 = a from rfl, show wrap64 (0 + 1) = 1 by unfold wrap64; omega]; rfl)
  · rw [if_pos ha]
    refine ev_if_pos rfl (Ev.step (f := fun k => (sets_Check.f k b).bind fun t191 => if t191 = 0 then sets_check.l0 k [a, b] 2 2 else some 1) (fun k => ?_) (Ev.bind (check_is b (by omega) hb.r32) ?_)); (· rw [sets_check.l0, if_pos (by omega), if_pos (by omega), if_pos (by simp), show rd_L4 [a, b] 1 = b from rfl, show wrap64 (1 + 1) = 2 by unfold wrap64; omega]); (· rw [if_pos hb]; exact ev_if_pos rfl (Ev.step (f := fun _ => some 0) (fun k => by rw [sets_check.l0, if_neg (by omega)]) (Ev.now _)))
def allB : List Rg := [⟨0, 55295⟩, ⟨57344, 1114111⟩, ⟨1114240, 1114367⟩]
theorem allB_sound : Sound allB := by decide
theorem allB_mem (u : Int) : mem allB u = isU u := by
  have c := bandOf_cases u; unfold allB isU; rw [Bool.eq_iff_iff, mem_iff]; simp only [List.mem_cons, List.not_mem_nil, or_false, exists_eq_or_imp, exists_eq_left, decide_eq_true_eq]; omega
theorem and_is (a b : List Rg) (ha : Sound a) (hb : Sound b) : ∃ R, Ev (fun k => sets_And.f k a b) (R, 0) ∧ Sound R ∧ ∀ u, mem R u = (mem a u && mem b u) := by
  obtain ⟨N, hN, hNs, hNm⟩ := without_is allB b allB_sound hb; obtain ⟨R, hR, hRs, hRm⟩ := without_is a N ha hNs; refine ⟨R, ?_, hRs, fun u => ?_⟩; (· unfold sets_And.f; exact Ev.bind (checks_two a b ha hb) (ev_if_pos rfl (Ev.bind hN (Ev.bind hR (Ev.now _)))))
  · rw [hRm, hNm, allB_mem]
    cases hm : mem a u with
    | false => simp
    | true => rw [ha.unit hm]; simp
theorem not_is (a : List Rg) (ha : Sound a) : ∃ R, Ev (fun k => sets_Not.f k a) (R, 0) ∧ Sound R ∧ ∀ u, mem R u = (isU u && !mem a u) := by
  have hal := sound_len ha; obtain ⟨N, hN, hNs, hNm⟩ := without_is allB a allB_sound ha; refine ⟨N, ?_, hNs, fun u => by rw [hNm, allB_mem]⟩; unfold sets_Not.f; refine Ev.bind (check_is a (by omega) ha.r32) ?_; rw [if_pos ha]; exact ev_if_pos rfl (Ev.bind hN (Ev.now _))
def allR : List Rg := [⟨0, 55295⟩, ⟨57344, 1114111⟩]
theorem allR_sound : Sound allR := by decide
theorem allR_mem (u : Int) : mem allR u = (isU u && decide (u ≤ 1114111)) := by
  have c := bandOf_cases u; unfold allR isU; rw [Bool.eq_iff_iff, mem_iff]; simp only [List.mem_cons, List.not_mem_nil, or_false, exists_eq_or_imp, exists_eq_left, decide_eq_true_eq, Bool.and_eq_true]; omega
theorem notRunes_is (a : List Rg) (ha : Sound a) : ∃ R, Ev (fun k => sets_NotRunes.f k a) (R, 0) ∧ Sound R ∧ ∀ u, mem R u = (isU u && decide (u ≤ 1114111) && !mem a u) := by
  have hal := sound_len ha; obtain ⟨N, hN, hNs, hNm⟩ := without_is allR a allR_sound ha; refine ⟨N, ?_, hNs, fun u => by rw [hNm, allR_mem]⟩; unfold sets_NotRunes.f; refine Ev.bind (check_is a (by omega) ha.r32) ?_; rw [if_pos ha]; exact ev_if_pos rfl (Ev.bind hN (Ev.now _))
def cnt (p : Int → Bool) : Nat := (List.range 1114368).countP fun u : Nat => p (u : Int)
end Go.Proofs.YtoggmegpodmfnaaGreatDoor.Q
namespace Go.Proofs.YtoggmegpodmfnaaGreatDoor.Q
open Go.RowKit Go.Proofs.YtoggmegpodmfnaaGreatDoorW.PrintWords Go.Proofs.YtoggmegpodmfnaaGreatDoorW.PrintLast Go.Proofs.YtoggmegpodmfnaaGreatDoorW.PrintMore Go.Proofs.YtoggmegpodmfnaaGreatDoor.PS Go.Proofs.YtoggmegpodmfnaaGreatDoor.B
set_option linter.unusedVariables false
set_option linter.unusedSimpArgs false
theorem pick0 (l : List Rg) (h : Sound l) : ∀ (d i : Nat) (k : Int), l.length - i = d → i ≤ l.length → 0 ≤ k → k ≤ 9223372036854775807 →
    Ev (fun n => sets_Pick.l0 n k l (l.length : Int) (i : Int)) (if k < sz (l.drop i) then (rd (units (l.drop i)) k, 0) else (0, 2))
  | 0, i, k, hd, hi, h0, hk => by
    have : l.drop i = [] := List.drop_eq_nil_of_le (by omega); rw [this, if_neg (by simp [sz]; omega)]; refine Ev.step (f := fun _ => some (0, 2)) (fun n => ?_) (Ev.now _); rw [sets_Pick.l0, if_neg (by omega)]
  | d + 1, i, k, hd, hi, h0, hk => by
    have hi : i < l.length := by omega
    have hl := sound_len h; have hx := h.1 l[i] (List.getElem_mem hi); obtain ⟨a0, a1, a2⟩ := hx; have b0 := bandOf_cases l[i].f0; have b1 := bandOf_cases l[i].f1
    have hdr : l.drop i = l[i] :: l.drop (i + 1) := by rw [List.drop_eq_getElem_cons hi]
    have e : sz (l.drop i) = l[i].f1 - l[i].f0 + 1 + sz (l.drop (i + 1)) := by rw [hdr, sz_cons]
    have hs : Sound (l.drop (i + 1)) := ⟨fun r hr => h.1 r (List.mem_of_mem_drop hr), h.2.sublist (List.drop_sublist _ _)⟩; have hb := sz_bound hs
    have hn : ∀ n, sets_Pick.l0 (n + 1) k l (l.length : Int) (i : Int) = if k < l[i].f1 - l[i].f0 + 1 then some (l[i].f0 + k, 0) else sets_Pick.l0 n (k - (l[i].f1 - l[i].f0 + 1)) l (l.length : Int) ((i + 1 : Nat) : Int) := by
      intro n; rw [sets_Pick.l0, if_pos (by omega), if_pos (by omega), if_pos (by omega), rdT l i hi, wrap32_of (l[i].f1 - l[i].f0) (by omega), wrap64_of (l[i].f1 - l[i].f0) (by omega), wrap64_of (l[i].f1 - l[i].f0 + 1) (by omega)]
      by_cases hc : k < l[i].f1 - l[i].f0 + 1
      (· rw [if_pos hc, if_pos hc, wrap32_of k (by omega), wrap32_of _ (by omega)]); (· rw [if_neg hc, if_neg hc, wrap64_of _ (by omega), wrapS i (by omega)])
    by_cases hc : k < l[i].f1 - l[i].f0 + 1
    · rw [if_pos (by omega), hdr, units_cons, rd_left _ _ _ h0 (by rw [uR_len]; omega), rd_uR _ _ h0 hc]; refine Ev.step (f := fun _ => some (l[i].f0 + k, 0)) (fun n => ?_) (Ev.now _); rw [hn, if_pos hc]
    · have ih := pick0 l h d (i + 1) (k - (l[i].f1 - l[i].f0 + 1)) (by omega) (by omega) (by omega) (by omega)
      have e2 : (if k < sz (l.drop i) then (rd (units (l.drop i)) k, (0 : Int)) else (0, 2)) = (if k - (l[i].f1 - l[i].f0 + 1) < sz (l.drop (i + 1)) then (rd (units (l.drop (i + 1))) (k - (l[i].f1 - l[i].f0 + 1)), 0) else (0, 2)) := by
        have hr : rd (units (l.drop i)) k = rd (units (l.drop (i + 1))) (k - (l[i].f1 - l[i].f0 + 1)) := by
          rw [hdr, units_cons, rd_right _ _ _ (by rw [uR_len]; omega), uR_len]
          congr 1
          omega
        rw [hr]
        by_cases hz : k < sz (l.drop i)
        (· rw [if_pos hz, if_pos (by omega)]); (· rw [if_neg hz, if_neg (by omega)])
      rw [e2]; refine Ev.step (fun n => ?_) ih; rw [hn, if_neg hc]
theorem pick_is (l : List Rg) (h : Sound l) (k : Int) (hk : k ≤ 9223372036854775807) : Ev (fun n => sets_Pick.f n l k) (if 0 ≤ k ∧ k < sz l then (rd (units l) k, 0) else (0, 2)) := by
  have hl := sound_len h; unfold sets_Pick.f; refine Ev.bind (check_is l (by omega) h.r32) ?_; rw [if_pos h]; refine ev_if_pos rfl ?_
  by_cases h0 : k < 0
  · rw [if_neg (by omega)]; exact ev_if_pos h0 (Ev.now _)
  · have := pick0 l h l.length 0 k (by omega) (by omega) (by omega) hk
    refine ev_if_neg h0 ?_
    by_cases hz : k < sz l
    (· rw [if_pos ⟨by omega, hz⟩]; simpa [hz] using this); (· rw [if_neg (by omega)]; simpa [hz] using this)
end Go.Proofs.YtoggmegpodmfnaaGreatDoor.Q
namespace Go.Proofs.YtoggmegpodmfnaaGreatDoor.Q
open Go.RowKit Go.Proofs.YtoggmegpodmfnaaGreatDoorW.PrintWords Go.Proofs.YtoggmegpodmfnaaGreatDoorW.PrintLast Go.Proofs.YtoggmegpodmfnaaGreatDoorW.PrintMore Go.Proofs.YtoggmegpodmfnaaGreatDoor.PS Go.Proofs.YtoggmegpodmfnaaGreatDoor.B
set_option linter.unusedVariables false
set_option linter.unusedSimpArgs false
theorem checks_no {a b : List Rg} (ha : a.length ≤ 1073741824) (hb : b.length ≤ 1073741824) (hra : ∀ r ∈ a, R32 r) (hrb : ∀ r ∈ b, R32 r) (h : ¬ (Sound a ∧ Sound b)) : Ev (fun k => sets_check.f k [a, b]) 1 := by
  unfold sets_check.f; refine Ev.step (f := fun k => (sets_Check.f k a).bind fun t191 => if t191 = 0 then sets_check.l0 k [a, b] 2 1 else some 1) (fun k => ?_) (Ev.bind (check_is a ha hra) ?_); (· rw [sets_check.l0, if_pos (by simp), if_pos (by omega), if_pos (by simp), show rd_L4 [a, b] 0 = a from rfl, show wrap64 (0 + 1) = 1 by unfold wrap64; omega]; rfl)
  · by_cases hs : Sound a
    · rw [if_pos hs]
      have hb2 : ¬ Sound b := fun h2 => h ⟨hs, h2⟩; refine ev_if_pos rfl (Ev.step (f := fun k => (sets_Check.f k b).bind fun t191 => if t191 = 0 then sets_check.l0 k [a, b] 2 2 else some 1) (fun k => ?_) (Ev.bind (check_is b hb hrb) ?_)); (· rw [sets_check.l0, if_pos (by omega), if_pos (by omega), if_pos (by simp), show rd_L4 [a, b] 1 = b from rfl, show wrap64 (1 + 1) = 2 by unfold wrap64; omega]); (· rw [if_neg hb2]; exact ev_if_neg (by decide) (Ev.now _))
    · rw [if_neg hs]; exact ev_if_neg (by decide) (Ev.now _)
section
variable {a b : List Rg} (ha : a.length ≤ 1073741824) (hb : b.length ≤ 1073741824) (hra : ∀ r ∈ a, R32 r) (hrb : ∀ r ∈ b, R32 r)
include ha hra
theorem and_no (hb : b.length ≤ 1073741824) (hrb : ∀ r ∈ b, R32 r) (h : ¬ (Sound a ∧ Sound b)) : Ev (fun k => sets_And.f k a b) ([], 1) := by
  unfold sets_And.f; exact Ev.bind (checks_no ha hb hra hrb h) (ev_if_neg (by decide) (Ev.now _))
theorem check_no (h : ¬ Sound a) : Ev (fun k => sets_Check.f k a) 1 := by
  have := check_is a ha hra; rw [if_neg h] at this; exact this
theorem not_no (h : ¬ Sound a) : Ev (fun k => sets_Not.f k a) ([], 1) := by
  unfold sets_Not.f; exact Ev.bind (check_no ha hra h) (ev_if_neg (by decide) (Ev.now _))
theorem notRunes_no (h : ¬ Sound a) : Ev (fun k => sets_NotRunes.f k a) ([], 1) := by
  unfold sets_NotRunes.f; exact Ev.bind (check_no ha hra h) (ev_if_neg (by decide) (Ev.now _))
theorem has_no (u : Int) (h : ¬ Sound a) : Ev (fun k => sets_Has.f k a u) (false, 1) := by
  unfold sets_Has.f; exact Ev.bind (check_no ha hra h) (ev_if_neg (by decide) (Ev.now _))
theorem size_no (h : ¬ Sound a) : Ev (fun k => sets_Size.f k a) (0, 1) := by
  unfold sets_Size.f; exact Ev.bind (check_no ha hra h) (ev_if_neg (by decide) (Ev.now _))
theorem pick_no (n : Int) (h : ¬ Sound a) : Ev (fun k => sets_Pick.f k a n) (0, 1) := by
  unfold sets_Pick.f; exact Ev.bind (check_no ha hra h) (ev_if_neg (by decide) (Ev.now _))
end
end Go.Proofs.YtoggmegpodmfnaaGreatDoor.Q
namespace Go.Proofs.YtoggmegpodmfnaaGreatDoor.Q
open Go.RowKit Go.Proofs.YtoggmegpodmfnaaGreatDoorW.PrintWords Go.Proofs.YtoggmegpodmfnaaGreatDoorW.PrintLast Go.Proofs.YtoggmegpodmfnaaGreatDoorW.PrintMore Go.Proofs.YtoggmegpodmfnaaGreatDoor.PS Go.Proofs.YtoggmegpodmfnaaGreatDoor.B
set_option linter.unusedVariables false
set_option linter.unusedSimpArgs false
def dval (l : List UInt8) : Nat := l.foldl (fun a c => a * 10 + (c.toNat - 48)) 0
theorem dval_snoc (l : List UInt8) (c : UInt8) : dval (l ++ [c]) = dval l * 10 + (c.toNat - 48) := by simp [dval]
theorem digit_nat (d : Nat) (h : d < 10) : (UInt8.ofNat (48 + d)).toNat = 48 + d := by
  simp [UInt8.toNat_ofNat]
  omega
theorem dec_val (u : Nat) : dval (Lib.decDigits u) = u ∧ ∀ c ∈ Lib.decDigits u, c ≠ 44 := by
  induction u using Nat.strongRecOn with
  | _ u ih =>
    rw [Lib.decDigits]
    have hd : ∀ d : Nat, d < 10 → UInt8.ofNat (48 + d) ≠ 44 := fun d hd e => by
      have h1 := digit_nat d hd; rw [e] at h1; have : (44 : UInt8).toNat = 44 := rfl; omega
    by_cases h : u < 10
    · rw [dif_pos h]; refine ⟨?_, fun c hc => by rw [List.mem_singleton.1 hc]; exact hd u h⟩; have := digit_nat u h; show 0 * 10 + ((UInt8.ofNat (48 + u)).toNat - 48) = u; omega
    · rw [dif_neg h]
      obtain ⟨h1, h2⟩ := ih (u / 10) (by omega); refine ⟨?_, fun c hc => ?_⟩; (· rw [dval_snoc, h1, digit_nat (u % 10) (by omega)]; omega)
      · rcases List.mem_append.1 hc with h3 | h3
        (· exact h2 c h3); (· rw [List.mem_singleton.1 h3]; exact hd (u % 10) (by omega))
def toks : List UInt8 → List UInt8 → List Nat
  | _, [] => []
  | cur, c :: r => if c = 44 then dval cur :: toks [] r else toks (cur ++ [c]) r
theorem toks_word : ∀ (w cur r : List UInt8), (∀ c ∈ w, c ≠ 44) → toks cur (w ++ 44 :: r) = dval (cur ++ w) :: toks [] r
  | [], cur, r, _ => by simp [toks]
  | c :: w, cur, r, h => by
    rw [List.cons_append, toks, if_neg (h c (by simp)), toks_word w (cur ++ [c]) r (fun x hx => h x (by simp [hx]))]
    simp
theorem toks_key (j : Nat) (r : List UInt8) : toks [] (sets_Parts.keyB j ++ r) = j :: toks [] r := by
  have e : Lib.itoa (j : Int) = Lib.decDigits j := by unfold Lib.itoa; rw [if_neg (by omega)]; simp
  unfold sets_Parts.keyB; rw [e, List.append_assoc, List.singleton_append, toks_word _ _ _ (dec_val j).2, List.nil_append, (dec_val j).1]
theorem toks_flat (p : Nat → Bool) : ∀ l : List Nat, toks [] (l.flatMap fun j => if p j = true then sets_Parts.keyB j else []) = l.filter p
  | [] => rfl
  | j :: l => by
    rw [List.flatMap_cons, List.filter_cons]
    cases h : p j with
    | true => rw [if_pos rfl, if_pos rfl, toks_key, toks_flat p l]
    | false => rw [if_neg (by simp), if_neg (by simp), List.nil_append, toks_flat p l]
theorem key_inj (l0 : List (List S41)) (u v : Int) (n : Nat) : sets_Parts.keyN l0 u n = sets_Parts.keyN l0 v n ↔ ∀ j, j < n → sets_Parts.inS (rd_L4 l0 (j : Int)) u = sets_Parts.inS (rd_L4 l0 (j : Int)) v := by
  have hk : ∀ u : Int, toks [] (sets_Parts.keyN l0 u n) = (List.range n).filter (fun j : Nat => sets_Parts.inS (rd_L4 l0 (j : Int)) u) := fun u => toks_flat _ _; constructor
  · intro h j hj
    have h1 := hk u; rw [h, hk v] at h1
    have h2 : ∀ j, j ∈ (List.range n).filter (fun j : Nat => sets_Parts.inS (rd_L4 l0 (j : Int)) v) ↔ j ∈ (List.range n).filter (fun j : Nat => sets_Parts.inS (rd_L4 l0 (j : Int)) u) := fun j => by rw [h1]
    have h3 := h2 j; simp only [List.mem_filter, List.mem_range, hj, true_and] at h3; rw [Bool.eq_iff_iff]; exact h3.symm
  · intro h
    unfold sets_Parts.keyN
    have : ∀ l : List Nat, (∀ j ∈ l, j < n) → (l.flatMap fun (j : Nat) => if sets_Parts.inS (rd_L4 l0 (j : Int)) u then sets_Parts.keyB j else []) = (l.flatMap fun (j : Nat) => if sets_Parts.inS (rd_L4 l0 (j : Int)) v then sets_Parts.keyB j else []) := by
      intro l
      induction l with
      | nil => intro _; rfl
      | cons j l ih =>
        intro hl; rw [List.flatMap_cons, List.flatMap_cons, ih (fun x hx => hl x (by simp [hx])), h j (hl j (by simp))]
    exact this _ (fun j hj => List.mem_range.1 hj)
end Go.Proofs.YtoggmegpodmfnaaGreatDoor.Q
namespace Go.Proofs.YtoggmegpodmfnaaGreatDoor.Q
open Go.RowKit Go.Proofs.YtoggmegpodmfnaaGreatDoorW.PrintWords Go.Proofs.YtoggmegpodmfnaaGreatDoorW.PrintLast Go.Proofs.YtoggmegpodmfnaaGreatDoorW.PrintMore Go.Proofs.YtoggmegpodmfnaaGreatDoor.PS Go.Proofs.YtoggmegpodmfnaaGreatDoor.B
set_option linter.unusedVariables false
set_option linter.unusedSimpArgs false
theorem bandHi_eq (u : Int) (h : 0 ≤ bandOf u) : bandOf (sets_Parts.bandHi u) = bandOf u ∧ u ≤ sets_Parts.bandHi u ∧ ∀ x, u ≤ x → x ≤ sets_Parts.bandHi u → bandOf x = bandOf u := by
  have c := bandOf_cases u; unfold sets_Parts.bandHi
  rcases c with ⟨e, h1, h2⟩ | ⟨e, h1, h2⟩ | ⟨e, h1, h2⟩ | ⟨e, _⟩
  (· rw [e, if_pos rfl]; exact ⟨by decide, h2, fun x hx1 hx2 => bandOf_0 ⟨by omega, hx2⟩⟩); (· rw [e, if_neg (by decide), if_pos rfl]; exact ⟨by decide, h2, fun x hx1 hx2 => bandOf_1 ⟨by omega, hx2⟩⟩); (· rw [e, if_neg (by decide), if_neg (by decide)]; exact ⟨by decide, h2, fun x hx1 hx2 => bandOf_2 ⟨by omega, hx2⟩⟩); (· omega)
theorem bandHi_same {x u : Int} (h : bandOf x = bandOf u) : sets_Parts.bandHi x = sets_Parts.bandHi u := by unfold sets_Parts.bandHi; rw [h]
section
variable {L : List (List Rg)}
theorem cs_at (i : Nat) (h : i < (sets_Parts.cs L).length) : (sets_Parts.cs L).getD i 0 = (sets_Parts.cs L)[i] := by simp [h]
theorem cs_get_mem (i : Nat) (h : i < (sets_Parts.cs L).length) : (sets_Parts.cs L).getD i 0 ∈ sets_Parts.cs L := by rw [cs_at i h]; exact List.getElem_mem h
theorem cs_lt {i j : Nat} (hj : j < (sets_Parts.cs L).length) (hij : i < j) : (sets_Parts.cs L).getD i 0 < (sets_Parts.cs L).getD j 0 := by
  rw [cs_at i (by omega), cs_at j hj]; exact List.pairwise_iff_getElem.1 (sets_Parts.cs_asc L) i j (by omega) hj hij
theorem pc_hi (i : Nat) : (sets_Parts.pc (sets_Parts.cs L) i).f1 ≤ sets_Parts.bandHi ((sets_Parts.cs L).getD i 0) ∧ (i + 1 < (sets_Parts.cs L).length → (sets_Parts.pc (sets_Parts.cs L) i).f1 < (sets_Parts.cs L).getD (i + 1) 0) := by
  unfold sets_Parts.pc
  by_cases h : i + 1 < (sets_Parts.cs L).length
  · simp only [if_pos h]
    unfold mn; constructor
    · split <;> omega
    · intro _; split <;> omega
  · simp only [if_neg h]; exact ⟨Int.le_refl _, fun h' => absurd h' h⟩
theorem pc_ge {x : Int} (i : Nat) (hi : i < (sets_Parts.cs L).length) (h1 : x ≤ sets_Parts.bandHi ((sets_Parts.cs L).getD i 0)) (h2 : i + 1 < (sets_Parts.cs L).length → x < (sets_Parts.cs L).getD (i + 1) 0) : x ≤ (sets_Parts.pc (sets_Parts.cs L) i).f1 := by
  unfold sets_Parts.pc
  by_cases h : i + 1 < (sets_Parts.cs L).length
  · simp only [if_pos h]
    have := h2 h; unfold mn
    split <;> omega
  · simp only [if_neg h]; exact h1
theorem pc_ok (hg : sets_Parts.Good L) (i : Nat) (hi : i < (sets_Parts.cs L).length) : okR (sets_Parts.pc (sets_Parts.cs L) i) := by
  have hb := hg.bands _ (cs_get_mem i hi); obtain ⟨h1, h2, h3⟩ := bandHi_eq _ hb; have hle : (sets_Parts.cs L).getD i 0 ≤ (sets_Parts.pc (sets_Parts.cs L) i).f1 := pc_ge i hi h2 (fun h => cs_lt h (Nat.lt_succ_self i)); exact ⟨hb, (h3 _ hle (pc_hi i).1).symm, hle⟩
theorem pc_none {i : Nat} (hi : i < (sets_Parts.cs L).length) {v : Int} (hv : v ∈ sets_Parts.cs L) (h1 : (sets_Parts.cs L).getD i 0 < v) : (sets_Parts.pc (sets_Parts.cs L) i).f1 < v := by
  obtain ⟨t, ht, rfl⟩ := List.getElem_of_mem hv
  have hit : i < t := by
    rcases Nat.lt_trichotomy i t with h | h | h
    (· exact h); (· subst h; rw [cs_at i hi] at h1; omega); (· have := cs_lt hi h; rw [cs_at t ht] at this; omega)
  have h2 := (pc_hi (L := L) i).2 (by omega)
  rcases Nat.lt_or_ge (i + 1) t with h | h
  · have h3 := cs_lt ht h; rw [cs_at t ht] at h3; omega
  · have : t = i + 1 := by omega
    subst this; rw [cs_at (i + 1) ht] at h2; exact h2
theorem last_below (l : List Int) (x : Int) : (∃ v ∈ l, v ≤ x) → l.Pairwise (fun a b => a < b) → ∃ i, i < l.length ∧ l.getD i 0 ≤ x ∧ (i + 1 < l.length → x < l.getD (i + 1) 0) := by
  induction l with
  | nil => rintro ⟨v, hv, _⟩; cases hv
  | cons a l ih =>
    rintro ⟨v, hv, hvx⟩ hp; have hp' := List.pairwise_cons.1 hp
    by_cases h : ∃ v ∈ l, v ≤ x
    · obtain ⟨i, h1, h2, h3⟩ := ih h hp'.2; exact ⟨i + 1, by simp; omega, by simpa using h2, fun h4 => by have := h3 (by simp at h4; omega); simpa using this⟩
    · refine ⟨0, by simp, ?_, fun h4 => ?_⟩
      · rcases List.mem_cons.1 hv with rfl | hv'
        · simpa using hvx
        · exact absurd ⟨v, hv', hvx⟩ h
      · have h5 : 0 < l.length := by simp at h4; omega
        have h6 : ¬ l[0] ≤ x := fun h7 => h ⟨l[0], List.getElem_mem h5, h7⟩
        have e : (a :: l).getD (0 + 1) 0 = l[0] := by simp [h5]
        rw [e]; omega
theorem pc_of (hg : sets_Parts.Good L) {x : Int} (hx : isU x = true) : ∃ i, i < (sets_Parts.cs L).length ∧ (sets_Parts.cs L).getD i 0 ≤ x ∧ x ≤ (sets_Parts.pc (sets_Parts.cs L) i).f1 := by
  have hb : 0 ≤ bandOf x := of_decide_eq_true hx
  obtain ⟨lo, hlo, hl1, hl2⟩ : ∃ lo, lo ∈ sets_Parts.cs L ∧ lo ≤ x ∧ ∀ v, lo ≤ v → v ≤ x → bandOf v = bandOf x := by
    rcases bandOf_cases x with ⟨e, h1, h2⟩ | ⟨e, h1, h2⟩ | ⟨e, h1, h2⟩ | ⟨e, _⟩
    (· exact ⟨0, (sets_Parts.cs_mem L _).2 (by simp [sets_Parts.begins]), h1, fun v h3 h4 => by rw [e]; exact bandOf_0 ⟨h3, by omega⟩⟩); (· exact ⟨57344, (sets_Parts.cs_mem L _).2 (by simp [sets_Parts.begins]), h1, fun v h3 h4 => by rw [e]; exact bandOf_1 ⟨h3, by omega⟩⟩); (· exact ⟨1114240, (sets_Parts.cs_mem L _).2 (by simp [sets_Parts.begins]), h1, fun v h3 h4 => by rw [e]; exact bandOf_2 ⟨h3, by omega⟩⟩); (· omega)
  obtain ⟨i, hi, h1, h2⟩ := last_below _ x ⟨lo, hlo, hl1⟩ (sets_Parts.cs_asc L); refine ⟨i, hi, h1, pc_ge i hi ?_ h2⟩
  have h3 : lo ≤ (sets_Parts.cs L).getD i 0 := by
    rcases Int.lt_or_le ((sets_Parts.cs L).getD i 0) lo with h4 | h4
    · obtain ⟨t, ht, rfl⟩ := List.getElem_of_mem hlo
      rw [← cs_at t ht] at h4 hl1
      have hit : i < t := by
        rcases Nat.lt_or_ge i t with h | h
        · exact h
        · rcases Nat.lt_or_ge t i with h5 | h5
          · have := cs_lt hi h5; omega
          · have : t = i := by omega
            subst this; omega
      have h5 := h2 (by omega)
      rcases Nat.lt_or_ge (i + 1) t with h | h
      · have := cs_lt ht h; omega
      · have : t = i + 1 := by omega
        subst this; omega
    · exact h4
  have h4 := hl2 _ h3 h1; have h5 := (bandHi_eq x hb).2.1; rw [bandHi_same h4.symm] at h5; exact h5
theorem inS_piece (hg : sets_Parts.Good L) {l : List Rg} (hl : l ∈ L) {i : Nat} (hi : i < (sets_Parts.cs L).length) {x : Int} (h1 : (sets_Parts.cs L).getD i 0 ≤ x) (h2 : x ≤ (sets_Parts.pc (sets_Parts.cs L) i).f1) : sets_Parts.inS l x = sets_Parts.inS l ((sets_Parts.cs L).getD i 0) := by
  have hb := hg.bands _ (cs_get_mem i hi); obtain ⟨_, _, h3⟩ := bandHi_eq _ hb; have hxh := Int.le_trans h2 (pc_hi i).1
  have beg : ∀ r ∈ l, ∀ v, v ∈ sets_Parts.beg1 r → v ∈ sets_Parts.cs L := fun r hr v hv => (sets_Parts.cs_mem L v).2 (by
    unfold sets_Parts.begins; refine List.mem_append.2 (.inr (List.mem_flatMap.2 ⟨l, hl, ?_⟩))
    exact List.mem_flatMap.2 ⟨r, hr, hv⟩)
  unfold sets_Parts.inS; rw [Bool.eq_iff_iff, List.any_eq_true, List.any_eq_true]; constructor
  · rintro ⟨r, hr, h4⟩
    have h4 := of_decide_eq_true h4; refine ⟨r, hr, decide_eq_true ⟨?_, by omega⟩⟩
    rcases Int.lt_or_le ((sets_Parts.cs L).getD i 0) r.f0 with h5 | h5
    (· have := pc_none hi (beg r hr r.f0 (by simp [sets_Parts.beg1])) h5; omega); (· exact h5)
  · rintro ⟨r, hr, h4⟩
    have h4 := of_decide_eq_true h4; refine ⟨r, hr, decide_eq_true ⟨by omega, ?_⟩⟩
    rcases Int.lt_or_le r.f1 x with h5 | h5
    (· have h6 : bandOf (r.f1 + 1) = bandOf ((sets_Parts.cs L).getD i 0) := h3 _ (by omega) (by omega); have := pc_none hi (beg r hr (r.f1 + 1) (by unfold sets_Parts.beg1; rw [if_pos (by rw [h6]; exact hb)]; simp)) (by omega); omega); (· exact h5)
theorem rdL {l : List (List Rg)} (j : Nat) (h : j < l.length) : rd_L4 l (j : Int) = l[j] := by simp [rd_L4, h]
theorem key_piece (hg : sets_Parts.Good L) {i : Nat} (hi : i < (sets_Parts.cs L).length) {x : Int} (h1 : (sets_Parts.cs L).getD i 0 ≤ x) (h2 : x ≤ (sets_Parts.pc (sets_Parts.cs L) i).f1) : sets_Parts.keyN L x L.length = sets_Parts.keyN L ((sets_Parts.cs L).getD i 0) L.length :=
  (key_inj L _ _ _).2 fun j hj => by rw [rdL j hj]; exact inS_piece hg (List.getElem_mem hj) hi h1 h2
end
end Go.Proofs.YtoggmegpodmfnaaGreatDoor.Q
namespace Go.Proofs.YtoggmegpodmfnaaGreatDoor.Q
open Go.RowKit Go.Proofs.YtoggmegpodmfnaaGreatDoorW.PrintWords Go.Proofs.YtoggmegpodmfnaaGreatDoorW.PrintLast Go.Proofs.YtoggmegpodmfnaaGreatDoorW.PrintMore Go.Proofs.YtoggmegpodmfnaaGreatDoor.PS Go.Proofs.YtoggmegpodmfnaaGreatDoor.B
set_option linter.unusedVariables false
set_option linter.unusedSimpArgs false
def lo (g : List UInt8 × List Rg) : Int := (g.2.headD ⟨0, 0⟩).f0
structure Gs (L : List (List Rg)) (n : Nat) (gs : List (List UInt8 × List Rg)) : Prop where
  nd : gs.Pairwise (fun a b => a.1 ≠ b.1)
  inn : ∀ g ∈ gs, ∀ p ∈ g.2, ∃ i, i < n ∧ p = sets_Parts.pc (sets_Parts.cs L) i ∧ g.1 = sets_Parts.keyN L ((sets_Parts.cs L).getD i 0) L.length
  all : ∀ i, i < n → ∃ g ∈ gs, g.1 = sets_Parts.keyN L ((sets_Parts.cs L).getD i 0) L.length ∧ sets_Parts.pc (sets_Parts.cs L) i ∈ g.2
  asc : gs.Pairwise (fun a b => lo a < lo b)
  ne : ∀ g ∈ gs, g.2 ≠ [] ∧ ∀ p ∈ g.2, lo g ≤ p.f0
theorem idx_none {α : Type} : ∀ (gs : List (List UInt8 × α)) (k : List UInt8), sets_Parts.idxG gs k = none → ∀ g ∈ gs, g.1 ≠ k
  | [], _, _, g, hg => by cases hg
  | (k', l) :: r, k, h, g, hg => by
    unfold sets_Parts.idxG at h
    by_cases e : k' = k
    · rw [if_pos e] at h; cases h
    · rw [if_neg e] at h
      rcases List.mem_cons.1 hg with rfl | hg
      (· exact e); (· exact idx_none r k (by simpa using h) g hg)
theorem lo_mem {g : List UInt8 × List Rg} (h : g.2 ≠ []) : ∃ p ∈ g.2, lo g = p.f0 := by
  obtain ⟨k, l⟩ := g
  cases l with
  | nil => exact absurd rfl h
  | cons p l => exact ⟨p, by simp, rfl⟩
theorem gs_step {L : List (List Rg)} {n : Nat} {gs : List (List UInt8 × List Rg)} (h : Gs L n gs) (hn : n < (sets_Parts.cs L).length) :
    Gs L (n + 1) (sets_Parts.placeG gs (sets_Parts.keyN L ((sets_Parts.cs L).getD n 0) L.length) (sets_Parts.pc (sets_Parts.cs L) n)) := by
  obtain ⟨k, hk⟩ : ∃ k, k = sets_Parts.keyN L ((sets_Parts.cs L).getD n 0) L.length := ⟨_, rfl⟩; obtain ⟨p, hp⟩ : ∃ p, p = sets_Parts.pc (sets_Parts.cs L) n := ⟨_, rfl⟩; rw [← hk, ← hp]
  have hpl : p.f0 = (sets_Parts.cs L).getD n 0 := by rw [hp]; rfl
  have low : ∀ g ∈ gs, lo g < p.f0 := fun g hg => by
    obtain ⟨q, hq, e⟩ := lo_mem (h.ne g hg).1; obtain ⟨i, hi, rfl, _⟩ := h.inn g hg q hq; rw [e, hpl]; exact cs_lt hn hi
  cases hidx : sets_Parts.idxG gs k with
  | none =>
    rw [sets_Parts.placeG_none gs k p hidx]; have hno := idx_none gs k hidx; refine ⟨?_, ?_, ?_, ?_, ?_⟩; (· rw [List.pairwise_append]; exact ⟨h.nd, List.pairwise_singleton _ _, fun a ha b hb => by rw [List.mem_singleton.1 hb]; exact hno a ha⟩)
    · intro g hg q hq
      rcases List.mem_append.1 hg with hg | hg
      (· obtain ⟨i, hi, h1, h2⟩ := h.inn g hg q hq; exact ⟨i, by omega, h1, h2⟩); (· rw [List.mem_singleton.1 hg] at hq ⊢; exact ⟨n, by omega, by rw [List.mem_singleton.1 hq]; exact hp, hk⟩)
    · intro i hi
      by_cases e : i = n
      (· subst e; exact ⟨(k, [p]), by simp, hk, by rw [hp]; simp⟩); (· obtain ⟨g, hg, h1⟩ := h.all i (by omega); exact ⟨g, by simp [hg], h1⟩)
    · rw [List.pairwise_append]; exact ⟨h.asc, List.pairwise_singleton _ _, fun a ha b hb => by rw [List.mem_singleton.1 hb]; exact low a ha⟩
    · intro g hg
      rcases List.mem_append.1 hg with hg | hg
      (· exact h.ne g hg); (· rw [List.mem_singleton.1 hg]; exact ⟨by simp, fun q hq => by rw [List.mem_singleton.1 hq]; exact Int.le_refl _⟩)
  | some j =>
    obtain ⟨l, hl⟩ := sets_Parts.idxG_get gs k j hidx; rw [sets_Parts.placeG_some gs k p j l hidx hl]; have hjl := (List.getElem?_eq_some_iff.1 hl).1; have hgm : (k, l) ∈ gs := List.mem_of_getElem? hl; have hln := (h.ne _ hgm).1
    have hlo : lo (k, l ++ [p]) = lo (k, l) := by
      cases l with
      | nil => exact absurd rfl hln
      | cons q l => rfl
    have hmem : ∀ g, g ∈ gs.set j (k, l ++ [p]) → g ∈ gs ∨ g = (k, l ++ [p]) := fun g hg => List.mem_or_eq_of_mem_set hg; have hin : (k, l ++ [p]) ∈ gs.set j (k, l ++ [p]) := List.mem_of_getElem? (List.getElem?_set_self hjl)
    have hkeep : ∀ g ∈ gs, g = (k, l) ∨ g ∈ gs.set j (k, l ++ [p]) := fun g hg => by
      obtain ⟨t, ht, e⟩ := List.getElem_of_mem hg
      by_cases etj : t = j
      (· left; subst etj; rw [← e]; exact (List.getElem?_eq_some_iff.1 hl).2); (· right; exact List.mem_of_getElem? (i := t) (by rw [List.getElem?_set_ne (Ne.symm etj), List.getElem?_eq_getElem ht, e]))
    have emap : (gs.set j (k, l ++ [p])).map (fun g => (g.1, lo g)) = gs.map (fun g => (g.1, lo g)) := by
      rw [List.map_set]; apply List.ext_getElem?; intro t
      by_cases etj : j = t
      (· subst etj; rw [List.getElem?_set_self (by simpa using hjl), List.getElem?_map, hl, hlo]; rfl); (· rw [List.getElem?_set_ne etj])
    refine ⟨?_, ?_, ?_, ?_, ?_⟩
    · have h1 : ((gs.set j (k, l ++ [p])).map (fun g => (g.1, lo g))).Pairwise (fun a b => a.1 ≠ b.1) := by rw [emap, List.pairwise_map]; exact h.nd
      rw [List.pairwise_map] at h1; exact h1
    · intro g hg q hq
      rcases hmem g hg with hg | rfl
      · obtain ⟨i, hi, h1, h2⟩ := h.inn g hg q hq; exact ⟨i, by omega, h1, h2⟩
      · rcases List.mem_append.1 hq with hq | hq
        (· obtain ⟨i, hi, h1, h2⟩ := h.inn _ hgm q hq; exact ⟨i, by omega, h1, h2⟩); (· exact ⟨n, by omega, by rw [List.mem_singleton.1 hq]; exact hp, hk⟩)
    · intro i hi
      by_cases e : i = n
      · subst e; exact ⟨_, hin, hk, by rw [hp]; simp⟩
      · obtain ⟨g, hg, h1, h2⟩ := h.all i (by omega)
        rcases hkeep g hg with rfl | hg'
        (· exact ⟨_, hin, h1, List.mem_append.2 (.inl h2)⟩); (· exact ⟨g, hg', h1, h2⟩)
    · have h1 : ((gs.set j (k, l ++ [p])).map (fun g => (g.1, lo g))).Pairwise (fun a b => a.2 < b.2) := by rw [emap, List.pairwise_map]; exact h.asc
      rw [List.pairwise_map] at h1; exact h1
    · intro g hg
      rcases hmem g hg with hg | rfl
      · exact h.ne g hg
      · refine ⟨by simp, fun q hq => ?_⟩
        rw [hlo]
        rcases List.mem_append.1 hq with hq | hq
        (· exact (h.ne _ hgm).2 q hq); (· rw [List.mem_singleton.1 hq]; exact Int.le_of_lt (low _ hgm))
theorem gs_all (L : List (List Rg)) : ∀ n, n ≤ (sets_Parts.cs L).length → Gs L n (sets_Parts.grpN (sets_Parts.cs L) (fun u => sets_Parts.keyN L u L.length) n)
  | 0, _ => ⟨List.Pairwise.nil, fun g hg => absurd hg List.not_mem_nil, fun i hi => absurd hi (Nat.not_lt_zero _), List.Pairwise.nil, fun g hg => absurd hg List.not_mem_nil⟩
  | n + 1, h => by rw [sets_Parts.grpN_succ]; exact gs_step (gs_all L n (by omega)) (by omega)
theorem grp_mem {L : List (List Rg)} (hg : sets_Parts.Good L) {gs : List (List UInt8 × List Rg)} (h : Gs L (sets_Parts.cs L).length gs) {g : List UInt8 × List Rg} (hgm : g ∈ gs) (x : Int) : mem g.2 x = (isU x && decide (sets_Parts.keyN L x L.length = g.1)) := by
  rw [Bool.eq_iff_iff, Bool.and_eq_true, decide_eq_true_eq, mem_iff]; constructor; (· rintro ⟨p, hp, h1, h2⟩; obtain ⟨i, hi, rfl, hk⟩ := h.inn g hgm p hp; exact ⟨okR_unit (pc_ok hg i hi) h1 h2, by rw [hk]; exact key_piece hg hi h1 h2⟩)
  · rintro ⟨hx, hk⟩
    obtain ⟨i, hi, h1, h2⟩ := pc_of hg hx; obtain ⟨g', hg', e, hp⟩ := h.all i hi
    have e2 : g'.1 = g.1 := by rw [e, ← hk, key_piece hg hi h1 h2]
    have : g' = g := by
      obtain ⟨t, ht, rfl⟩ := List.getElem_of_mem hg'; obtain ⟨q, hq, rfl⟩ := List.getElem_of_mem hgm
      rcases Nat.lt_trichotomy t q with h3 | h3 | h3
      (· exact absurd e2 (List.pairwise_iff_getElem.1 h.nd t q ht hq h3)); (· subst h3; rfl); (· exact absurd e2.symm (List.pairwise_iff_getElem.1 h.nd q t hq ht h3))
    rw [← this]; exact ⟨_, hp, h1, h2⟩
theorem grp_ok {L : List (List Rg)} (hg : sets_Parts.Good L) {gs : List (List UInt8 × List Rg)} (h : Gs L (sets_Parts.cs L).length gs) {g : List UInt8 × List Rg} (hgm : g ∈ gs) : ∀ p ∈ g.2, okR p := fun p hp => by
  obtain ⟨i, hi, rfl, _⟩ := h.inn g hgm p hp; exact pc_ok hg i hi
theorem placeG_tot : ∀ (gs : List (List UInt8 × List Rg)) (k : List UInt8) (p : Rg), sets_Parts.tot ((sets_Parts.placeG gs k p).map Prod.snd) = sets_Parts.tot (gs.map Prod.snd) + 1
  | [], k, p => rfl
  | (k', l) :: r, k, p => by
    have ih := placeG_tot r k p; unfold sets_Parts.placeG
    by_cases e : k' = k
    (· rw [if_pos e]; simp [sets_Parts.tot]; omega); (· rw [if_neg e]; simp only [sets_Parts.tot, List.map_cons, List.sum_cons] at ih ⊢; omega)
theorem grpN_tot (L : List (List Rg)) (cs : List Int) : ∀ n, sets_Parts.tot ((sets_Parts.grpN cs (fun u => sets_Parts.keyN L u L.length) n).map Prod.snd) = n
  | 0 => rfl
  | n + 1 => by rw [sets_Parts.grpN_succ, placeG_tot, grpN_tot L cs n]
end Go.Proofs.YtoggmegpodmfnaaGreatDoor.Q
namespace Go.Proofs.YtoggmegpodmfnaaGreatDoor.Q
open Go.RowKit Go.Proofs.YtoggmegpodmfnaaGreatDoorW.PrintWords Go.Proofs.YtoggmegpodmfnaaGreatDoorW.PrintLast Go.Proofs.YtoggmegpodmfnaaGreatDoorW.PrintMore Go.Proofs.YtoggmegpodmfnaaGreatDoor.PS Go.Proofs.YtoggmegpodmfnaaGreatDoor.B
set_option linter.unusedVariables false
set_option linter.unusedSimpArgs false
def hd (r : List Rg) : Int := (r.headD ⟨0, 0⟩).f0
theorem checkAll0 (L : List (List Rg)) (hL : ∀ l ∈ L, Sound l) (hl : L.length ≤ 16777216) : ∀ (d i : Nat), L.length - i = d → Ev (fun k => sets_check.l0 k L (L.length : Int) (i : Int)) 0
  | 0, i, hd => Ev.step (f := fun _ => some 0) (fun k => by rw [sets_check.l0, if_neg (by omega)]) (Ev.now _)
  | d + 1, i, hd => by
    have hi : i < L.length := by omega
    have hs := hL _ (List.getElem_mem hi); have hsl := sound_len hs; refine Ev.step (f := fun k => (sets_Check.f k L[i]).bind fun t => if t = 0 then sets_check.l0 k L (L.length : Int) ((i + 1 : Nat) : Int) else some 1) (fun k => ?_) (Ev.bind (check_is L[i] (by omega) hs.r32) ?_); (· rw [sets_check.l0, if_pos (by omega), if_pos (by omega), if_pos (by omega), rdL i hi, wrapS i (by omega)]); (· rw [if_pos hs]; exact ev_if_pos rfl (checkAll0 L hL hl d (i + 1) (by omega)))
theorem checkAll (L : List (List Rg)) (hL : ∀ l ∈ L, Sound l) (hl : L.length ≤ 16777216) : Ev (fun k => sets_check.f k L) 0 := by
  unfold sets_check.f; exact checkAll0 L hL hl L.length 0 (by omega)
theorem gat_is : ∀ ls : List (List Rg), (∀ l ∈ ls, (∀ r ∈ l, okR r) ∧ l.length ≤ 4294967296) → ∃ rs, Ev (fun k => sets_Parts.gat k ls) rs ∧ sets_Parts.tot rs ≤ sets_Parts.tot ls ∧ rs.length = ls.length ∧ ∀ (j : Nat) (r l : List Rg), rs[j]? = some r → ls[j]? = some l → Sound r ∧ ∀ u, mem r u = mem l u
  | [], _ => ⟨[], Ev.now _, Nat.le_refl _, rfl, fun j r l hj _ => by simp at hj⟩
  | l :: ls, h => by
    obtain ⟨r, hr, h1, h2, h9⟩ := gather_is l (h l (by simp)).2 (h l (by simp)).1; obtain ⟨rs, hrs, h8, h3, h4⟩ := gat_is ls (fun x hx => h x (by simp [hx])); refine ⟨r :: rs, Ev.bind hr (Ev.bind hrs (Ev.now _)), by simp only [sets_Parts.tot, List.map_cons, List.sum_cons] at h8 ⊢; omega, by simp [h3], fun j r' l' hj hl => ?_⟩
    cases j with
    | zero => obtain rfl := Option.some.inj hj; obtain rfl := Option.some.inj hl; exact ⟨h1, h2⟩
    | succ j => exact h4 j r' l' hj hl
theorem good_of {L : List (List Rg)} (hL : ∀ l ∈ L, Sound l) (h1 : L.length ≤ 16777216) (h2 : sets_Parts.tot L ≤ 16777216) : sets_Parts.Good L := by
  refine ⟨h1, h2, fun l hl r hr => ?_, fun l hl => (hL l hl).2⟩; obtain ⟨a, b, c⟩ := (hL l hl).1 r hr; refine ⟨a, c, ?_⟩; have := bandOf_cases r.f1; omega
theorem first_is {r l : List Rg} {g : List UInt8 × List Rg} (hr : Sound r) (hm : ∀ u, mem r u = mem g.2 u) (hok : ∀ p ∈ g.2, okR p) (hne : g.2 ≠ [] ∧ ∀ p ∈ g.2, lo g ≤ p.f0) : r ≠ [] ∧ hd r = lo g := by
  obtain ⟨p, hp, e⟩ := lo_mem hne.1
  have hlo : mem r (lo g) = true := by
    rw [hm, mem_iff]; exact ⟨p, hp, by rw [e]; exact Int.le_refl _, by rw [e]; exact (hok p hp).2.2⟩
  cases r with
  | nil => rw [show mem [] (lo g) = false from rfl] at hlo; cases hlo
  | cons q r' =>
    refine ⟨by simp, ?_⟩; show q.f0 = lo g; have hq := (hr.1 q (by simp)).2.2
    have h1 : mem g.2 q.f0 = true := by
      rw [← hm, mem_iff]; exact ⟨q, by simp, Int.le_refl _, hq⟩
    obtain ⟨p', hp', h2, _⟩ := (mem_iff _ _).1 h1; have h3 := hne.2 p' hp'; obtain ⟨q', hq', h4, _⟩ := (mem_iff _ _).1 hlo
    have h5 : q.f0 ≤ q'.f0 := by
      rcases List.mem_cons.1 hq' with rfl | hq'
      (· exact Int.le_refl _); (· have := (List.pairwise_cons.1 hr.2).1 q' hq'; omega)
    omega
structure PartsOk (L rs : List (List Rg)) (Ks : List (List UInt8)) : Prop where
  len : Ks.length = rs.length
  big : rs.length ≤ 67108864
  tot : sets_Parts.tot rs ≤ 67108864
  sound : ∀ r ∈ rs, Sound r
  ne : ∀ r ∈ rs, r ≠ []
  asc : rs.Pairwise (fun a b => hd a < hd b)
  mem : ∀ (j : Nat) (r : List Rg) (K : List UInt8), rs[j]? = some r → Ks[j]? = some K → ∀ x, mem r x = (isU x && decide (sets_Parts.keyN L x L.length = K))
  nd : Ks.Pairwise (fun a b => a ≠ b)
  all : ∀ x, isU x = true → sets_Parts.keyN L x L.length ∈ Ks
theorem Parts_is (L : List (List Rg)) (hL : ∀ l ∈ L, Sound l) (h1 : L.length ≤ 16777216) (h2 : sets_Parts.tot L ≤ 16777216) : ∃ (rs : List (List Rg)) (Ks : List (List UInt8)), Ev (fun k => sets_Parts.f k L) (rs, 0) ∧ PartsOk L rs Ks := by
  have hg := good_of hL h1 h2; have hgs := gs_all L _ (Nat.le_refl _); obtain ⟨gs, hgse⟩ : ∃ gs, gs = sets_Parts.grpN (sets_Parts.cs L) (fun u => sets_Parts.keyN L u L.length) (sets_Parts.cs L).length := ⟨_, rfl⟩; have hlen := sets_Parts.grpN_len (sets_Parts.cs L) (fun u => sets_Parts.keyN L u L.length) (sets_Parts.cs L).length; have hin := sets_Parts.grpN_in (sets_Parts.cs L) (fun u => sets_Parts.keyN L u L.length) (sets_Parts.cs L).length; have hcl := sets_Parts.cs_len L h2; have htot := grpN_tot L (sets_Parts.cs L) (sets_Parts.cs L).length; rw [← hgse] at hgs hlen hin htot
  have hgr : sets_Parts.groups L = gs.map Prod.snd := by unfold sets_Parts.groups; rw [hgse]
  obtain ⟨rs, hrs, hrt, hrl, hrg⟩ := gat_is (gs.map Prod.snd) (fun l hl => by
    obtain ⟨g, hgm, rfl⟩ := List.mem_map.1 hl
    exact ⟨grp_ok hg hgs hgm, by have := hin g hgm; omega⟩)
  rw [List.length_map] at hrl
  have each : ∀ (j : Nat) (r : List Rg), rs[j]? = some r → ∃ g, gs[j]? = some g ∧ g ∈ gs ∧ Sound r ∧ (∀ u, Q.mem r u = Q.mem g.2 u) ∧ r ≠ [] ∧ hd r = lo g := by
    intro j r hj; have hjl := (List.getElem?_eq_some_iff.1 hj).1
    have hjg : j < gs.length := by omega
    have hgj : gs[j]? = some gs[j] := List.getElem?_eq_getElem hjg; obtain ⟨h3, h4⟩ := hrg j r gs[j].2 hj (by rw [List.getElem?_map, hgj]; rfl); have hgm : gs[j] ∈ gs := List.getElem_mem hjg; obtain ⟨h5, h6⟩ := first_is (l := []) h3 h4 (grp_ok hg hgs hgm) (hgs.ne _ hgm); exact ⟨_, hgj, hgm, h3, h4, h5, h6⟩
  refine ⟨rs, gs.map Prod.fst, ?_, ⟨by simp [hrl], by omega, by omega, fun r hr => ?_, fun r hr => ?_, ?_, ?_, ?_, ?_⟩⟩; (· unfold sets_Parts.f; refine Ev.bind (checkAll L hL h1) ?_; refine ev_if_pos rfl (ev_if_pos ((sets_Parts.good_iff L).2 hg) ?_); rw [hgr]; exact Ev.bind hrs (Ev.now _)); (· obtain ⟨j, hj, rfl⟩ := List.getElem_of_mem hr; obtain ⟨_, _, _, h, _⟩ := each j _ (List.getElem?_eq_getElem hj); exact h); (· obtain ⟨j, hj, rfl⟩ := List.getElem_of_mem hr; obtain ⟨_, _, _, _, _, h, _⟩ := each j _ (List.getElem?_eq_getElem hj); exact h); (· rw [List.pairwise_iff_getElem]; intro i j hi hj hij; obtain ⟨g1, e1, _, _, _, _, f1⟩ := each i _ (List.getElem?_eq_getElem hi); obtain ⟨g2, e2, _, _, _, _, f2⟩ := each j _ (List.getElem?_eq_getElem hj); rw [f1, f2]; obtain ⟨hi', e1⟩ := List.getElem?_eq_some_iff.1 e1; obtain ⟨hj', e2⟩ := List.getElem?_eq_some_iff.1 e2; rw [← e1, ← e2]; exact List.pairwise_iff_getElem.1 hgs.asc i j hi' hj' hij); (· intro j r K hj hK x; obtain ⟨g, e, hgm, _, hm, _, _⟩ := each j r hj; rw [List.getElem?_map, e] at hK; obtain rfl := Option.some.inj hK; rw [hm, grp_mem hg hgs hgm]); (· rw [List.pairwise_map]; exact hgs.nd); (· intro x hx; obtain ⟨i, hi, h3, h4⟩ := pc_of hg hx; obtain ⟨g, hgm, e, _⟩ := hgs.all i hi; rw [key_piece hg hi h3 h4, ← e]; exact List.mem_map.2 ⟨g, hgm, rfl⟩)
end Go.Proofs.YtoggmegpodmfnaaGreatDoor.Q
namespace Go.Proofs.YtoggmegpodmfnaaGreatDoor.Q
open Go.RowKit Go.Proofs.YtoggmegpodmfnaaGreatDoorW.PrintWords Go.Proofs.YtoggmegpodmfnaaGreatDoorW.PrintLast Go.Proofs.YtoggmegpodmfnaaGreatDoorW.PrintMore Go.Proofs.YtoggmegpodmfnaaGreatDoor.PS Go.Proofs.YtoggmegpodmfnaaGreatDoor.B
set_option linter.unusedVariables false
set_option linter.unusedSimpArgs false
theorem evk {α : Type} {g : Nat → Option α} {r : α} (h : Ev g r) : ∃ k, g k = some r := by
  obtain ⟨k, hk⟩ := h; exact ⟨k, hk k (Nat.le_refl _)⟩
structure InL (l : List Rg) : Prop where
  len : l.length ≤ 1048576
  r32 : ∀ r ∈ l, R32 r
theorem InL.l30 {l : List Rg} (h : InL l) : l.length ≤ 1073741824 := by have := h.len; omega
theorem setsCheck_run (A0 : Option Addr) (c0 : Nat) (l : List Rg) (w : World) (hi : InL l) (hr0 : Kd.C k41 w A0 l.length l) (hc0 : l.length ≤ c0) (hG : Glob w) :
    Calls Tryz.prog 24 #[.slice A0 l.length c0] w fun e w' => e = .returned (.int .i64 (if Sound l then 0 else 1)) ∧ Below w.heap.size w w' := by
  obtain ⟨k, hk⟩ := evk (check_is l hi.l30 hi.r32); exact sets_Check.calls k A0 c0 l _ w hr0 hc0 hG hk
theorem allUp_iff (l : List Rg) : allUp l = true ↔ ∀ r ∈ l, r.f0 ≤ r.f1 := by simp [allUp]
theorem setsMake_run (A0 : Option Addr) (c0 : Nat) (l : List Rg) (w : World) (hi : InL l) (hr0 : Kd.C k41 w A0 l.length l) (hc0 : l.length ≤ c0) (hG : Glob w) :
    Calls Tryz.prog 12 #[.slice A0 l.length c0] w fun e w' => ∃ (v : Value) (R : List Rg) (n : Int), e = .returned (.tuple #[v, .int .i64 n]) ∧ Kd.R k41 41 w' w.heap.size (fun _ => True) v R ∧ MadeOf l R n ∧ Below w.heap.size w w' := by
  cases hup : allUp l
  · obtain ⟨k, hk⟩ := evk (make_no l hi.l30 hup)
    refine (sets_Make.calls k A0 c0 l _ _ w hr0 hc0 hG hk).mono ?_; rintro e w' ⟨v, rfl, hR, hb⟩; refine ⟨v, [], 2, rfl, hR, .inl ⟨rfl, rfl, ?_⟩, hb⟩
    have h : ¬ ∀ r ∈ l, r.f0 ≤ r.f1 := fun h => by rw [(allUp_iff l).2 h] at hup; cases hup
    refine Classical.byContradiction fun hn => h fun r hr => ?_
    rcases Int.lt_or_le r.f1 r.f0 with h1 | h1
    (· exact absurd ⟨r, hr, h1⟩ hn); (· exact h1)
  · obtain ⟨g, hg, h1, h2, _⟩ := make_is l hi.l30 hup; obtain ⟨k, hk⟩ := evk hg; refine (sets_Make.calls k A0 c0 l _ _ w hr0 hc0 hG hk).mono ?_; rintro e w' ⟨v, rfl, hR, hb⟩; exact ⟨v, g, 0, rfl, hR, .inr ⟨rfl, (allUp_iff l).1 hup, h1, h2⟩, hb⟩
theorem unit_of {l : List Rg} (h : Sound l) (u : Int) : mem l u = (isU u && mem l u) := by
  cases hm : mem l u
  · simp
  · simp [h.unit hm]
section
variable {a b R : List Rg}
theorem ruled_no (kd : Int) (h : ¬ (Sound a ∧ Sound b)) : Ruled kd a b [] 1 := ⟨fun _ => ⟨rfl, rfl⟩, fun ha hb => absurd ⟨ha, hb⟩ h⟩
theorem ruled_yes (kd : Int) (h : Sound a ∧ Sound b) (hs : Sound R) (hm : ∀ u, mem R u = (isU u && tk kd (mem a u) (mem b u))) : Ruled kd a b R 0 := ⟨fun hn => absurd h hn, fun _ _ => ⟨rfl, hs, hm⟩⟩
end
theorem check_two {g k : Nat} {A0 A1 : Option Addr} {c0 c1 : Nat} {a b : List Rg} {r : Int} {W : World} (h : W.heap[g]? = some (.cells #[.slice A0 a.length c0, .slice A1 b.length c1] 24 (0, 0)))
    (hr0 : Kd.C k41 W A0 a.length a) (hc0 : a.length ≤ c0) (hr1 : Kd.C k41 W A1 b.length b) (hc1 : b.length ≤ c1) (hG : Glob W) (hk : sets_check.f k [a, b] = some r) :
    Calls Tryz.prog 51 #[.slice (some ⟨g, 0, none⟩) 2 2] W fun e w' => e = .returned (.int .i64 r) ∧ Below W.heap.size W w' :=
  sets_check.calls k (some ⟨g, 0, none⟩) 2 [a, b] r W (two_C h hr0 hc0 hr1 hc1) (Nat.le_refl 2) hG hk
theorem concat_two {g : Nat} {A0 A1 : Option Addr} {c0 c1 : Nat} {a b : List Rg} {W : World} (h : W.heap[g]? = some (.cells #[.slice A0 a.length c0, .slice A1 b.length c1] 24 (0, 0)))
    (hr0 : Kd.C k41 W A0 a.length a) (hc0 : a.length ≤ c0) (hr1 : Kd.C k41 W A1 b.length b) (hc1 : b.length ≤ c1) (hl : (a ++ b).length ≤ 4294967296) :
    Calls Tryz.prog 52 #[.slice (some ⟨g, 0, none⟩) 2 2] W fun e w' => ∃ v0_ : Value, e = .returned v0_ ∧ Kd.R k41 41 w' W.heap.size (fun _ => True) v0_ (a ++ b) ∧ Below W.heap.size W w' :=
  api_Range_52.calls (some ⟨g, 0, none⟩) 2 [a, b] (a ++ b) W (two_C h hr0 hc0 hr1 hc1) (Nat.le_refl 2) (by
    show (if ([a, b] : List (List Rg)).flatten.length ≤ 4294967296 then some ([a, b] : List (List Rg)).flatten else none) = some (a ++ b)
    have : ([a, b] : List (List Rg)).flatten = a ++ b := by simp
    rw [this, if_pos hl])
set_option maxHeartbeats 8000000 in
theorem setsOr_run (A0 : Option Addr) (c0 : Nat) (a : List Rg) (A1 : Option Addr) (c1 : Nat) (b : List Rg) (w : World) (hi : InL a) (hj : InL b) (hr0 : Kd.C k41 w A0 a.length a) (hc0 : a.length ≤ c0) (hr1 : Kd.C k41 w A1 b.length b) (hc1 : b.length ≤ c1) (hG : Glob w) :
    Calls Tryz.prog 25 #[.slice A0 a.length c0, .slice A1 b.length c1] w fun e w' => ∃ (v : Value) (R : List Rg) (n : Int), e = .returned (.tuple #[v, .int .i64 n]) ∧ Kd.R k41 41 w' w.heap.size (fun _ => True) v R ∧ Ruled 1 a b R n ∧ Below w.heap.size w w' := by
  have HR0 := Aside0.mk hr0; have HR1 := Aside0.mk hr1; have HC := Aside0.mk (And.intro hc0 hc1); have HG := Aside0.mk hG
  by_cases hs : Sound a ∧ Sound b
  · have hl : (a ++ b).length ≤ 4294967296 := by have := hi.len; have := hj.len; simp; omega
    obtain ⟨g, hg, h1, h2, _⟩ := gather_is (a ++ b) hl (fun r hr => (List.mem_append.1 hr).elim (hs.1.1 r) (hs.2.1 r)); obtain ⟨k, hk⟩ := evk (checks_two a b hs.1 hs.2); obtain ⟨q, hq⟩ := evk hg; have HK := Aside0.mk hk; have HQ := Aside0.mk hq; have HL := Aside0.mk hl; have HS := Aside0.mk (show Ruled 1 a b g 0 from ruled_yes 1 hs h1 (fun u => by rw [h2, mem_app, unit_of hs.1, unit_of hs.2]; simp only [tk, if_true]; cases isU u <;> simp)); clear hi hj hr0 hc0 hr1 hc1 hG hs hl hg h1 h2 hk hq; go_enter Tryz.func25, Tryz.ntmps25
    go_wp2_with (first
      | (go_at_call 51; (with_reducible refine (check_two (heap_new w _) (cl HR0.out) HC.out.1 (cl HR1.out) HC.out.2 (Glob.of_below HG.out bw) HK.out).mono ?_); rintro e w1 ⟨rfl, hb⟩; have HB1 : BelC w w1 := below_al hb; clear hb)
      | (go_at_call 52; (with_reducible refine (concat_two (heap_new w1 _) (cl HR0.out) HC.out.1 (cl HR1.out) HC.out.2 HL.out).mono ?_); rintro e w2 ⟨v2, rfl, ho, hb⟩; have HB2 : BelC w1 w2 := below_al hb; have HB2' : BelC w w2 := bs HB2.out; have HO2 := Aside0.mk (Kd.R_lower ho (bz (w := w1))); clear ho hb)
      | (go_at_call 45; (with_reducible refine (sets_gather.calls q (fun _ => True) v2 (a ++ b) g w1 w2 HB2.out HO2.out HQ.out).mono ?_); rintro e w3 ⟨v3, rfl, ho, hb, _⟩; have HB3 : BelC w w3 := bs hb; have HO := Aside0.mk (Kd.R_lower (Kd.R_mono ho (fun _ _ => trivial)) (bz (w := w) (W := w1)) : Kd.R k41 41 w3 w.heap.size (fun _ => True) v3 g); clear ho hb))
    go_ret2; exact ⟨_, g, 0, by first | rfl | simp, HO.out, HS.out, bw⟩
  · obtain ⟨k, hk⟩ := evk (checks_no hi.l30 hj.l30 hi.r32 hj.r32 hs)
    have HK := Aside0.mk hk; have HS := Aside0.mk (ruled_no 1 hs); clear hi hj hr0 hc0 hr1 hc1 hG hs hk; go_enter Tryz.func25, Tryz.ntmps25
    go_wp2_with (go_at_call 51; (with_reducible refine (check_two (heap_new w _) (cl HR0.out) HC.out.1 (cl HR1.out) HC.out.2 (Glob.of_below HG.out bw) HK.out).mono ?_); rintro e w1 ⟨rfl, hb⟩; have HB1 : BelC w w1 := below_al hb; clear hb)
    go_ret2; exact ⟨_, [], 1, by first | rfl | simp, Kd.R_nil _ _ _ _ _, HS.out, bw⟩
set_option maxHeartbeats 8000000 in
theorem setsMinus_run (A0 : Option Addr) (c0 : Nat) (a : List Rg) (A1 : Option Addr) (c1 : Nat) (b : List Rg) (w : World) (hi : InL a) (hj : InL b) (hr0 : Kd.C k41 w A0 a.length a) (hc0 : a.length ≤ c0) (hr1 : Kd.C k41 w A1 b.length b) (hc1 : b.length ≤ c1) (hG : Glob w) :
    Calls Tryz.prog 27 #[.slice A0 a.length c0, .slice A1 b.length c1] w fun e w' => ∃ (v : Value) (R : List Rg) (n : Int), e = .returned (.tuple #[v, .int .i64 n]) ∧ Kd.R k41 41 w' w.heap.size (fun _ => True) v R ∧ Ruled 3 a b R n ∧ Below w.heap.size w w' := by
  have HR0 := Aside0.mk hr0; have HR1 := Aside0.mk hr1; have HC := Aside0.mk (And.intro hc0 hc1); have HG := Aside0.mk hG
  by_cases hs : Sound a ∧ Sound b
  · obtain ⟨R, hR, h1, h2⟩ := without_is a b hs.1 hs.2
    obtain ⟨k, hk⟩ := evk (checks_two a b hs.1 hs.2); obtain ⟨q, hq⟩ := evk hR; have HK := Aside0.mk hk; have HQ := Aside0.mk hq; have HS := Aside0.mk (show Ruled 3 a b R 0 from ruled_yes 3 hs h1 (fun u => by rw [h2]; have := unit_of hs.1 u; simp only [tk]; cases h : isU u <;> simp_all)); clear hi hj hr0 hc0 hr1 hc1 hG hs hR h1 h2 hk hq; go_enter Tryz.func27, Tryz.ntmps27
    go_wp2_with (first
      | (go_at_call 51; (with_reducible refine (check_two (heap_new w _) (cl HR0.out) HC.out.1 (cl HR1.out) HC.out.2 (Glob.of_below HG.out bw) HK.out).mono ?_); rintro e w1 ⟨rfl, hb⟩; have HB1 : BelC w w1 := below_al hb; clear hb)
      | (go_at_call 53; (with_reducible refine (sets_without.calls q A0 c0 a A1 c1 b R w1 (cl HR0.out) HC.out.1 (cl HR1.out) HC.out.2 HQ.out).mono ?_); rintro e w2 ⟨v2, rfl, ho, hb⟩; have HB2 : BelC w w2 := bs hb; have HO := Aside0.mk (Kd.R_lower ho (bz (w := w) (W := w1))); clear ho hb))
    go_ret2; exact ⟨_, R, 0, by first | rfl | simp, HO.out, HS.out, bw⟩
  · obtain ⟨k, hk⟩ := evk (checks_no hi.l30 hj.l30 hi.r32 hj.r32 hs)
    have HK := Aside0.mk hk; have HS := Aside0.mk (ruled_no 3 hs); clear hi hj hr0 hc0 hr1 hc1 hG hs hk; go_enter Tryz.func27, Tryz.ntmps27
    go_wp2_with (go_at_call 51; (with_reducible refine (check_two (heap_new w _) (cl HR0.out) HC.out.1 (cl HR1.out) HC.out.2 (Glob.of_below HG.out bw) HK.out).mono ?_); rintro e w1 ⟨rfl, hb⟩; have HB1 : BelC w w1 := below_al hb; clear hb)
    go_ret2; exact ⟨_, [], 1, by first | rfl | simp, Kd.R_nil _ _ _ _ _, HS.out, bw⟩
theorem setsAnd_run (A0 : Option Addr) (c0 : Nat) (a : List Rg) (A1 : Option Addr) (c1 : Nat) (b : List Rg) (w : World) (hi : InL a) (hj : InL b) (hr0 : Kd.C k41 w A0 a.length a) (hc0 : a.length ≤ c0) (hr1 : Kd.C k41 w A1 b.length b) (hc1 : b.length ≤ c1) (hG : Glob w) :
    Calls Tryz.prog 26 #[.slice A0 a.length c0, .slice A1 b.length c1] w fun e w' => ∃ (v : Value) (R : List Rg) (n : Int), e = .returned (.tuple #[v, .int .i64 n]) ∧ Kd.R k41 41 w' w.heap.size (fun _ => True) v R ∧ Ruled 2 a b R n ∧ Below w.heap.size w w' := by
  by_cases hs : Sound a ∧ Sound b
  · obtain ⟨R, hR, h1, h2⟩ := and_is a b hs.1 hs.2
    obtain ⟨k, hk⟩ := evk hR; refine (sets_And.calls k A0 c0 a A1 c1 b _ _ w hr0 hc0 hr1 hc1 hG hk).mono ?_; rintro e w' ⟨v, rfl, hR, hb⟩; refine ⟨v, R, 0, rfl, hR, ruled_yes 2 hs h1 (fun u => ?_), hb⟩; rw [h2]; have := unit_of hs.1 u; simp only [tk]
    cases h : isU u <;> simp_all
  · obtain ⟨k, hk⟩ := evk (and_no hi.l30 hi.r32 hj.l30 hj.r32 hs); refine (sets_And.calls k A0 c0 a A1 c1 b _ _ w hr0 hc0 hr1 hc1 hG hk).mono ?_; rintro e w' ⟨v, rfl, hR, hb⟩; exact ⟨v, [], 1, rfl, hR, ruled_no 2 hs, hb⟩
theorem nil_sound : Sound [] := ⟨by simp, List.Pairwise.nil⟩
theorem raw_sound : Sound [rawR] := by decide
theorem setsNot_run (A0 : Option Addr) (c0 : Nat) (a : List Rg) (w : World) (hi : InL a) (hr0 : Kd.C k41 w A0 a.length a) (hc0 : a.length ≤ c0) (hG : Glob w) :
    Calls Tryz.prog 28 #[.slice A0 a.length c0] w fun e w' => ∃ (v : Value) (R : List Rg) (n : Int), e = .returned (.tuple #[v, .int .i64 n]) ∧ Kd.R k41 41 w' w.heap.size (fun _ => True) v R ∧ Ruled 4 a [] R n ∧ Below w.heap.size w w' := by
  by_cases hs : Sound a
  (· obtain ⟨R, hR, h1, h2⟩ := not_is a hs; obtain ⟨k, hk⟩ := evk hR; refine (sets_Not.calls k A0 c0 a _ _ w hr0 hc0 hG hk).mono ?_; rintro e w' ⟨v, rfl, hR, hb⟩; refine ⟨v, R, 0, rfl, hR, ruled_yes 4 ⟨hs, nil_sound⟩ h1 (fun u => ?_), hb⟩; rw [h2]; simp [tk, mem]); (· obtain ⟨k, hk⟩ := evk (not_no hi.l30 hi.r32 hs); refine (sets_Not.calls k A0 c0 a _ _ w hr0 hc0 hG hk).mono ?_; rintro e w' ⟨v, rfl, hR, hb⟩; exact ⟨v, [], 1, rfl, hR, ruled_no 4 (fun h => hs h.1), hb⟩)
theorem setsNotRunes_run (A0 : Option Addr) (c0 : Nat) (a : List Rg) (w : World) (hi : InL a) (hr0 : Kd.C k41 w A0 a.length a) (hc0 : a.length ≤ c0) (hG : Glob w) :
    Calls Tryz.prog 29 #[.slice A0 a.length c0] w fun e w' => ∃ (v : Value) (R : List Rg) (n : Int), e = .returned (.tuple #[v, .int .i64 n]) ∧ Kd.R k41 41 w' w.heap.size (fun _ => True) v R ∧ Ruled 4 a [rawR] R n ∧ Below w.heap.size w w' := by
  by_cases hs : Sound a
  · obtain ⟨R, hR, h1, h2⟩ := notRunes_is a hs
    obtain ⟨k, hk⟩ := evk hR; refine (sets_NotRunes.calls k A0 c0 a _ _ w hr0 hc0 hG hk).mono ?_; rintro e w' ⟨v, rfl, hR, hb⟩; refine ⟨v, R, 0, rfl, hR, ruled_yes 4 ⟨hs, raw_sound⟩ h1 (fun u => ?_), hb⟩; rw [h2]
    have e : tk 4 (mem a u) (mem [rawR] u) = (!mem a u && !mem [rawR] u) := by simp [tk]
    rw [e, mem_one]
    cases hu : isU u
    · simp
    · have h := (isU_iff u).1 hu
      have e2 : decide (u ≤ 1114111) = !decide (rawR.f0 ≤ u ∧ u ≤ rawR.f1) := by
        rw [Bool.eq_iff_iff, Bool.not_eq_true', decide_eq_true_eq, decide_eq_false_iff_not]; show u ≤ 1114111 ↔ ¬ ((1114240 : Int) ≤ u ∧ u ≤ 1114367); omega
      rw [e2]; cases mem a u <;> simp
  · obtain ⟨k, hk⟩ := evk (notRunes_no hi.l30 hi.r32 hs); refine (sets_NotRunes.calls k A0 c0 a _ _ w hr0 hc0 hG hk).mono ?_; rintro e w' ⟨v, rfl, hR, hb⟩; exact ⟨v, [], 1, rfl, hR, ruled_no 4 (fun h => hs h.1), hb⟩
theorem setsHas_run (A0 : Option Addr) (c0 : Nat) (l : List Rg) (u : Int) (w : World) (hi : InL l) (hr0 : Kd.C k41 w A0 l.length l) (hc0 : l.length ≤ c0) (hG : Glob w) :
    Calls Tryz.prog 30 #[.slice A0 l.length c0, .int .i32 u] w fun e w' => ∃ (b : Bool) (n : Int), e = .returned (.tuple #[.bool b, .int .i64 n]) ∧ HasOf l u b n ∧ Below w.heap.size w w' := by
  by_cases hs : Sound l
  (· obtain ⟨k, hk⟩ := evk (Has_is l u hi.l30 hs); refine (sets_Has.calls k A0 c0 l u _ _ w hr0 hc0 hG hk).mono ?_; rintro e w' ⟨rfl, hb⟩; exact ⟨_, 0, rfl, .inl ⟨hs, rfl, rfl⟩, hb⟩); (· obtain ⟨k, hk⟩ := evk (has_no hi.l30 hi.r32 u hs); refine (sets_Has.calls k A0 c0 l u _ _ w hr0 hc0 hG hk).mono ?_; rintro e w' ⟨rfl, hb⟩; exact ⟨_, 1, rfl, .inr ⟨hs, rfl, rfl⟩, hb⟩)
theorem setsSize_run (A0 : Option Addr) (c0 : Nat) (l : List Rg) (w : World) (hi : InL l) (hr0 : Kd.C k41 w A0 l.length l) (hc0 : l.length ≤ c0) (hG : Glob w) :
    Calls Tryz.prog 31 #[.slice A0 l.length c0] w fun e w' => ∃ m n : Int, e = .returned (.tuple #[.int .i64 m, .int .i64 n]) ∧ SizeOf_ l m n ∧ Below w.heap.size w w' := by
  by_cases hs : Sound l
  (· obtain ⟨k, hk⟩ := evk (size_is l hs); refine (sets_Size.calls k A0 c0 l _ _ w hr0 hc0 hG hk).mono ?_; rintro e w' ⟨rfl, hb⟩; exact ⟨_, 0, rfl, .inl ⟨hs, rfl, rfl⟩, hb⟩); (· obtain ⟨k, hk⟩ := evk (size_no hi.l30 hi.r32 hs); refine (sets_Size.calls k A0 c0 l _ _ w hr0 hc0 hG hk).mono ?_; rintro e w' ⟨rfl, hb⟩; exact ⟨_, 1, rfl, .inr ⟨hs, rfl, rfl⟩, hb⟩)
theorem setsPick_run (A0 : Option Addr) (c0 : Nat) (l : List Rg) (q : Int) (w : World) (hi : InL l) (hq : q ≤ 9223372036854775807) (hr0 : Kd.C k41 w A0 l.length l) (hc0 : l.length ≤ c0) (hG : Glob w) :
    Calls Tryz.prog 32 #[.slice A0 l.length c0, .int .i64 q] w fun e w' => ∃ m n : Int, e = .returned (.tuple #[.int .i32 m, .int .i64 n]) ∧ PickOf l q m n ∧ Below w.heap.size w w' := by
  by_cases hs : Sound l
  · have hp := pick_is l hs q hq
    by_cases h : 0 ≤ q ∧ q < sz l
    (· rw [if_pos h] at hp; obtain ⟨k, hk⟩ := evk hp; refine (sets_Pick.calls k A0 c0 l q _ _ w hr0 hc0 hG hk).mono ?_; rintro e w' ⟨rfl, hb⟩; exact ⟨_, 0, rfl, .inl ⟨hs, h.1, h.2, rfl, rfl⟩, hb⟩); (· rw [if_neg h] at hp; obtain ⟨k, hk⟩ := evk hp; refine (sets_Pick.calls k A0 c0 l q _ _ w hr0 hc0 hG hk).mono ?_; rintro e w' ⟨rfl, hb⟩; exact ⟨_, 2, rfl, .inr (.inl ⟨hs, h, rfl, rfl⟩), hb⟩)
  · obtain ⟨k, hk⟩ := evk (pick_no hi.l30 hi.r32 q hs); refine (sets_Pick.calls k A0 c0 l q _ _ w hr0 hc0 hG hk).mono ?_; rintro e w' ⟨rfl, hb⟩; exact ⟨_, 1, rfl, .inr (.inr ⟨hs, rfl, rfl⟩), hb⟩
theorem checkNo0 (L : List (List Rg)) (hl : L.length ≤ 16777216) (hb : ∀ l ∈ L, InL l) : ∀ (d i : Nat), L.length - i = d → (∃ j, ∃ h : j < L.length, i ≤ j ∧ ¬ Sound L[j]) → Ev (fun k => sets_check.l0 k L (L.length : Int) (i : Int)) 1
  | 0, i, hd, ⟨j, hj, hij, _⟩ => by omega
  | d + 1, i, hd, ⟨j, hj, hij, hn⟩ => by
    have hi : i < L.length := by omega
    have hin := hb _ (List.getElem_mem hi); refine Ev.step (f := fun k => (sets_Check.f k L[i]).bind fun t => if t = 0 then sets_check.l0 k L (L.length : Int) ((i + 1 : Nat) : Int) else some 1) (fun k => ?_) (Ev.bind (check_is L[i] hin.l30 hin.r32) ?_); (· rw [sets_check.l0, if_pos (by omega), if_pos (by omega), if_pos (by omega), rdL i hi, wrapS i (by omega)])
    · by_cases hs : Sound L[i]
      · rw [if_pos hs]
        refine ev_if_pos rfl (checkNo0 L hl hb d (i + 1) (by omega) ⟨j, hj, ?_, hn⟩)
        rcases Nat.lt_or_ge i j with h | h
        · omega
        · obtain rfl : i = j := by omega
          exact absurd hs hn
      · rw [if_neg hs]; exact ev_if_neg (by decide) (Ev.now _)
theorem parts_not {L : List (List Rg)} (hl : L.length ≤ 16777216) (hb : ∀ l ∈ L, InL l) (h : ∃ l ∈ L, ¬ Sound l) : Ev (fun k => sets_Parts.f k L) ([], 1) := by
  unfold sets_Parts.f; obtain ⟨l, hm, hn⟩ := h; obtain ⟨j, hj, rfl⟩ := List.getElem_of_mem hm; refine Ev.bind (a := 1) ?_ (ev_if_neg (by decide) (Ev.now _)); unfold sets_check.f; exact checkNo0 L hl hb L.length 0 (by omega) ⟨j, hj, by omega, hn⟩
theorem keyL_key (L : List (List Rg)) (x y : Int) : keyL L x = keyL L y ↔ sets_Parts.keyN L x L.length = sets_Parts.keyN L y L.length := by
  rw [key_inj]; unfold keyL; constructor; (· intro h j hj; have h1 := congrArg (fun l => l[j]?) h; simp only [List.getElem?_map, List.getElem?_eq_getElem hj, Option.map_some] at h1; rw [rdL j hj]; exact Option.some.inj h1); (· intro h; apply List.map_congr_left; intro l hl; obtain ⟨j, hj, rfl⟩ := List.getElem_of_mem hl; have := h j hj; rw [rdL j hj] at this; exact this)
theorem PartsOk.classes {L rs : List (List Rg)} {Ks : List (List UInt8)} (h : PartsOk L rs Ks) : Classes (keyL L) rs := by
  refine ⟨h.sound, h.ne, h.asc, fun r hr x y hx => ?_, fun x hx => ?_⟩
  · obtain ⟨j, hj, rfl⟩ := List.getElem_of_mem hr
    have hK : j < Ks.length := by rw [h.len]; exact hj
    have hm := h.mem j rs[j] Ks[j] (List.getElem?_eq_getElem hj) (List.getElem?_eq_getElem hK); have h1 := hm x; rw [hx] at h1; have h1' := Eq.symm h1; rw [Bool.and_eq_true, decide_eq_true_eq] at h1'; rw [hm y, Bool.and_eq_true, decide_eq_true_eq, keyL_key, h1'.2]
  · obtain ⟨j, hj, e⟩ := List.getElem_of_mem (h.all x hx)
    have hr : j < rs.length := by rw [← h.len]; exact hj
    refine ⟨rs[j], List.getElem_mem hr, ?_⟩; rw [h.mem j rs[j] Ks[j] (List.getElem?_eq_getElem hr) (List.getElem?_eq_getElem hj) x, hx, e]
    simp
theorem setsParts_run (A0 : Option Addr) (c0 : Nat) (L : List (List Rg)) (w : World) (hl : L.length ≤ 1048576) (ht : totL L ≤ 1048576) (hb : ∀ l ∈ L, ∀ r ∈ l, R32 r) (hr0 : Kd.C (Kd.slice 41 k41) w A0 L.length L) (hc0 : L.length ≤ c0) (hG : Glob w) :
    Calls Tryz.prog 33 #[.slice A0 L.length c0] w fun e w' => ∃ (v : Value) (R : List (List Rg)) (n : Int), e = .returned (.tuple #[v, .int .i64 n]) ∧ Kd.S (Kd.slice 41 k41) 24 w' w.heap.size (fun _ => True) v R ∧ PartsOf L R n ∧ Below w.heap.size w w' := by
  by_cases hs : ∀ l ∈ L, Sound l
  (· obtain ⟨rs, Ks, hR, hP⟩ := Parts_is L hs (by omega) (by show totL L ≤ _; omega); obtain ⟨k, hk⟩ := evk hR; refine (sets_Parts.calls k A0 c0 L _ _ w hr0 hc0 hG hk).mono ?_; rintro e w' ⟨v, rfl, hS, hb⟩; exact ⟨v, rs, 0, rfl, hS, .inr ⟨rfl, hs, hP.classes⟩, hb⟩); (· have hn : ∃ l ∈ L, ¬ Sound l := Classical.byContradiction fun h => hs fun l hm => Classical.byContradiction fun h2 => h ⟨l, hm, h2⟩; obtain ⟨k, hk⟩ := evk (parts_not (by omega) (fun l hm => ⟨by have := len_tot hm; omega, hb l hm⟩) hn); refine (sets_Parts.calls k A0 c0 L _ _ w hr0 hc0 hG hk).mono ?_; rintro e w' ⟨v, rfl, hS, hb⟩; exact ⟨v, [], 1, rfl, hS, .inl ⟨rfl, rfl, hn⟩, hb⟩)
theorem walk_is (l : List Rg) (hi : InL l) (n : Int) : Ev (fun k => thistlelaw02_walk.f k l n) ((WalkT.units (if Sound l then l else [])).take (WalkT.stopAt n)) := by
  unfold thistlelaw02_walk.f; have hl := hi.len; refine ev_if_pos (by omega) (Ev.bind (check_is l hi.l30 hi.r32) ?_)
  by_cases hs : Sound l
  · have hs' : WalkT.Sound l := hs; simp only [if_pos hs, if_true]; rw [if_pos hs']; exact Ev.now _
  · simp only [if_neg hs]
    have e : WalkT.Sound (if (1 : Int) = 0 then l else []) := by rw [if_neg (by decide)]; exact ⟨by simp, by simp⟩
    rw [if_pos e, if_neg (by decide)]; exact Ev.now _
theorem setsEach_run (A0 : Option Addr) (c0 : Nat) (l : List Rg) (n : Int) (w : World) (hi : InL l) (hr0 : Kd.C k41 w A0 l.length l) (hc0 : l.length ≤ c0) (hG : Glob w) :
    Calls Tryz.prog 34 #[.slice A0 l.length c0, .int .i64 n] w fun e w' => ∃ (v : Value) (R : List Int), e = .returned v ∧ Kd.R (Kd.int .i32) 21 w' w.heap.size (fun _ => True) v R ∧ EachOf l n R ∧ Below w.heap.size w w' := by
  obtain ⟨k, hk⟩ := evk (walk_is l hi n); refine (thistlelaw02_walk.calls k A0 c0 l n _ w hr0 hc0 hG hk).mono ?_; rintro e w' ⟨v, rfl, hR, hb⟩; refine ⟨v, _, rfl, hR, ⟨fun hs => ?_, fun hs => ?_⟩, hb⟩; (· rw [if_neg hs]; simp [WalkT.units])
  · rw [if_pos hs]
    have e1 : WalkT.units l = units l := rfl
    have e2 : WalkT.stopAt n = max 1 n.toNat := by unfold WalkT.stopAt; split <;> omega
    rw [e1, e2]
theorem wakes_run (w : World) (hG : Glob w) : Calls Tryz.prog 5 #[] w fun e w' => e = .returned (.bool true) ∧ Below w.heap.size w w' := by
  obtain ⟨k, hk⟩ := evk wakes_is; exact thistlelaw02_wakes.calls k true w hG hk
end Go.Proofs.YtoggmegpodmfnaaGreatDoor.Q
namespace Go.Proofs.YtoggmegpodmfnaaGreatDoor.Q
open Go.RowKit Go.Proofs.YtoggmegpodmfnaaGreatDoorW.PrintWords Go.Proofs.YtoggmegpodmfnaaGreatDoorW.PrintLast Go.Proofs.YtoggmegpodmfnaaGreatDoorW.PrintMore Go.Proofs.YtoggmegpodmfnaaGreatDoor.PS Go.Proofs.YtoggmegpodmfnaaGreatDoor.B
set_option linter.unusedVariables false
set_option linter.unusedSimpArgs false
theorem wrs (i : Nat) (h : i ≤ 1099511627776) : wrap64 ((i : Int) + 1) = ((i + 1 : Nat) : Int) := by unfold wrap64; omega
theorem evs {α : Type} {g f : Nat → Option α} {r : α} (hs : ∀ k, g (k + 1) = f k) (h : Ev f r) : Ev g r := Ev.step hs h
theorem sr0 (l : List Rg) (hl : l.length ≤ 1073741824) : ∀ (d i : Nat), l.length - i = d → Ev (fun k => thistleref02_SameRanges.l0 k l l (i : Int)) true
  | 0, i, hd => evs (f := fun _ => some true) (fun k => by rw [thistleref02_SameRanges.l0, if_neg (by omega)]) (Ev.now _)
  | d + 1, i, hd => evs (fun k => by rw [thistleref02_SameRanges.l0, if_pos (by omega), if_pos (by omega), if_pos (by omega), if_neg (by simp), wrs i (by omega)]) (sr0 l hl d (i + 1) (by omega))
theorem sr_is (l : List Rg) (hl : l.length ≤ 1073741824) : Ev (fun k => thistleref02_SameRanges.f k l l) true := by
  unfold thistleref02_SameRanges.f; simp only [if_pos]; exact sr0 l hl l.length 0 rfl
theorem su0 (l : List Int) (hl : l.length ≤ 1073741824) : ∀ (d i : Nat), l.length - i = d → Ev (fun k => thistleref02_SameRunes.l0 k l l (i : Int)) true
  | 0, i, hd => evs (f := fun _ => some true) (fun k => by rw [thistleref02_SameRunes.l0, if_neg (by omega)]) (Ev.now _)
  | d + 1, i, hd => evs (fun k => by rw [thistleref02_SameRunes.l0, if_pos (by omega), if_pos (by omega), if_pos (by omega), if_pos rfl, wrs i (by omega)]) (su0 l hl d (i + 1) (by omega))
theorem su_is (l : List Int) (hl : l.length ≤ 1073741824) : Ev (fun k => thistleref02_SameRunes.f k l l) true := by
  unfold thistleref02_SameRunes.f; simp only [if_pos]; exact su0 l hl l.length 0 rfl
theorem rdL_any (l : List (List Rg)) (hl : ∀ r ∈ l, r.length ≤ 1073741824) (i : Nat) : (rd_L4 l (i : Int)).length ≤ 1073741824 := by
  unfold rd_L4; rw [List.getD_eq_getElem?_getD, Int.toNat_natCast]
  cases h : l[i]? with
  | none => simp
  | some r => exact hl r (List.mem_of_getElem? h)
theorem ss0 (l : List (List Rg)) (hl : l.length ≤ 1073741824) (hr : ∀ r ∈ l, r.length ≤ 1073741824) : ∀ (d i : Nat), l.length - i = d → Ev (fun k => thistleref02_SameSets.l0 k l l (i : Int)) true
  | 0, i, hd => evs (f := fun _ => some true) (fun k => by rw [thistleref02_SameSets.l0, if_neg (by omega)]) (Ev.now _)
  | d + 1, i, hd => by
    refine evs (f := fun k => (thistleref02_SameRanges.f k (rd_L4 l (i : Int)) (rd_L4 l (i : Int))).bind fun t => if t = true then thistleref02_SameSets.l0 k l l ((i + 1 : Nat) : Int) else some false) (fun k => by rw [thistleref02_SameSets.l0, if_pos (by omega), if_pos (by omega), if_pos (by omega), wrs i (by omega)]) ?_; refine Ev.bind (sr_is _ (rdL_any l hr i)) ?_; simp only [if_pos]; exact ss0 l hl hr d (i + 1) (by omega)
theorem ss_is (l : List (List Rg)) (hl : l.length ≤ 1073741824) (hr : ∀ r ∈ l, r.length ≤ 1073741824) : Ev (fun k => thistleref02_SameSets.f k l l) true := by
  unfold thistleref02_SameSets.f; simp only [if_pos]; exact ss0 l hl hr l.length 0 rfl
structure Lay (w : World) (X : An) (A0 A1 A5 : Option Addr) (c0 c1 c5 : Nat) : Prop where
  r0 : Kd.C k41 w A0 X.S.length X.S
  l0 : X.S.length ≤ c0
  r1 : Kd.C (Kd.slice 41 k41) w A1 X.L.length X.L
  l1 : X.L.length ≤ c1
  r5 : Kd.C (Kd.int .i32) w A5 X.us.length X.us
  l5 : X.us.length ≤ c5
def anV (X : An) (A0 A1 A5 : Option Addr) (c0 c1 c5 : Nat) : Value := .agg #[.slice A0 X.S.length c0, .slice A1 X.L.length c1, .bool X.ok, .int .i64 X.n, .int .i32 X.u, .slice A5 X.us.length c5, .int .i64 X.e]
theorem Lay.on {w w' : World} {X : An} {A0 A1 A5 : Option Addr} {c0 c1 c5 : Nat} (h : Lay w X A0 A1 A5 c0 c1 c5) (hb : Below w.heap.size w w') : Lay w' X A0 A1 A5 c0 c1 c5 :=
  ⟨Kd.C_below h.r0 hb, h.l0, Kd.C_below h.r1 hb, h.l1, Kd.C_below h.r5 hb, h.l5⟩
set_option maxHeartbeats 8000000 in
set_option maxRecDepth 100000 in
theorem same_run (X : An) (A0 A1 A5 B0 B1 B5 : Option Addr) (c0 c1 c5 d0 d1 d5 : Nat) (w : World) (hX : Lay w X A0 A1 A5 c0 c1 c5) (hY : Lay w X B0 B1 B5 d0 d1 d5) (hs : Small X) :
    Calls Tryz.prog 8 #[anV X A0 A1 A5 c0 c1 c5, anV X B0 B1 B5 d0 d1 d5] w fun e w' => e = .returned (.bool true) ∧ Below w.heap.size w w' := by
  obtain ⟨k0, hk0⟩ := sr_is X.S (by have := hs.s0; omega); obtain ⟨k1, hk1⟩ := ss_is X.L (by have := hs.s1; omega) (fun r hr => by have := hs.s2 r hr; omega); obtain ⟨k5, hk5⟩ := su_is X.us (by have := hs.s5; omega); have H0 := Aside0.mk (hk0 k0 (Nat.le_refl _)); have H1 := Aside0.mk (hk1 k1 (Nat.le_refl _)); have H5 := Aside0.mk (hk5 k5 (Nat.le_refl _)); have HX := Aside0.mk hX; have HY := Aside0.mk hY; clear hX hY hs hk0 hk1 hk5; unfold anV; go_enter Tryz.func8, Tryz.ntmps8
  go_wp2_with (first
    | ((with_reducible refine gate_dst (N := 2) rfl ?_); refine box_event ?hg (N := 2) ?hd (cs := #[.slice A0 X.S.length c0, .slice A1 X.L.length c1, .bool X.ok, .int .i64 X.n, .int .i32 X.u, .slice A5 X.us.length c5, .int .i64 X.e]) (t := 29) ?hr ?_; (case hd => rfl); (case hg => rfl); (case hr => first | (go_simp; done) | (go_simp; rfl)); intro g2 hg w1 hbox hb; have HBxw1 : BelC w w1 := ⟨hb⟩; have HG2 := Aside0.mk hbox; have hx0 : w1.cell? ⟨g2, 0, none⟩ = some (.slice A0 X.S.length c0) := (blk_cell hbox 0).trans rfl; have hx1 : w1.cell? ⟨g2, 1, none⟩ = some (.slice A1 X.L.length c1) := (blk_cell hbox 1).trans rfl; have hx2 : w1.cell? ⟨g2, 2, none⟩ = some (.bool X.ok) := (blk_cell hbox 2).trans rfl; have hx3 : w1.cell? ⟨g2, 3, none⟩ = some (.int .i64 X.n) := (blk_cell hbox 3).trans rfl; have hx4 : w1.cell? ⟨g2, 4, none⟩ = some (.int .i32 X.u) := (blk_cell hbox 4).trans rfl; have hx5 : w1.cell? ⟨g2, 5, none⟩ = some (.slice A5 X.us.length c5) := (blk_cell hbox 5).trans rfl; have hx6 : w1.cell? ⟨g2, 6, none⟩ = some (.int .i64 X.e) := (blk_cell hbox 6).trans rfl; clear hb hbox hg)
    | ((with_reducible refine gate_dst (N := 3) rfl ?_); refine box_event ?hg (N := 3) ?hd (cs := #[.slice B0 X.S.length d0, .slice B1 X.L.length d1, .bool X.ok, .int .i64 X.n, .int .i32 X.u, .slice B5 X.us.length d5, .int .i64 X.e]) (t := 29) ?hr ?_; (case hd => rfl); (case hg => rfl); (case hr => first | (go_simp; done) | (go_simp; rfl)); intro g3 hg w2 hbox hb; have HBxw2 : BelC w1 w2 := ⟨hb⟩; have HW2 : BelC w w2 := bs hb; have HG2' := Aside0.mk (blk_below HG2.out hb); have hx0 : w2.cell? ⟨g2, 0, none⟩ = some (.slice A0 X.S.length c0) := (blk_cell HG2'.out 0).trans rfl; have hx1 : w2.cell? ⟨g2, 1, none⟩ = some (.slice A1 X.L.length c1) := (blk_cell HG2'.out 1).trans rfl; have hx2 : w2.cell? ⟨g2, 2, none⟩ = some (.bool X.ok) := (blk_cell HG2'.out 2).trans rfl; have hx3 : w2.cell? ⟨g2, 3, none⟩ = some (.int .i64 X.n) := (blk_cell HG2'.out 3).trans rfl; have hx4 : w2.cell? ⟨g2, 4, none⟩ = some (.int .i32 X.u) := (blk_cell HG2'.out 4).trans rfl; have hx5 : w2.cell? ⟨g2, 5, none⟩ = some (.slice A5 X.us.length c5) := (blk_cell HG2'.out 5).trans rfl; have hx6 : w2.cell? ⟨g2, 6, none⟩ = some (.int .i64 X.e) := (blk_cell HG2'.out 6).trans rfl; have hy0 : w2.cell? ⟨g3, 0, none⟩ = some (.slice B0 X.S.length d0) := (blk_cell hbox 0).trans rfl; have hy1 : w2.cell? ⟨g3, 1, none⟩ = some (.slice B1 X.L.length d1) := (blk_cell hbox 1).trans rfl; have hy2 : w2.cell? ⟨g3, 2, none⟩ = some (.bool X.ok) := (blk_cell hbox 2).trans rfl; have hy3 : w2.cell? ⟨g3, 3, none⟩ = some (.int .i64 X.n) := (blk_cell hbox 3).trans rfl; have hy4 : w2.cell? ⟨g3, 4, none⟩ = some (.int .i32 X.u) := (blk_cell hbox 4).trans rfl; have hy5 : w2.cell? ⟨g3, 5, none⟩ = some (.slice B5 X.us.length d5) := (blk_cell hbox 5).trans rfl; have hy6 : w2.cell? ⟨g3, 6, none⟩ = some (.int .i64 X.e) := (blk_cell hbox 6).trans rfl; clear hb hbox hg)
    | (go_at_call 35; (with_reducible refine (thistleref02_SameRanges.calls k0 A0 c0 X.S B0 d0 X.S true _ (cl HX.out.r0) HX.out.l0 (cl HY.out.r0) HY.out.l0 H0.out).mono ?_); rintro e w3 ⟨rfl, ⟨n3, rfl⟩⟩)
    | (go_at_call 36; (with_reducible refine (thistleref02_SameSets.calls k1 A1 c1 X.L B1 d1 X.L true _ (cl HX.out.r1) HX.out.l1 (cl HY.out.r1) HY.out.l1 H1.out).mono ?_); rintro e w4 ⟨rfl, ⟨n4, rfl⟩⟩)
    | (go_at_call 37; (with_reducible refine (thistleref02_SameRunes.calls k5 A5 c5 X.us B5 d5 X.us true _ (cl HX.out.r5) HX.out.l5 (cl HY.out.r5) HY.out.l5 H5.out).mono ?_); rintro e w5 ⟨rfl, ⟨n5, rfl⟩⟩))
  go_ret; exact ⟨by first | rfl | simp, bw⟩
end Go.Proofs.YtoggmegpodmfnaaGreatDoor.Q
namespace Go.Proofs.YtoggmegpodmfnaaGreatDoor.Q
open Go.RowKit Go.Proofs.YtoggmegpodmfnaaGreatDoorW.PrintWords Go.Proofs.YtoggmegpodmfnaaGreatDoorW.PrintLast Go.Proofs.YtoggmegpodmfnaaGreatDoorW.PrintMore Go.Proofs.YtoggmegpodmfnaaGreatDoor.PS Go.Proofs.YtoggmegpodmfnaaGreatDoor.B
set_option linter.unusedVariables false
set_option linter.unusedSimpArgs false
structure LayO (w : World) (o : Opn) (Aa Ab AL : Option Addr) (ca cb cL : Nat) : Prop where
  ra : Kd.C k41 w Aa o.a.length o.a
  la : o.a.length ≤ ca
  rb : Kd.C k41 w Ab o.b.length o.b
  lb : o.b.length ≤ cb
  rL : Kd.C (Kd.slice 41 k41) w AL o.L.length o.L
  lL : o.L.length ≤ cL
theorem LayO.on {w w' : World} {o : Opn} {Aa Ab AL : Option Addr} {ca cb cL : Nat} (h : LayO w o Aa Ab AL ca cb cL) (hb : Below w.heap.size w w') : LayO w' o Aa Ab AL ca cb cL :=
  ⟨Kd.C_below h.ra hb, h.la, Kd.C_below h.rb hb, h.lb, Kd.C_below h.rL hb, h.lL⟩
def opV (o : Opn) (Aa Ab AL : Option Addr) (ca cb cL : Nat) : Value := .agg #[.int .i64 o.kd, .slice Aa o.a.length ca, .slice Ab o.b.length cb, .int .i32 o.u, .int .i64 o.k, .slice AL o.L.length cL]
def Gives (w : World) (o : Opn) (e : Ending) (w' : World) : Prop :=
  ∃ (v0 v1 v5 : Value) (X : An), e = .returned (.agg #[v0, v1, .bool X.ok, .int .i64 X.n, .int .i32 X.u, v5, .int .i64 X.e]) ∧ Kd.R k41 41 w' w.heap.size (fun _ => True) v0 X.S ∧ Kd.S (Kd.slice 41 k41) 24 w' w.heap.size (fun _ => True) v1 X.L ∧ Kd.R (Kd.int .i32) 21 w' w.heap.size (fun _ => True) v5 X.us ∧ (v0 = .slice none 0 0 ∨ v1 = .slice none 0 0) ∧ Does o X ∧ Small X ∧ Below w.heap.size w w'
def set7 (W : World) (g : Nat) (d0 d1 d2 d3 d4 d5 d6 : Value) : World := ((((((W.setCell ⟨g, 0, none⟩ d0).setCell ⟨g, 1, none⟩ d1).setCell ⟨g, 2, none⟩ d2).setCell ⟨g, 3, none⟩ d3).setCell ⟨g, 4, none⟩ d4).setCell ⟨g, 5, none⟩ d5).setCell ⟨g, 6, none⟩ d6
theorem set7_put {W : World} {g t : Nat} {c0 c1 c2 c3 c4 c5 c6 : Value} (d0 d1 d2 d3 d4 d5 d6 : Value) (h : W.heap[g]? = some (.cells #[c0, c1, c2, c3, c4, c5, c6] t (0, 0))) : (set7 W g d0 d1 d2 d3 d4 d5 d6).heap[g]? = some (.cells #[d0, d1, d2, d3, d4, d5, d6] t (0, 0)) := by
  have h0 := blk_put (cs' := #[d0, c1, c2, c3, c4, c5, c6]) h 0 d0 rfl; have h1 := blk_put (cs' := #[d0, d1, c2, c3, c4, c5, c6]) h0 1 d1 rfl; have h2 := blk_put (cs' := #[d0, d1, d2, c3, c4, c5, c6]) h1 2 d2 rfl; have h3 := blk_put (cs' := #[d0, d1, d2, d3, c4, c5, c6]) h2 3 d3 rfl; have h4 := blk_put (cs' := #[d0, d1, d2, d3, d4, c5, c6]) h3 4 d4 rfl; have h5 := blk_put (cs' := #[d0, d1, d2, d3, d4, d5, c6]) h4 5 d5 rfl; exact blk_put (cs' := #[d0, d1, d2, d3, d4, d5, d6]) h5 6 d6 rfl
theorem set1_far {W : World} {g i : Nat} {d : Value} {k : Nat} (h : k ≠ g) : (W.setCell ⟨g, i, none⟩ d).heap[k]? = W.heap[k]? := Below.heap_setCell W ⟨g, i, none⟩ d k h
theorem set7_far {W : World} {g : Nat} {d0 d1 d2 d3 d4 d5 d6 : Value} {k : Nat} (h : k ≠ g) : (set7 W g d0 d1 d2 d3 d4 d5 d6).heap[k]? = W.heap[k]? := by
  unfold set7; rw [set1_far h, set1_far h, set1_far h, set1_far h, set1_far h, set1_far h, set1_far h]
theorem set7_below {w W : World} {g : Nat} {d0 d1 d2 d3 d4 d5 d6 : Value} (h : Below w.heap.size w W) (hg : w.heap.size ≤ g) : Below w.heap.size w (set7 W g d0 d1 d2 d3 d4 d5 d6) :=
  below_set (below_set (below_set (below_set (below_set (below_set (below_set h hg) hg) hg) hg) hg) hg) hg
theorem cells7 {W : World} {g t : Nat} {c0 c1 c2 c3 c4 c5 c6 : Value} (h : W.heap[g]? = some (.cells #[c0, c1, c2, c3, c4, c5, c6] t (0, 0))) : W.cell? ⟨g, 0, none⟩ = some c0 ∧ W.cell? ⟨g, 1, none⟩ = some c1 ∧ W.cell? ⟨g, 2, none⟩ = some c2 ∧ W.cell? ⟨g, 3, none⟩ = some c3 ∧ W.cell? ⟨g, 4, none⟩ = some c4 ∧ W.cell? ⟨g, 5, none⟩ = some c5 ∧ W.cell? ⟨g, 6, none⟩ = some c6 ∧
    W.frozen? ⟨g, 0, none⟩ = false ∧ W.frozen? ⟨g, 1, none⟩ = false ∧ W.frozen? ⟨g, 2, none⟩ = false ∧ W.frozen? ⟨g, 3, none⟩ = false ∧ W.frozen? ⟨g, 4, none⟩ = false ∧ W.frozen? ⟨g, 5, none⟩ = false ∧ W.frozen? ⟨g, 6, none⟩ = false :=
  ⟨(blk_cell h 0).trans rfl, (blk_cell h 1).trans rfl, (blk_cell h 2).trans rfl, (blk_cell h 3).trans rfl, (blk_cell h 4).trans rfl, (blk_cell h 5).trans rfl, (blk_cell h 6).trans rfl, blk_frozen h 0, blk_frozen h 1, blk_frozen h 2, blk_frozen h 3, blk_frozen h 4, blk_frozen h 5, blk_frozen h 6⟩
theorem cells6 {W : World} {g t : Nat} {c0 c1 c2 c3 c4 c5 : Value} (h : W.heap[g]? = some (.cells #[c0, c1, c2, c3, c4, c5] t (0, 0))) : W.cell? ⟨g, 0, none⟩ = some c0 ∧ W.cell? ⟨g, 1, none⟩ = some c1 ∧ W.cell? ⟨g, 2, none⟩ = some c2 ∧ W.cell? ⟨g, 3, none⟩ = some c3 ∧ W.cell? ⟨g, 4, none⟩ = some c4 ∧ W.cell? ⟨g, 5, none⟩ = some c5 :=
  ⟨(blk_cell h 0).trans rfl, (blk_cell h 1).trans rfl, (blk_cell h 2).trans rfl, (blk_cell h 3).trans rfl, (blk_cell h 4).trans rfl, (blk_cell h 5).trans rfl⟩
theorem nx {w W W' : World} {g b : Nat} {o : Obj} [h : BelC w W] (hx : W.heap[g]? = some o) (hg : b = W.heap.size) (hb : Below W.heap.size W W') : BelC w W' ∧ W'.heap[g]? = some o ∧ w.heap.size ≤ b ∧ g < b :=
  ⟨bs hb, blk_below hx hb, by rw [hg]; exact bz (w := w), by rw [hg]; exact blk_lt hx⟩
section
variable {w w3 w4 W : World} {g2 g3 : Nat} (hs : w.heap.size ≤ w3.heap.size ∧ g2 < w3.heap.size ∧ g3 < w3.heap.size) (hf : ∀ k, k ≠ g2 → k ≠ g3 → W.heap[k]? = w4.heap[k]?)
include hs hf
theorem keepR {α : Type} {d : Kd α} {e : Nat} {v : Value} {R : List α} (h : d.R e w4 w3.heap.size (fun _ => True) v R) : d.R e W w.heap.size (fun _ => True) v R :=
  Kd.R_lower (Kd.R_mono (Kd.R_step (Kd.R_bound h) (fun k hk _ => hf k (by have := hk.2.1; omega) (by have := hk.2.1; omega))) (fun _ _ => trivial)) hs.1
theorem keepS {α : Type} {d : Kd α} {e : Nat} {v : Value} {R : List α} (h : Kd.S d e w4 w3.heap.size (fun _ => True) v R) : Kd.S d e W w.heap.size (fun _ => True) v R :=
  Kd.S_lower (Kd.S_mono (Kd.S_step (Kd.S_bound h) (fun k hk _ => hf k (by have := hk.2.1; omega) (by have := hk.2.1; omega))) (fun _ _ => trivial)) hs.1
end
theorem far1 {W : World} {g2 g3 i : Nat} {x d0 d1 d2 d3 d4 d5 d6 : Value} (k : Nat) (h2 : k ≠ g2) (h3 : k ≠ g3) : (set7 (W.setCell ⟨g3, i, none⟩ x) g2 d0 d1 d2 d3 d4 d5 d6).heap[k]? = W.heap[k]? := (set7_far h2).trans (set1_far h3)
theorem far2 {W : World} {g2 g3 i j : Nat} {x y d0 d1 d2 d3 d4 d5 d6 : Value} (k : Nat) (h2 : k ≠ g2) (h3 : k ≠ g3) : (set7 ((W.setCell ⟨g3, i, none⟩ x).setCell ⟨g3, j, none⟩ y) g2 d0 d1 d2 d3 d4 d5 d6).heap[k]? = W.heap[k]? := (set7_far h2).trans ((set1_far h3).trans (set1_far h3))
section
variable {o : Opn} {R : List Rg} {RL : List (List Rg)} {Ru : List Int} {b : Bool} {n m : Int}
theorem does1 (hk : o.kd = 1) (h : n = if Sound o.a then 0 else 1) : Does o { e := n } :=
  does_kd hk (fun _ => by rw [h]) (fun h => absurd h (by decide)) (fun h => absurd h (by decide)) (fun h => absurd h (by decide)) (fun h => absurd h (by decide)) (fun h => absurd h (by decide)) (fun h => absurd h (by decide)) (fun h => absurd h (by decide)) (fun h => absurd h (by decide)) (fun h => absurd h (by decide)) (fun h => absurd h (by decide)) (fun h => absurd h (by decide)) (fun h => absurd h (by decide))
theorem does2 (hk : o.kd = 2) (h : MadeOf o.a R n) : Does o { S := R, e := n } :=
  does_kd hk (fun h => absurd h (by decide)) (fun _ => ⟨_, _, rfl, h⟩) (fun h => absurd h (by decide)) (fun h => absurd h (by decide)) (fun h => absurd h (by decide)) (fun h => absurd h (by decide)) (fun h => absurd h (by decide)) (fun h => absurd h (by decide)) (fun h => absurd h (by decide)) (fun h => absurd h (by decide)) (fun h => absurd h (by decide)) (fun h => absurd h (by decide)) (fun h => absurd h (by decide))
theorem does3 (hk : o.kd = 3) (h : Ruled 1 o.a o.b R n) : Does o { S := R, e := n } :=
  does_kd hk (fun h => absurd h (by decide)) (fun h => absurd h (by decide)) (fun _ => ⟨_, _, rfl, h⟩) (fun h => absurd h (by decide)) (fun h => absurd h (by decide)) (fun h => absurd h (by decide)) (fun h => absurd h (by decide)) (fun h => absurd h (by decide)) (fun h => absurd h (by decide)) (fun h => absurd h (by decide)) (fun h => absurd h (by decide)) (fun h => absurd h (by decide)) (fun h => absurd h (by decide))
theorem does4 (hk : o.kd = 4) (h : Ruled 2 o.a o.b R n) : Does o { S := R, e := n } :=
  does_kd hk (fun h => absurd h (by decide)) (fun h => absurd h (by decide)) (fun h => absurd h (by decide)) (fun _ => ⟨_, _, rfl, h⟩) (fun h => absurd h (by decide)) (fun h => absurd h (by decide)) (fun h => absurd h (by decide)) (fun h => absurd h (by decide)) (fun h => absurd h (by decide)) (fun h => absurd h (by decide)) (fun h => absurd h (by decide)) (fun h => absurd h (by decide)) (fun h => absurd h (by decide))
theorem does5 (hk : o.kd = 5) (h : Ruled 3 o.a o.b R n) : Does o { S := R, e := n } :=
  does_kd hk (fun h => absurd h (by decide)) (fun h => absurd h (by decide)) (fun h => absurd h (by decide)) (fun h => absurd h (by decide)) (fun _ => ⟨_, _, rfl, h⟩) (fun h => absurd h (by decide)) (fun h => absurd h (by decide)) (fun h => absurd h (by decide)) (fun h => absurd h (by decide)) (fun h => absurd h (by decide)) (fun h => absurd h (by decide)) (fun h => absurd h (by decide)) (fun h => absurd h (by decide))
theorem does6 (hk : o.kd = 6) (h : Ruled 4 o.a [] R n) : Does o { S := R, e := n } :=
  does_kd hk (fun h => absurd h (by decide)) (fun h => absurd h (by decide)) (fun h => absurd h (by decide)) (fun h => absurd h (by decide)) (fun h => absurd h (by decide)) (fun _ => ⟨_, _, rfl, h⟩) (fun h => absurd h (by decide)) (fun h => absurd h (by decide)) (fun h => absurd h (by decide)) (fun h => absurd h (by decide)) (fun h => absurd h (by decide)) (fun h => absurd h (by decide)) (fun h => absurd h (by decide))
theorem does7 (hk : o.kd = 7) (h : Ruled 4 o.a [rawR] R n) : Does o { S := R, e := n } :=
  does_kd hk (fun h => absurd h (by decide)) (fun h => absurd h (by decide)) (fun h => absurd h (by decide)) (fun h => absurd h (by decide)) (fun h => absurd h (by decide)) (fun h => absurd h (by decide)) (fun _ => ⟨_, _, rfl, h⟩) (fun h => absurd h (by decide)) (fun h => absurd h (by decide)) (fun h => absurd h (by decide)) (fun h => absurd h (by decide)) (fun h => absurd h (by decide)) (fun h => absurd h (by decide))
theorem does8 (hk : o.kd = 8) (h : HasOf o.a o.u b n) : Does o { ok := b, e := n } :=
  does_kd hk (fun h => absurd h (by decide)) (fun h => absurd h (by decide)) (fun h => absurd h (by decide)) (fun h => absurd h (by decide)) (fun h => absurd h (by decide)) (fun h => absurd h (by decide)) (fun h => absurd h (by decide)) (fun _ => ⟨_, _, rfl, h⟩) (fun h => absurd h (by decide)) (fun h => absurd h (by decide)) (fun h => absurd h (by decide)) (fun h => absurd h (by decide)) (fun h => absurd h (by decide))
theorem does9 (hk : o.kd = 9) (h : SizeOf_ o.a m n) : Does o { n := m, e := n } :=
  does_kd hk (fun h => absurd h (by decide)) (fun h => absurd h (by decide)) (fun h => absurd h (by decide)) (fun h => absurd h (by decide)) (fun h => absurd h (by decide)) (fun h => absurd h (by decide)) (fun h => absurd h (by decide)) (fun h => absurd h (by decide)) (fun _ => ⟨_, _, rfl, h⟩) (fun h => absurd h (by decide)) (fun h => absurd h (by decide)) (fun h => absurd h (by decide)) (fun h => absurd h (by decide))
theorem does10 (hk : o.kd = 10) (h : PickOf o.a o.k m n) : Does o { u := m, e := n } :=
  does_kd hk (fun h => absurd h (by decide)) (fun h => absurd h (by decide)) (fun h => absurd h (by decide)) (fun h => absurd h (by decide)) (fun h => absurd h (by decide)) (fun h => absurd h (by decide)) (fun h => absurd h (by decide)) (fun h => absurd h (by decide)) (fun h => absurd h (by decide)) (fun _ => ⟨_, _, rfl, h⟩) (fun h => absurd h (by decide)) (fun h => absurd h (by decide)) (fun h => absurd h (by decide))
theorem does11 (hk : o.kd = 11) (h : PartsOf o.L RL n) : Does o { L := RL, e := n } :=
  does_kd hk (fun h => absurd h (by decide)) (fun h => absurd h (by decide)) (fun h => absurd h (by decide)) (fun h => absurd h (by decide)) (fun h => absurd h (by decide)) (fun h => absurd h (by decide)) (fun h => absurd h (by decide)) (fun h => absurd h (by decide)) (fun h => absurd h (by decide)) (fun h => absurd h (by decide)) (fun _ => ⟨_, _, rfl, h⟩) (fun h => absurd h (by decide)) (fun h => absurd h (by decide))
theorem does12 (hk : o.kd = 12) (h : EachOf o.a o.k Ru) : Does o { us := Ru } :=
  does_kd hk (fun h => absurd h (by decide)) (fun h => absurd h (by decide)) (fun h => absurd h (by decide)) (fun h => absurd h (by decide)) (fun h => absurd h (by decide)) (fun h => absurd h (by decide)) (fun h => absurd h (by decide)) (fun h => absurd h (by decide)) (fun h => absurd h (by decide)) (fun h => absurd h (by decide)) (fun h => absurd h (by decide)) (fun _ => ⟨Ru, rfl, h⟩) (fun h => absurd h (by decide))
theorem does0 (hk : o.kd < 1 ∨ 12 < o.kd) : Does o {} :=
  does_kd rfl (fun h => absurd h (by omega)) (fun h => absurd h (by omega)) (fun h => absurd h (by omega)) (fun h => absurd h (by omega)) (fun h => absurd h (by omega)) (fun h => absurd h (by omega)) (fun h => absurd h (by omega)) (fun h => absurd h (by omega)) (fun h => absurd h (by omega)) (fun h => absurd h (by omega)) (fun h => absurd h (by omega)) (fun h => absurd h (by omega)) (fun _ => rfl)
end
theorem aft {w w3 w4 : World} {g2 g3 t : Nat} {b0 b1 b2 b3 b4 b5 b6 c0 c1 c2 c3 c4 c5 c6 : Value} (h : BelC w w3) (h2 : w3.heap[g2]? = some (.cells #[b0, b1, b2, b3, b4, b5, b6] t (0, 0))) (h3 : w3.heap[g3]? = some (.cells #[c0, c1, c2, c3, c4, c5, c6] t (0, 0))) (hb : Below w3.heap.size w3 w4) :
    BelC w w4 ∧ w4.heap[g2]? = some (.cells #[b0, b1, b2, b3, b4, b5, b6] t (0, 0)) ∧ w4.heap[g3]? = some (.cells #[c0, c1, c2, c3, c4, c5, c6] t (0, 0)) ∧ (w.heap.size ≤ w3.heap.size ∧ g2 < w3.heap.size ∧ g3 < w3.heap.size) :=
  ⟨bs hb, blk_below h2 hb, blk_below h3 hb, bz (w := w), blk_lt h2, blk_lt h3⟩
structure InO (o : Opn) : Prop where
  a : InL o.a
  b : InL o.b
  u : I32 o.u
  k : -9223372036854775808 ≤ o.k ∧ o.k ≤ 9223372036854775807
  L : o.L.length ≤ 1048576
  t : totL o.L ≤ 1048576
  r : ∀ l ∈ o.L, ∀ r ∈ l, R32 r
section
variable {o : Opn} (h : InO o)
include h
theorem InO.a26 : o.a.length ≤ 67108864 := Nat.le_trans h.a.len (by decide)
theorem InO.a24 : o.a.length ≤ 16777216 := Nat.le_trans h.a.len (by decide)
theorem InO.a23 : o.a.length ≤ 8388608 := Nat.le_trans h.a.len (by decide)
theorem InO.b23 : o.b.length ≤ 8388608 := Nat.le_trans h.b.len (by decide)
theorem InO.l24 : o.L.length ≤ 16777216 := Nat.le_trans h.L (by decide)
theorem InO.t24 : totL o.L ≤ 16777216 := Nat.le_trans h.t (by decide)
end
theorem units26 (l : List Rg) (hs : Sound l) : (units l).length ≤ 67108864 := by have := units_len l hs; have := sz_bound hs; omega
theorem first_each {f : Nat} {args : Array Value} {l : List Rg} {n : Int} {w : World} (h : Calls Tryz.prog f args w fun e w' => ∃ (v : Value) (R : List Int), e = .returned v ∧ Kd.R (Kd.int .i32) 21 w' w.heap.size (fun _ => True) v R ∧ (¬ Sound l → R = []) ∧ (Sound l → R = (units l).take (max 1 n.toNat)) ∧ Below w.heap.size w w') :
    Calls Tryz.prog f args w fun e w' => ∃ (v : Value) (R : List Int), e = .returned v ∧ Kd.R (Kd.int .i32) 21 w' w.heap.size (fun _ => True) v R ∧ EachOf l n R ∧ Below w.heap.size w w' :=
  h.mono (by rintro e w' ⟨v, R, h1, h2, h3, h4, h5⟩; exact ⟨v, R, h1, h2, ⟨h3, h4⟩, h5⟩)
theorem kd_split {p q : Prop} (i : Int) (hp : p) (hq : q) : i = 1 ∨ i = 2 ∨ i = 3 ∨ i = 4 ∨ i = 5 ∨ i = 6 ∨ i = 7 ∨ i = 8 ∨ i = 9 ∨ i = 10 ∨ i = 11 ∨ i = 12 ∨
    ((i == 1) = false ∧ (i == 2) = false ∧ (i == 3) = false ∧ (i == 4) = false ∧ (i == 5) = false ∧ (i == 6) = false ∧ (i == 7) = false ∧ (i == 8) = false ∧ (i == 9) = false ∧ (i == 10) = false ∧ (i == 11) = false ∧ (i == 12) = false ∧ Aside0 (i < 1 ∨ 12 < i) ∧ p ∧ q) := by
  rcases (by omega : i = 1 ∨ i = 2 ∨ i = 3 ∨ i = 4 ∨ i = 5 ∨ i = 6 ∨ i = 7 ∨ i = 8 ∨ i = 9 ∨ i = 10 ∨ i = 11 ∨ i = 12 ∨ (i < 1 ∨ 12 < i)) with h | h | h | h | h | h | h | h | h | h | h | h | h
  case inr.inr.inr.inr.inr.inr.inr.inr.inr.inr.inr.inr =>
    have e : ∀ j : Int, 1 ≤ j → j ≤ 12 → (i == j) = false := fun j h1 h2 => beq_eq_false_iff_ne.mpr (by omega); exact .inr (.inr (.inr (.inr (.inr (.inr (.inr (.inr (.inr (.inr (.inr (.inr ⟨e 1 (by omega) (by omega), e 2 (by omega) (by omega), e 3 (by omega) (by omega), e 4 (by omega) (by omega), e 5 (by omega) (by omega), e 6 (by omega) (by omega), e 7 (by omega) (by omega), e 8 (by omega) (by omega), e 9 (by omega) (by omega), e 10 (by omega) (by omega), e 11 (by omega) (by omega), e 12 (by omega) (by omega), ⟨h⟩, hp, hq⟩)))))))))))
  all_goals simp [h]
set_option maxHeartbeats 8000000 in
set_option maxRecDepth 100000 in
theorem plays_run (o : Opn) (Aa Ab AL : Option Addr) (ca cb cL : Nat) (w : World) (hi : InO o) (hO : LayO w o Aa Ab AL ca cb cL) (hG : Glob w) :
    Calls Tryz.prog 7 #[opV o Aa Ab AL ca cb cL] w fun e w' => Gives w o e w' := by
  have HI := Aside0.mk hi; have HO0 := Aside0.mk hO; have HGl := Aside0.mk hG; unfold opV; clear hi hO hG; obtain ⟨kd, hkd⟩ : ∃ kd, kd = o.kd := ⟨_, rfl⟩; rw [← hkd]; have HK := Aside0.mk hkd.symm; clear hkd; go_enter Tryz.func7, Tryz.ntmps7
  go_wp2_with (first
    | ((with_reducible refine gate_dst (N := 1) rfl ?_); refine box_event rfl (N := 1) rfl (cs := #[.int .i64 kd, .slice Aa o.a.length ca, .slice Ab o.b.length cb, .int .i32 o.u, .int .i64 o.k, .slice AL o.L.length cL]) (t := 32) (by first | (go_simp; done) | (go_simp; rfl)) ?_; intro g1 hg w1 hbox hb; have HB1 : BelC w w1 := ⟨hb⟩; have H1 := Aside0.mk hbox; clear hb hbox hg)
    | ((with_reducible refine gate_dst (N := 2) rfl ?_); refine box_event rfl (N := 2) rfl (cs := #[.slice none 0 0, .slice none 0 0, .bool false, .int .i64 0, .int .i32 0, .slice none 0 0, .int .i64 0]) (t := 29) (by first | (go_simp; done) | (go_simp; rfl)) ?_; intro g2 hg w2 hbox hb; obtain ⟨HB2, h1, q⟩ := nx (w := w) H1.out hg hb; have H1' := Aside0.mk h1; have H2 := Aside0.mk hbox; have HG2 := Aside0.mk q; clear h1 q; clear hb hbox hg)
    | ((with_reducible refine gate_dst (N := 3) rfl ?_); refine box_event rfl (N := 3) rfl (cs := #[.slice none 0 0, .slice none 0 0, .bool false, .int .i64 0, .int .i32 0, .slice none 0 0, .int .i64 0]) (t := 29) (by first | (go_simp; done) | (go_simp; rfl)) ?_; intro g3 hg w3 hbox hb; obtain ⟨HB3, h2, q⟩ := nx (w := w) H2.out hg hb; have H1'' := Aside0.mk (blk_below H1'.out hb); have H2' := Aside0.mk h2; have H3 := Aside0.mk hbox; have HG3 := Aside0.mk q; clear h2 q; obtain ⟨ho0, ho1, ho2, ho3, ho4, ho5⟩ := cells6 H1''.out; have hne : g3 ≠ g2 := Nat.ne_of_gt HG3.out.2; have hne' : g2 ≠ g3 := Nat.ne_of_lt HG3.out.2; have HO3 := Aside0.mk (HO0.out.on HB3.out); have HG3' := Aside0.mk (Glob.of_below HGl.out HB3.out); clear hb hbox hg; (rcases kd_split kd (cells7 H3.out) (cells7 H2'.out) with rfl | rfl | rfl | rfl | rfl | rfl | rfl | rfl | rfl | rfl | rfl | rfl | ⟨k1, k2, k3, k4, k5, k6, k7, k8, k9, k10, k11, k12, HK0, ⟨hz0, hz1, hz2, hz3, hz4, hz5, hz6, hf0, hf1, hf2, hf3, hf4, hf5, hf6⟩, hr0, hr1, hr2, hr3, hr4, hr5, hr6, hq0, hq1, hq2, hq3, hq4, hq5, hq6⟩)))
  · obtain ⟨n, hn⟩ : ∃ n : Int, n = if Sound o.a then 0 else 1 := ⟨_, rfl⟩
    have cc := setsCheck_run Aa ca o.a w3 HI.out.a HO3.out.ra HO3.out.la HG3'.out; rw [← hn] at cc; have HR := Aside0.mk hn; clear hn
    go_wp2_with (go_at_call 24; (with_reducible refine (cc).mono ?_); rintro e w4 ⟨rfl, hb⟩; obtain ⟨HB4, h2, h3, q⟩ := aft HB3 H2'.out H3.out hb; have H2'' := Aside0.mk h2; have HS := Aside0.mk q; obtain ⟨hz0, hz1, hz2, hz3, hz4, hz5, hz6, hf0, hf1, hf2, hf3, hf4, hf5, hf6⟩ := cells7 h3; obtain ⟨hr0, hr1, hr2, hr3, hr4, hr5, hr6, hq0, hq1, hq2, hq3, hq4, hq5, hq6⟩ := cells7 h2; clear hb h2 h3 q; skip)
    refine bodyPost_ret (results_cell_row rfl _ _ g2 29 #[.slice none 0 0, .slice none 0 0, .bool false, .int .i64 0, .int .i32 0, .slice none 0 0, .int .i64 n] (0, 0) _ rfl (set7_put _ _ _ _ _ _ _ ((set1_far hne').trans (H2''.out))) Tryz.underlying29 rfl (by kernel_rfl)) rfl ?_; exact ⟨_, _, _, ({ e := n } : An), rfl, Kd.R_nil _ _ _ _ _, Kd.S_nil _ _ _ _ _, Kd.R_nil _ _ _ _ _, .inr rfl, does1 HK.out HR.out, small_none false 0 0 n, set7_below (below_set (HB4.out) HG3.out.1) HG2.out.1⟩
  · go_wp2_with (go_at_call 12; (with_reducible refine (setsMake_run Aa ca o.a w3 HI.out.a HO3.out.ra HO3.out.la HG3'.out).mono ?_); rintro e w4 ⟨v, R, n, rfl, ho, hr, hb⟩; obtain ⟨HB4, h2, h3, q⟩ := aft HB3 H2'.out H3.out hb; have H2'' := Aside0.mk h2; have HS := Aside0.mk q; obtain ⟨hz0, hz1, hz2, hz3, hz4, hz5, hz6, hf0, hf1, hf2, hf3, hf4, hf5, hf6⟩ := cells7 h3; obtain ⟨hr0, hr1, hr2, hr3, hr4, hr5, hr6, hq0, hq1, hq2, hq3, hq4, hq5, hq6⟩ := cells7 h2; clear hb h2 h3 q; obtain ⟨Ar, cr, rfl⟩ := Kd.R_slice ho; have HO := Aside0.mk ho; have HR := Aside0.mk hr; clear ho hr)
    refine bodyPost_ret (results_cell_row rfl _ _ g2 29 #[.slice Ar R.length cr, .slice none 0 0, .bool false, .int .i64 0, .int .i32 0, .slice none 0 0, .int .i64 n] (0, 0) _ rfl (set7_put _ _ _ _ _ _ _ ((set1_far hne').trans ((set1_far hne').trans (H2''.out)))) Tryz.underlying29 rfl (by kernel_rfl)) rfl ?_; exact ⟨_, _, _, ({ S := R, e := n } : An), rfl, keepR HS.out far2 HO.out, Kd.S_nil _ _ _ _ _, Kd.R_nil _ _ _ _ _, .inr rfl, does2 HK.out HR.out, small_set (made_len HR.out), set7_below (below_set (below_set (HB4.out) HG3.out.1) HG3.out.1) HG2.out.1⟩
  · go_wp2_with (go_at_call 25; (with_reducible refine (setsOr_run Aa ca o.a Ab cb o.b w3 HI.out.a HI.out.b HO3.out.ra HO3.out.la HO3.out.rb HO3.out.lb HG3'.out).mono ?_); rintro e w4 ⟨v, R, n, rfl, ho, hr, hb⟩; obtain ⟨HB4, h2, h3, q⟩ := aft HB3 H2'.out H3.out hb; have H2'' := Aside0.mk h2; have HS := Aside0.mk q; obtain ⟨hz0, hz1, hz2, hz3, hz4, hz5, hz6, hf0, hf1, hf2, hf3, hf4, hf5, hf6⟩ := cells7 h3; obtain ⟨hr0, hr1, hr2, hr3, hr4, hr5, hr6, hq0, hq1, hq2, hq3, hq4, hq5, hq6⟩ := cells7 h2; clear hb h2 h3 q; obtain ⟨Ar, cr, rfl⟩ := Kd.R_slice ho; have HO := Aside0.mk ho; have HR := Aside0.mk hr; clear ho hr)
    refine bodyPost_ret (results_cell_row rfl _ _ g2 29 #[.slice Ar R.length cr, .slice none 0 0, .bool false, .int .i64 0, .int .i32 0, .slice none 0 0, .int .i64 n] (0, 0) _ rfl (set7_put _ _ _ _ _ _ _ ((set1_far hne').trans ((set1_far hne').trans (H2''.out)))) Tryz.underlying29 rfl (by kernel_rfl)) rfl ?_; exact ⟨_, _, _, ({ S := R, e := n } : An), rfl, keepR HS.out far2 HO.out, Kd.S_nil _ _ _ _ _, Kd.R_nil _ _ _ _ _, .inr rfl, does3 HK.out HR.out, small_set (ruled_len HR.out), set7_below (below_set (below_set (HB4.out) HG3.out.1) HG3.out.1) HG2.out.1⟩
  · go_wp2_with (go_at_call 26; (with_reducible refine (setsAnd_run Aa ca o.a Ab cb o.b w3 HI.out.a HI.out.b HO3.out.ra HO3.out.la HO3.out.rb HO3.out.lb HG3'.out).mono ?_); rintro e w4 ⟨v, R, n, rfl, ho, hr, hb⟩; obtain ⟨HB4, h2, h3, q⟩ := aft HB3 H2'.out H3.out hb; have H2'' := Aside0.mk h2; have HS := Aside0.mk q; obtain ⟨hz0, hz1, hz2, hz3, hz4, hz5, hz6, hf0, hf1, hf2, hf3, hf4, hf5, hf6⟩ := cells7 h3; obtain ⟨hr0, hr1, hr2, hr3, hr4, hr5, hr6, hq0, hq1, hq2, hq3, hq4, hq5, hq6⟩ := cells7 h2; clear hb h2 h3 q; obtain ⟨Ar, cr, rfl⟩ := Kd.R_slice ho; have HO := Aside0.mk ho; have HR := Aside0.mk hr; clear ho hr)
    refine bodyPost_ret (results_cell_row rfl _ _ g2 29 #[.slice Ar R.length cr, .slice none 0 0, .bool false, .int .i64 0, .int .i32 0, .slice none 0 0, .int .i64 n] (0, 0) _ rfl (set7_put _ _ _ _ _ _ _ ((set1_far hne').trans ((set1_far hne').trans (H2''.out)))) Tryz.underlying29 rfl (by kernel_rfl)) rfl ?_; exact ⟨_, _, _, ({ S := R, e := n } : An), rfl, keepR HS.out far2 HO.out, Kd.S_nil _ _ _ _ _, Kd.R_nil _ _ _ _ _, .inr rfl, does4 HK.out HR.out, small_set (ruled_len HR.out), set7_below (below_set (below_set (HB4.out) HG3.out.1) HG3.out.1) HG2.out.1⟩
  · go_wp2_with (go_at_call 27; (with_reducible refine (setsMinus_run Aa ca o.a Ab cb o.b w3 HI.out.a HI.out.b HO3.out.ra HO3.out.la HO3.out.rb HO3.out.lb HG3'.out).mono ?_); rintro e w4 ⟨v, R, n, rfl, ho, hr, hb⟩; obtain ⟨HB4, h2, h3, q⟩ := aft HB3 H2'.out H3.out hb; have H2'' := Aside0.mk h2; have HS := Aside0.mk q; obtain ⟨hz0, hz1, hz2, hz3, hz4, hz5, hz6, hf0, hf1, hf2, hf3, hf4, hf5, hf6⟩ := cells7 h3; obtain ⟨hr0, hr1, hr2, hr3, hr4, hr5, hr6, hq0, hq1, hq2, hq3, hq4, hq5, hq6⟩ := cells7 h2; clear hb h2 h3 q; obtain ⟨Ar, cr, rfl⟩ := Kd.R_slice ho; have HO := Aside0.mk ho; have HR := Aside0.mk hr; clear ho hr)
    refine bodyPost_ret (results_cell_row rfl _ _ g2 29 #[.slice Ar R.length cr, .slice none 0 0, .bool false, .int .i64 0, .int .i32 0, .slice none 0 0, .int .i64 n] (0, 0) _ rfl (set7_put _ _ _ _ _ _ _ ((set1_far hne').trans ((set1_far hne').trans (H2''.out)))) Tryz.underlying29 rfl (by kernel_rfl)) rfl ?_; exact ⟨_, _, _, ({ S := R, e := n } : An), rfl, keepR HS.out far2 HO.out, Kd.S_nil _ _ _ _ _, Kd.R_nil _ _ _ _ _, .inr rfl, does5 HK.out HR.out, small_set (ruled_len HR.out), set7_below (below_set (below_set (HB4.out) HG3.out.1) HG3.out.1) HG2.out.1⟩
  · go_wp2_with (go_at_call 28; (with_reducible refine (setsNot_run Aa ca o.a w3 HI.out.a HO3.out.ra HO3.out.la HG3'.out).mono ?_); rintro e w4 ⟨v, R, n, rfl, ho, hr, hb⟩; obtain ⟨HB4, h2, h3, q⟩ := aft HB3 H2'.out H3.out hb; have H2'' := Aside0.mk h2; have HS := Aside0.mk q; obtain ⟨hz0, hz1, hz2, hz3, hz4, hz5, hz6, hf0, hf1, hf2, hf3, hf4, hf5, hf6⟩ := cells7 h3; obtain ⟨hr0, hr1, hr2, hr3, hr4, hr5, hr6, hq0, hq1, hq2, hq3, hq4, hq5, hq6⟩ := cells7 h2; clear hb h2 h3 q; obtain ⟨Ar, cr, rfl⟩ := Kd.R_slice ho; have HO := Aside0.mk ho; have HR := Aside0.mk hr; clear ho hr)
    refine bodyPost_ret (results_cell_row rfl _ _ g2 29 #[.slice Ar R.length cr, .slice none 0 0, .bool false, .int .i64 0, .int .i32 0, .slice none 0 0, .int .i64 n] (0, 0) _ rfl (set7_put _ _ _ _ _ _ _ ((set1_far hne').trans ((set1_far hne').trans (H2''.out)))) Tryz.underlying29 rfl (by kernel_rfl)) rfl ?_; exact ⟨_, _, _, ({ S := R, e := n } : An), rfl, keepR HS.out far2 HO.out, Kd.S_nil _ _ _ _ _, Kd.R_nil _ _ _ _ _, .inr rfl, does6 HK.out HR.out, small_set (ruled_len HR.out), set7_below (below_set (below_set (HB4.out) HG3.out.1) HG3.out.1) HG2.out.1⟩
  · go_wp2_with (go_at_call 29; (with_reducible refine (setsNotRunes_run Aa ca o.a w3 HI.out.a HO3.out.ra HO3.out.la HG3'.out).mono ?_); rintro e w4 ⟨v, R, n, rfl, ho, hr, hb⟩; obtain ⟨HB4, h2, h3, q⟩ := aft HB3 H2'.out H3.out hb; have H2'' := Aside0.mk h2; have HS := Aside0.mk q; obtain ⟨hz0, hz1, hz2, hz3, hz4, hz5, hz6, hf0, hf1, hf2, hf3, hf4, hf5, hf6⟩ := cells7 h3; obtain ⟨hr0, hr1, hr2, hr3, hr4, hr5, hr6, hq0, hq1, hq2, hq3, hq4, hq5, hq6⟩ := cells7 h2; clear hb h2 h3 q; obtain ⟨Ar, cr, rfl⟩ := Kd.R_slice ho; have HO := Aside0.mk ho; have HR := Aside0.mk hr; clear ho hr)
    refine bodyPost_ret (results_cell_row rfl _ _ g2 29 #[.slice Ar R.length cr, .slice none 0 0, .bool false, .int .i64 0, .int .i32 0, .slice none 0 0, .int .i64 n] (0, 0) _ rfl (set7_put _ _ _ _ _ _ _ ((set1_far hne').trans ((set1_far hne').trans (H2''.out)))) Tryz.underlying29 rfl (by kernel_rfl)) rfl ?_; exact ⟨_, _, _, ({ S := R, e := n } : An), rfl, keepR HS.out far2 HO.out, Kd.S_nil _ _ _ _ _, Kd.R_nil _ _ _ _ _, .inr rfl, does7 HK.out HR.out, small_set (ruled_len HR.out), set7_below (below_set (below_set (HB4.out) HG3.out.1) HG3.out.1) HG2.out.1⟩
  · go_wp2_with (go_at_call 30; (with_reducible refine (setsHas_run Aa ca o.a o.u w3 HI.out.a HO3.out.ra HO3.out.la HG3'.out).mono ?_); rintro e w4 ⟨b, n, rfl, hr, hb⟩; obtain ⟨HB4, h2, h3, q⟩ := aft HB3 H2'.out H3.out hb; have H2'' := Aside0.mk h2; have HS := Aside0.mk q; obtain ⟨hz0, hz1, hz2, hz3, hz4, hz5, hz6, hf0, hf1, hf2, hf3, hf4, hf5, hf6⟩ := cells7 h3; obtain ⟨hr0, hr1, hr2, hr3, hr4, hr5, hr6, hq0, hq1, hq2, hq3, hq4, hq5, hq6⟩ := cells7 h2; clear hb h2 h3 q; have HR := Aside0.mk hr; clear hr)
    refine bodyPost_ret (results_cell_row rfl _ _ g2 29 #[.slice none 0 0, .slice none 0 0, .bool b, .int .i64 0, .int .i32 0, .slice none 0 0, .int .i64 n] (0, 0) _ rfl (set7_put _ _ _ _ _ _ _ ((set1_far hne').trans ((set1_far hne').trans (H2''.out)))) Tryz.underlying29 rfl (by kernel_rfl)) rfl ?_; exact ⟨_, _, _, ({ ok := b, e := n } : An), rfl, Kd.R_nil _ _ _ _ _, Kd.S_nil _ _ _ _ _, Kd.R_nil _ _ _ _ _, .inr rfl, does8 HK.out HR.out, small_none b 0 0 n, set7_below (below_set (below_set (HB4.out) HG3.out.1) HG3.out.1) HG2.out.1⟩
  · go_wp2_with (go_at_call 31; (with_reducible refine (setsSize_run Aa ca o.a w3 HI.out.a HO3.out.ra HO3.out.la HG3'.out).mono ?_); rintro e w4 ⟨m, n, rfl, hr, hb⟩; obtain ⟨HB4, h2, h3, q⟩ := aft HB3 H2'.out H3.out hb; have H2'' := Aside0.mk h2; have HS := Aside0.mk q; obtain ⟨hz0, hz1, hz2, hz3, hz4, hz5, hz6, hf0, hf1, hf2, hf3, hf4, hf5, hf6⟩ := cells7 h3; obtain ⟨hr0, hr1, hr2, hr3, hr4, hr5, hr6, hq0, hq1, hq2, hq3, hq4, hq5, hq6⟩ := cells7 h2; clear hb h2 h3 q; have HR := Aside0.mk hr; clear hr)
    refine bodyPost_ret (results_cell_row rfl _ _ g2 29 #[.slice none 0 0, .slice none 0 0, .bool false, .int .i64 m, .int .i32 0, .slice none 0 0, .int .i64 n] (0, 0) _ rfl (set7_put _ _ _ _ _ _ _ ((set1_far hne').trans ((set1_far hne').trans (H2''.out)))) Tryz.underlying29 rfl (by kernel_rfl)) rfl ?_; exact ⟨_, _, _, ({ n := m, e := n } : An), rfl, Kd.R_nil _ _ _ _ _, Kd.S_nil _ _ _ _ _, Kd.R_nil _ _ _ _ _, .inr rfl, does9 HK.out HR.out, small_none false m 0 n, set7_below (below_set (below_set (HB4.out) HG3.out.1) HG3.out.1) HG2.out.1⟩
  · go_wp2_with (go_at_call 32; (with_reducible refine (setsPick_run Aa ca o.a o.k w3 HI.out.a HI.out.k.2 HO3.out.ra HO3.out.la HG3'.out).mono ?_); rintro e w4 ⟨m, n, rfl, hr, hb⟩; obtain ⟨HB4, h2, h3, q⟩ := aft HB3 H2'.out H3.out hb; have H2'' := Aside0.mk h2; have HS := Aside0.mk q; obtain ⟨hz0, hz1, hz2, hz3, hz4, hz5, hz6, hf0, hf1, hf2, hf3, hf4, hf5, hf6⟩ := cells7 h3; obtain ⟨hr0, hr1, hr2, hr3, hr4, hr5, hr6, hq0, hq1, hq2, hq3, hq4, hq5, hq6⟩ := cells7 h2; clear hb h2 h3 q; have HR := Aside0.mk hr; clear hr)
    refine bodyPost_ret (results_cell_row rfl _ _ g2 29 #[.slice none 0 0, .slice none 0 0, .bool false, .int .i64 0, .int .i32 m, .slice none 0 0, .int .i64 n] (0, 0) _ rfl (set7_put _ _ _ _ _ _ _ ((set1_far hne').trans ((set1_far hne').trans (H2''.out)))) Tryz.underlying29 rfl (by kernel_rfl)) rfl ?_; exact ⟨_, _, _, ({ u := m, e := n } : An), rfl, Kd.R_nil _ _ _ _ _, Kd.S_nil _ _ _ _ _, Kd.R_nil _ _ _ _ _, .inr rfl, does10 HK.out HR.out, small_none false 0 m n, set7_below (below_set (below_set (HB4.out) HG3.out.1) HG3.out.1) HG2.out.1⟩
  · go_wp2_with (go_at_call 33; (with_reducible refine (setsParts_run AL cL o.L w3 HI.out.L HI.out.t HI.out.r HO3.out.rL HO3.out.lL HG3'.out).mono ?_); rintro e w4 ⟨v, R, n, rfl, ho, hr, hb⟩; obtain ⟨HB4, h2, h3, q⟩ := aft HB3 H2'.out H3.out hb; have H2'' := Aside0.mk h2; have HS := Aside0.mk q; obtain ⟨hz0, hz1, hz2, hz3, hz4, hz5, hz6, hf0, hf1, hf2, hf3, hf4, hf5, hf6⟩ := cells7 h3; obtain ⟨hr0, hr1, hr2, hr3, hr4, hr5, hr6, hq0, hq1, hq2, hq3, hq4, hq5, hq6⟩ := cells7 h2; clear hb h2 h3 q; obtain ⟨Ar, cr, rfl⟩ := Kd.S_slice ho; have HO := Aside0.mk ho; have HR := Aside0.mk hr; clear ho hr)
    refine bodyPost_ret (results_cell_row rfl _ _ g2 29 #[.slice none 0 0, .slice Ar R.length cr, .bool false, .int .i64 0, .int .i32 0, .slice none 0 0, .int .i64 n] (0, 0) _ rfl (set7_put _ _ _ _ _ _ _ ((set1_far hne').trans ((set1_far hne').trans (H2''.out)))) Tryz.underlying29 rfl (by kernel_rfl)) rfl ?_; exact ⟨_, _, _, ({ L := R, e := n } : An), rfl, Kd.R_nil _ _ _ _ _, keepS HS.out far2 HO.out, Kd.R_nil _ _ _ _ _, .inl rfl, does11 HK.out HR.out, small_parts HR.out, set7_below (below_set (below_set (HB4.out) HG3.out.1) HG3.out.1) HG2.out.1⟩
  · go_wp2_with (go_at_call 34; (with_reducible refine (setsEach_run Aa ca o.a o.k w3 HI.out.a HO3.out.ra HO3.out.la HG3'.out).mono ?_); rintro e w4 ⟨v, R, rfl, ho, hr, hb⟩; obtain ⟨HB4, h2, h3, q⟩ := aft HB3 H2'.out H3.out hb; have H2'' := Aside0.mk h2; have HS := Aside0.mk q; obtain ⟨hz0, hz1, hz2, hz3, hz4, hz5, hz6, hf0, hf1, hf2, hf3, hf4, hf5, hf6⟩ := cells7 h3; obtain ⟨hr0, hr1, hr2, hr3, hr4, hr5, hr6, hq0, hq1, hq2, hq3, hq4, hq5, hq6⟩ := cells7 h2; clear hb h2 h3 q; obtain ⟨Ar, cr, rfl⟩ := Kd.R_slice ho; have HO := Aside0.mk ho; have HR := Aside0.mk hr; clear ho hr)
    refine bodyPost_ret (results_cell_row rfl _ _ g2 29 #[.slice none 0 0, .slice none 0 0, .bool false, .int .i64 0, .int .i32 0, .slice Ar R.length cr, .int .i64 0] (0, 0) _ rfl (set7_put _ _ _ _ _ _ _ ((set1_far hne').trans (H2''.out))) Tryz.underlying29 rfl (by kernel_rfl)) rfl ?_; exact ⟨_, _, _, ({ us := R } : An), rfl, Kd.R_nil _ _ _ _ _, Kd.S_nil _ _ _ _ _, keepR HS.out far1 HO.out, .inr rfl, does12 HK.out HR.out, small_each HR.out, set7_below (below_set (HB4.out) HG3.out.1) HG2.out.1⟩
  · refine bodyPost_ret (results_cell_row rfl _ _ g2 29 #[.slice none 0 0, .slice none 0 0, .bool false, .int .i64 0, .int .i32 0, .slice none 0 0, .int .i64 0] (0, 0) _ rfl (set7_put _ _ _ _ _ _ _ (H2'.out)) Tryz.underlying29 rfl (by kernel_rfl)) rfl ?_; exact ⟨_, _, _, ({} : An), rfl, Kd.R_nil _ _ _ _ _, Kd.S_nil _ _ _ _ _, Kd.R_nil _ _ _ _ _, .inr rfl, does0 (by rw [HK.out]; exact HK0.out), small_none false 0 0 0, set7_below (HB3.out) HG2.out.1⟩
set_option maxHeartbeats 8000000 in
set_option maxRecDepth 100000 in
theorem wants_run (o : Opn) (Aa Ab AL : Option Addr) (ca cb cL : Nat) (w : World) (hi : InO o) (hO : LayO w o Aa Ab AL ca cb cL) :
    Calls Tryz.prog 6 #[opV o Aa Ab AL ca cb cL] w fun e w' => Gives w o e w' := by
  have HI := Aside0.mk hi; have HO0 := Aside0.mk hO; unfold opV; clear hi hO; obtain ⟨kd, hkd⟩ : ∃ kd, kd = o.kd := ⟨_, rfl⟩; rw [← hkd]; have HK := Aside0.mk hkd.symm; clear hkd; go_enter Tryz.func6, Tryz.ntmps6
  go_wp2_with (first
    | ((with_reducible refine gate_dst (N := 1) rfl ?_); refine box_event rfl (N := 1) rfl (cs := #[.int .i64 kd, .slice Aa o.a.length ca, .slice Ab o.b.length cb, .int .i32 o.u, .int .i64 o.k, .slice AL o.L.length cL]) (t := 32) (by first | (go_simp; done) | (go_simp; rfl)) ?_; intro g1 hg w1 hbox hb; have HB1 : BelC w w1 := ⟨hb⟩; have H1 := Aside0.mk hbox; clear hb hbox hg)
    | ((with_reducible refine gate_dst (N := 2) rfl ?_); refine box_event rfl (N := 2) rfl (cs := #[.slice none 0 0, .slice none 0 0, .bool false, .int .i64 0, .int .i32 0, .slice none 0 0, .int .i64 0]) (t := 29) (by first | (go_simp; done) | (go_simp; rfl)) ?_; intro g2 hg w2 hbox hb; obtain ⟨HB2, h1, q⟩ := nx (w := w) H1.out hg hb; have H1' := Aside0.mk h1; have H2 := Aside0.mk hbox; have HG2 := Aside0.mk q; clear h1 q; clear hb hbox hg)
    | ((with_reducible refine gate_dst (N := 3) rfl ?_); refine box_event rfl (N := 3) rfl (cs := #[.slice none 0 0, .slice none 0 0, .bool false, .int .i64 0, .int .i32 0, .slice none 0 0, .int .i64 0]) (t := 29) (by first | (go_simp; done) | (go_simp; rfl)) ?_; intro g3 hg w3 hbox hb; obtain ⟨HB3, h2, q⟩ := nx (w := w) H2.out hg hb; have H1'' := Aside0.mk (blk_below H1'.out hb); have H2' := Aside0.mk h2; have H3 := Aside0.mk hbox; have HG3 := Aside0.mk q; clear h2 q; obtain ⟨ho0, ho1, ho2, ho3, ho4, ho5⟩ := cells6 H1''.out; have hne : g3 ≠ g2 := Nat.ne_of_gt HG3.out.2; have hne' : g2 ≠ g3 := Nat.ne_of_lt HG3.out.2; have HO3 := Aside0.mk (HO0.out.on HB3.out); clear hb hbox hg; (rcases kd_split kd (cells7 H3.out) (cells7 H2'.out) with rfl | rfl | rfl | rfl | rfl | rfl | rfl | rfl | rfl | rfl | rfl | rfl | ⟨k1, k2, k3, k4, k5, k6, k7, k8, k9, k10, k11, k12, HK0, ⟨hz0, hz1, hz2, hz3, hz4, hz5, hz6, hf0, hf1, hf2, hf3, hf4, hf5, hf6⟩, hr0, hr1, hr2, hr3, hr4, hr5, hr6, hq0, hq1, hq2, hq3, hq4, hq5, hq6⟩)))
  · obtain ⟨n, hn⟩ : ∃ n : Int, n = if Sound o.a then 0 else 1 := ⟨_, rfl⟩
    have cc := refCheck_run Aa ca o.a w3 HI.out.a26 HI.out.a.r32 HO3.out.ra; rw [← hn] at cc; have HR := Aside0.mk hn; clear hn
    go_wp2_with (go_at_call 13; (with_reducible refine (cc).mono ?_); rintro e w4 ⟨rfl, hb⟩; obtain ⟨HB4, h2, h3, q⟩ := aft HB3 H2'.out H3.out hb; have H2'' := Aside0.mk h2; have HS := Aside0.mk q; obtain ⟨hz0, hz1, hz2, hz3, hz4, hz5, hz6, hf0, hf1, hf2, hf3, hf4, hf5, hf6⟩ := cells7 h3; obtain ⟨hr0, hr1, hr2, hr3, hr4, hr5, hr6, hq0, hq1, hq2, hq3, hq4, hq5, hq6⟩ := cells7 h2; clear hb h2 h3 q; skip)
    refine bodyPost_ret (results_cell_row rfl _ _ g2 29 #[.slice none 0 0, .slice none 0 0, .bool false, .int .i64 0, .int .i32 0, .slice none 0 0, .int .i64 n] (0, 0) _ rfl (set7_put _ _ _ _ _ _ _ ((set1_far hne').trans (H2''.out))) Tryz.underlying29 rfl (by kernel_rfl)) rfl ?_; exact ⟨_, _, _, ({ e := n } : An), rfl, Kd.R_nil _ _ _ _ _, Kd.S_nil _ _ _ _ _, Kd.R_nil _ _ _ _ _, .inr rfl, does1 HK.out HR.out, small_none false 0 0 n, set7_below (below_set (HB4.out) HG3.out.1) HG2.out.1⟩
  · go_wp2_with (go_at_call 9; (with_reducible refine (refMake_run Aa ca o.a w3 HI.out.a24 HI.out.a.r32 HO3.out.ra HO3.out.la).mono ?_); rintro e w4 ⟨v, R, n, rfl, ho, hr, hb⟩; obtain ⟨HB4, h2, h3, q⟩ := aft HB3 H2'.out H3.out hb; have H2'' := Aside0.mk h2; have HS := Aside0.mk q; obtain ⟨hz0, hz1, hz2, hz3, hz4, hz5, hz6, hf0, hf1, hf2, hf3, hf4, hf5, hf6⟩ := cells7 h3; obtain ⟨hr0, hr1, hr2, hr3, hr4, hr5, hr6, hq0, hq1, hq2, hq3, hq4, hq5, hq6⟩ := cells7 h2; clear hb h2 h3 q; obtain ⟨Ar, cr, rfl⟩ := Kd.R_slice ho; have HO := Aside0.mk ho; have HR := Aside0.mk hr; clear ho hr)
    refine bodyPost_ret (results_cell_row rfl _ _ g2 29 #[.slice Ar R.length cr, .slice none 0 0, .bool false, .int .i64 0, .int .i32 0, .slice none 0 0, .int .i64 n] (0, 0) _ rfl (set7_put _ _ _ _ _ _ _ ((set1_far hne').trans ((set1_far hne').trans (H2''.out)))) Tryz.underlying29 rfl (by kernel_rfl)) rfl ?_; exact ⟨_, _, _, ({ S := R, e := n } : An), rfl, keepR HS.out far2 HO.out, Kd.S_nil _ _ _ _ _, Kd.R_nil _ _ _ _ _, .inr rfl, does2 HK.out HR.out, small_set (made_len HR.out), set7_below (below_set (below_set (HB4.out) HG3.out.1) HG3.out.1) HG2.out.1⟩
  · go_wp2_with (go_at_call 14; (with_reducible refine (refOr_run Aa ca o.a Ab cb o.b w3 HI.out.a23 HI.out.b23 HI.out.a.r32 HI.out.b.r32 HO3.out.ra HO3.out.la HO3.out.rb HO3.out.lb).mono ?_); rintro e w4 ⟨v, R, n, rfl, ho, hr, hb⟩; obtain ⟨HB4, h2, h3, q⟩ := aft HB3 H2'.out H3.out hb; have H2'' := Aside0.mk h2; have HS := Aside0.mk q; obtain ⟨hz0, hz1, hz2, hz3, hz4, hz5, hz6, hf0, hf1, hf2, hf3, hf4, hf5, hf6⟩ := cells7 h3; obtain ⟨hr0, hr1, hr2, hr3, hr4, hr5, hr6, hq0, hq1, hq2, hq3, hq4, hq5, hq6⟩ := cells7 h2; clear hb h2 h3 q; obtain ⟨Ar, cr, rfl⟩ := Kd.R_slice ho; have HO := Aside0.mk ho; have HR := Aside0.mk hr; clear ho hr)
    refine bodyPost_ret (results_cell_row rfl _ _ g2 29 #[.slice Ar R.length cr, .slice none 0 0, .bool false, .int .i64 0, .int .i32 0, .slice none 0 0, .int .i64 n] (0, 0) _ rfl (set7_put _ _ _ _ _ _ _ ((set1_far hne').trans ((set1_far hne').trans (H2''.out)))) Tryz.underlying29 rfl (by kernel_rfl)) rfl ?_; exact ⟨_, _, _, ({ S := R, e := n } : An), rfl, keepR HS.out far2 HO.out, Kd.S_nil _ _ _ _ _, Kd.R_nil _ _ _ _ _, .inr rfl, does3 HK.out HR.out, small_set (ruled_len HR.out), set7_below (below_set (below_set (HB4.out) HG3.out.1) HG3.out.1) HG2.out.1⟩
  · go_wp2_with (go_at_call 15; (with_reducible refine (refAnd_run Aa ca o.a Ab cb o.b w3 HI.out.a23 HI.out.b23 HI.out.a.r32 HI.out.b.r32 HO3.out.ra HO3.out.la HO3.out.rb HO3.out.lb).mono ?_); rintro e w4 ⟨v, R, n, rfl, ho, hr, hb⟩; obtain ⟨HB4, h2, h3, q⟩ := aft HB3 H2'.out H3.out hb; have H2'' := Aside0.mk h2; have HS := Aside0.mk q; obtain ⟨hz0, hz1, hz2, hz3, hz4, hz5, hz6, hf0, hf1, hf2, hf3, hf4, hf5, hf6⟩ := cells7 h3; obtain ⟨hr0, hr1, hr2, hr3, hr4, hr5, hr6, hq0, hq1, hq2, hq3, hq4, hq5, hq6⟩ := cells7 h2; clear hb h2 h3 q; obtain ⟨Ar, cr, rfl⟩ := Kd.R_slice ho; have HO := Aside0.mk ho; have HR := Aside0.mk hr; clear ho hr)
    refine bodyPost_ret (results_cell_row rfl _ _ g2 29 #[.slice Ar R.length cr, .slice none 0 0, .bool false, .int .i64 0, .int .i32 0, .slice none 0 0, .int .i64 n] (0, 0) _ rfl (set7_put _ _ _ _ _ _ _ ((set1_far hne').trans ((set1_far hne').trans (H2''.out)))) Tryz.underlying29 rfl (by kernel_rfl)) rfl ?_; exact ⟨_, _, _, ({ S := R, e := n } : An), rfl, keepR HS.out far2 HO.out, Kd.S_nil _ _ _ _ _, Kd.R_nil _ _ _ _ _, .inr rfl, does4 HK.out HR.out, small_set (ruled_len HR.out), set7_below (below_set (below_set (HB4.out) HG3.out.1) HG3.out.1) HG2.out.1⟩
  · go_wp2_with (go_at_call 16; (with_reducible refine (refMinus_run Aa ca o.a Ab cb o.b w3 HI.out.a23 HI.out.b23 HI.out.a.r32 HI.out.b.r32 HO3.out.ra HO3.out.la HO3.out.rb HO3.out.lb).mono ?_); rintro e w4 ⟨v, R, n, rfl, ho, hr, hb⟩; obtain ⟨HB4, h2, h3, q⟩ := aft HB3 H2'.out H3.out hb; have H2'' := Aside0.mk h2; have HS := Aside0.mk q; obtain ⟨hz0, hz1, hz2, hz3, hz4, hz5, hz6, hf0, hf1, hf2, hf3, hf4, hf5, hf6⟩ := cells7 h3; obtain ⟨hr0, hr1, hr2, hr3, hr4, hr5, hr6, hq0, hq1, hq2, hq3, hq4, hq5, hq6⟩ := cells7 h2; clear hb h2 h3 q; obtain ⟨Ar, cr, rfl⟩ := Kd.R_slice ho; have HO := Aside0.mk ho; have HR := Aside0.mk hr; clear ho hr)
    refine bodyPost_ret (results_cell_row rfl _ _ g2 29 #[.slice Ar R.length cr, .slice none 0 0, .bool false, .int .i64 0, .int .i32 0, .slice none 0 0, .int .i64 n] (0, 0) _ rfl (set7_put _ _ _ _ _ _ _ ((set1_far hne').trans ((set1_far hne').trans (H2''.out)))) Tryz.underlying29 rfl (by kernel_rfl)) rfl ?_; exact ⟨_, _, _, ({ S := R, e := n } : An), rfl, keepR HS.out far2 HO.out, Kd.S_nil _ _ _ _ _, Kd.R_nil _ _ _ _ _, .inr rfl, does5 HK.out HR.out, small_set (ruled_len HR.out), set7_below (below_set (below_set (HB4.out) HG3.out.1) HG3.out.1) HG2.out.1⟩
  · go_wp2_with (go_at_call 17; (with_reducible refine (refNot_run Aa ca o.a w3 HI.out.a23 HI.out.a.r32 HO3.out.ra HO3.out.la).mono ?_); rintro e w4 ⟨v, R, n, rfl, ho, hr, hb⟩; obtain ⟨HB4, h2, h3, q⟩ := aft HB3 H2'.out H3.out hb; have H2'' := Aside0.mk h2; have HS := Aside0.mk q; obtain ⟨hz0, hz1, hz2, hz3, hz4, hz5, hz6, hf0, hf1, hf2, hf3, hf4, hf5, hf6⟩ := cells7 h3; obtain ⟨hr0, hr1, hr2, hr3, hr4, hr5, hr6, hq0, hq1, hq2, hq3, hq4, hq5, hq6⟩ := cells7 h2; clear hb h2 h3 q; obtain ⟨Ar, cr, rfl⟩ := Kd.R_slice ho; have HO := Aside0.mk ho; have HR := Aside0.mk hr; clear ho hr)
    refine bodyPost_ret (results_cell_row rfl _ _ g2 29 #[.slice Ar R.length cr, .slice none 0 0, .bool false, .int .i64 0, .int .i32 0, .slice none 0 0, .int .i64 n] (0, 0) _ rfl (set7_put _ _ _ _ _ _ _ ((set1_far hne').trans ((set1_far hne').trans (H2''.out)))) Tryz.underlying29 rfl (by kernel_rfl)) rfl ?_; exact ⟨_, _, _, ({ S := R, e := n } : An), rfl, keepR HS.out far2 HO.out, Kd.S_nil _ _ _ _ _, Kd.R_nil _ _ _ _ _, .inr rfl, does6 HK.out HR.out, small_set (ruled_len HR.out), set7_below (below_set (below_set (HB4.out) HG3.out.1) HG3.out.1) HG2.out.1⟩
  · go_wp2_with (go_at_call 18; (with_reducible refine (refNotRunes_run Aa ca o.a w3 HI.out.a23 HI.out.a.r32 HO3.out.ra HO3.out.la).mono ?_); rintro e w4 ⟨v, R, n, rfl, ho, hr, hb⟩; obtain ⟨HB4, h2, h3, q⟩ := aft HB3 H2'.out H3.out hb; have H2'' := Aside0.mk h2; have HS := Aside0.mk q; obtain ⟨hz0, hz1, hz2, hz3, hz4, hz5, hz6, hf0, hf1, hf2, hf3, hf4, hf5, hf6⟩ := cells7 h3; obtain ⟨hr0, hr1, hr2, hr3, hr4, hr5, hr6, hq0, hq1, hq2, hq3, hq4, hq5, hq6⟩ := cells7 h2; clear hb h2 h3 q; obtain ⟨Ar, cr, rfl⟩ := Kd.R_slice ho; have HO := Aside0.mk ho; have HR := Aside0.mk hr; clear ho hr)
    refine bodyPost_ret (results_cell_row rfl _ _ g2 29 #[.slice Ar R.length cr, .slice none 0 0, .bool false, .int .i64 0, .int .i32 0, .slice none 0 0, .int .i64 n] (0, 0) _ rfl (set7_put _ _ _ _ _ _ _ ((set1_far hne').trans ((set1_far hne').trans (H2''.out)))) Tryz.underlying29 rfl (by kernel_rfl)) rfl ?_; exact ⟨_, _, _, ({ S := R, e := n } : An), rfl, keepR HS.out far2 HO.out, Kd.S_nil _ _ _ _ _, Kd.R_nil _ _ _ _ _, .inr rfl, does7 HK.out HR.out, small_set (ruled_len HR.out), set7_below (below_set (below_set (HB4.out) HG3.out.1) HG3.out.1) HG2.out.1⟩
  · go_wp2_with (go_at_call 19; (with_reducible refine (refHas_run Aa ca o.a o.u w3 HI.out.a26 HI.out.a.r32 HI.out.u HO3.out.ra).mono ?_); rintro e w4 ⟨b, n, rfl, hr, hb⟩; obtain ⟨HB4, h2, h3, q⟩ := aft HB3 H2'.out H3.out hb; have H2'' := Aside0.mk h2; have HS := Aside0.mk q; obtain ⟨hz0, hz1, hz2, hz3, hz4, hz5, hz6, hf0, hf1, hf2, hf3, hf4, hf5, hf6⟩ := cells7 h3; obtain ⟨hr0, hr1, hr2, hr3, hr4, hr5, hr6, hq0, hq1, hq2, hq3, hq4, hq5, hq6⟩ := cells7 h2; clear hb h2 h3 q; have HR := Aside0.mk hr; clear hr)
    refine bodyPost_ret (results_cell_row rfl _ _ g2 29 #[.slice none 0 0, .slice none 0 0, .bool b, .int .i64 0, .int .i32 0, .slice none 0 0, .int .i64 n] (0, 0) _ rfl (set7_put _ _ _ _ _ _ _ ((set1_far hne').trans ((set1_far hne').trans (H2''.out)))) Tryz.underlying29 rfl (by kernel_rfl)) rfl ?_; exact ⟨_, _, _, ({ ok := b, e := n } : An), rfl, Kd.R_nil _ _ _ _ _, Kd.S_nil _ _ _ _ _, Kd.R_nil _ _ _ _ _, .inr rfl, does8 HK.out HR.out, small_none b 0 0 n, set7_below (below_set (below_set (HB4.out) HG3.out.1) HG3.out.1) HG2.out.1⟩
  · go_wp2_with (go_at_call 20; (with_reducible refine (refSize_run Aa ca o.a w3 HI.out.a26 HI.out.a.r32 HO3.out.ra).mono ?_); rintro e w4 ⟨m, n, rfl, hr, hb⟩; obtain ⟨HB4, h2, h3, q⟩ := aft HB3 H2'.out H3.out hb; have H2'' := Aside0.mk h2; have HS := Aside0.mk q; obtain ⟨hz0, hz1, hz2, hz3, hz4, hz5, hz6, hf0, hf1, hf2, hf3, hf4, hf5, hf6⟩ := cells7 h3; obtain ⟨hr0, hr1, hr2, hr3, hr4, hr5, hr6, hq0, hq1, hq2, hq3, hq4, hq5, hq6⟩ := cells7 h2; clear hb h2 h3 q; have HR := Aside0.mk hr; clear hr)
    refine bodyPost_ret (results_cell_row rfl _ _ g2 29 #[.slice none 0 0, .slice none 0 0, .bool false, .int .i64 m, .int .i32 0, .slice none 0 0, .int .i64 n] (0, 0) _ rfl (set7_put _ _ _ _ _ _ _ ((set1_far hne').trans ((set1_far hne').trans (H2''.out)))) Tryz.underlying29 rfl (by kernel_rfl)) rfl ?_; exact ⟨_, _, _, ({ n := m, e := n } : An), rfl, Kd.R_nil _ _ _ _ _, Kd.S_nil _ _ _ _ _, Kd.R_nil _ _ _ _ _, .inr rfl, does9 HK.out HR.out, small_none false m 0 n, set7_below (below_set (below_set (HB4.out) HG3.out.1) HG3.out.1) HG2.out.1⟩
  · go_wp2_with (go_at_call 21; (with_reducible refine (refPick_run Aa ca o.a o.k w3 HI.out.a26 HI.out.a.r32 HI.out.k HO3.out.ra).mono ?_); rintro e w4 ⟨m, n, rfl, hr, hb⟩; obtain ⟨HB4, h2, h3, q⟩ := aft HB3 H2'.out H3.out hb; have H2'' := Aside0.mk h2; have HS := Aside0.mk q; obtain ⟨hz0, hz1, hz2, hz3, hz4, hz5, hz6, hf0, hf1, hf2, hf3, hf4, hf5, hf6⟩ := cells7 h3; obtain ⟨hr0, hr1, hr2, hr3, hr4, hr5, hr6, hq0, hq1, hq2, hq3, hq4, hq5, hq6⟩ := cells7 h2; clear hb h2 h3 q; have HR := Aside0.mk hr; clear hr)
    refine bodyPost_ret (results_cell_row rfl _ _ g2 29 #[.slice none 0 0, .slice none 0 0, .bool false, .int .i64 0, .int .i32 m, .slice none 0 0, .int .i64 n] (0, 0) _ rfl (set7_put _ _ _ _ _ _ _ ((set1_far hne').trans ((set1_far hne').trans (H2''.out)))) Tryz.underlying29 rfl (by kernel_rfl)) rfl ?_; exact ⟨_, _, _, ({ u := m, e := n } : An), rfl, Kd.R_nil _ _ _ _ _, Kd.S_nil _ _ _ _ _, Kd.R_nil _ _ _ _ _, .inr rfl, does10 HK.out HR.out, small_none false 0 m n, set7_below (below_set (below_set (HB4.out) HG3.out.1) HG3.out.1) HG2.out.1⟩
  · go_wp2_with (go_at_call 22; (with_reducible refine (refParts_run AL cL o.L w3 HI.out.l24 HI.out.t24 HI.out.r HO3.out.rL HO3.out.lL).mono ?_); rintro e w4 ⟨v, R, n, rfl, ho, hr, hb⟩; obtain ⟨HB4, h2, h3, q⟩ := aft HB3 H2'.out H3.out hb; have H2'' := Aside0.mk h2; have HS := Aside0.mk q; obtain ⟨hz0, hz1, hz2, hz3, hz4, hz5, hz6, hf0, hf1, hf2, hf3, hf4, hf5, hf6⟩ := cells7 h3; obtain ⟨hr0, hr1, hr2, hr3, hr4, hr5, hr6, hq0, hq1, hq2, hq3, hq4, hq5, hq6⟩ := cells7 h2; clear hb h2 h3 q; obtain ⟨Ar, cr, rfl⟩ := Kd.S_slice ho; have HO := Aside0.mk ho; have HR := Aside0.mk hr; clear ho hr)
    refine bodyPost_ret (results_cell_row rfl _ _ g2 29 #[.slice none 0 0, .slice Ar R.length cr, .bool false, .int .i64 0, .int .i32 0, .slice none 0 0, .int .i64 n] (0, 0) _ rfl (set7_put _ _ _ _ _ _ _ ((set1_far hne').trans ((set1_far hne').trans (H2''.out)))) Tryz.underlying29 rfl (by kernel_rfl)) rfl ?_; exact ⟨_, _, _, ({ L := R, e := n } : An), rfl, Kd.R_nil _ _ _ _ _, keepS HS.out far2 HO.out, Kd.R_nil _ _ _ _ _, .inl rfl, does11 HK.out HR.out, small_parts HR.out, set7_below (below_set (below_set (HB4.out) HG3.out.1) HG3.out.1) HG2.out.1⟩
  · go_wp2_with (go_at_call 23; (with_reducible refine (first_each (refFirst_run Aa ca o.a o.k w3 HI.out.a26 HI.out.a.r32 (units26 o.a) HO3.out.ra)).mono ?_); rintro e w4 ⟨v, R, rfl, ho, hr, hb⟩; obtain ⟨HB4, h2, h3, q⟩ := aft HB3 H2'.out H3.out hb; have H2'' := Aside0.mk h2; have HS := Aside0.mk q; obtain ⟨hz0, hz1, hz2, hz3, hz4, hz5, hz6, hf0, hf1, hf2, hf3, hf4, hf5, hf6⟩ := cells7 h3; obtain ⟨hr0, hr1, hr2, hr3, hr4, hr5, hr6, hq0, hq1, hq2, hq3, hq4, hq5, hq6⟩ := cells7 h2; clear hb h2 h3 q; obtain ⟨Ar, cr, rfl⟩ := Kd.R_slice ho; have HO := Aside0.mk ho; have HR := Aside0.mk hr; clear ho hr)
    refine bodyPost_ret (results_cell_row rfl _ _ g2 29 #[.slice none 0 0, .slice none 0 0, .bool false, .int .i64 0, .int .i32 0, .slice Ar R.length cr, .int .i64 0] (0, 0) _ rfl (set7_put _ _ _ _ _ _ _ ((set1_far hne').trans (H2''.out))) Tryz.underlying29 rfl (by kernel_rfl)) rfl ?_; exact ⟨_, _, _, ({ us := R } : An), rfl, Kd.R_nil _ _ _ _ _, Kd.S_nil _ _ _ _ _, keepR HS.out far1 HO.out, .inr rfl, does12 HK.out HR.out, small_each HR.out, set7_below (below_set (HB4.out) HG3.out.1) HG2.out.1⟩
  · refine bodyPost_ret (results_cell_row rfl _ _ g2 29 #[.slice none 0 0, .slice none 0 0, .bool false, .int .i64 0, .int .i32 0, .slice none 0 0, .int .i64 0] (0, 0) _ rfl (set7_put _ _ _ _ _ _ _ (H2'.out)) Tryz.underlying29 rfl (by kernel_rfl)) rfl ?_; exact ⟨_, _, _, ({} : An), rfl, Kd.R_nil _ _ _ _ _, Kd.S_nil _ _ _ _ _, Kd.R_nil _ _ _ _ _, .inr rfl, does0 (by rw [HK.out]; exact HK0.out), small_none false 0 0 0, set7_below (HB3.out) HG2.out.1⟩
end Go.Proofs.YtoggmegpodmfnaaGreatDoor.Q
namespace Go.Proofs.YtoggmegpodmfnaaGreatDoor.Q
open Go.RowKit Go.Proofs.YtoggmegpodmfnaaGreatDoorW.PrintWords Go.Proofs.YtoggmegpodmfnaaGreatDoorW.PrintLast Go.Proofs.YtoggmegpodmfnaaGreatDoorW.PrintMore Go.Proofs.YtoggmegpodmfnaaGreatDoor.PS Go.Proofs.YtoggmegpodmfnaaGreatDoor.B
set_option linter.unusedVariables false
set_option linter.unusedSimpArgs false
theorem Gives.lay {w W : World} {o : Opn} {e : Ending} (h : Gives w o e W) : ∃ (X : An) (A0 A1 A5 : Option Addr) (c0 c1 c5 : Nat), e = .returned (anV X A0 A1 A5 c0 c1 c5) ∧ Lay W X A0 A1 A5 c0 c1 c5 ∧ Does o X ∧ Small X ∧ Below w.heap.size w W := by
  obtain ⟨v0, v1, v5, X, rfl, h0, h1, h5, _, hd, hs, hb⟩ := h; obtain ⟨A0, c0, rfl, l0, C0⟩ := Kd.R_reads h0; obtain ⟨A1, c1, rfl, l1, C1⟩ := Kd.S_reads h1; obtain ⟨A5, c5, rfl, l5, C5⟩ := Kd.R_reads h5; exact ⟨X, A0, A1, A5, c0, c1, c5, rfl, ⟨C0, l0, C1, l1, C5, l5⟩, hd, hs, hb⟩
def OpsAt (w : World) (A : Option Addr) (ops : List Opn) : Prop :=
  ops.length ≤ 1048576 ∧ ∀ i o, ops[i]? = some o → ∃ (x : Addr) (Aa Ab AL : Option Addr) (ca cb cL : Nat), A = some x ∧ LayO w o Aa Ab AL ca cb cL ∧
    w.cell? (x.add (i * 6)) = some (.int .i64 o.kd) ∧ w.cell? ⟨(x.add (i * 6)).block, (x.add (i * 6)).off + 1, none⟩ = some (.slice Aa o.a.length ca) ∧ w.cell? ⟨(x.add (i * 6)).block, (x.add (i * 6)).off + 2, none⟩ = some (.slice Ab o.b.length cb) ∧
    w.cell? ⟨(x.add (i * 6)).block, (x.add (i * 6)).off + 3, none⟩ = some (.int .i32 o.u) ∧ w.cell? ⟨(x.add (i * 6)).block, (x.add (i * 6)).off + 4, none⟩ = some (.int .i64 o.k) ∧ w.cell? ⟨(x.add (i * 6)).block, (x.add (i * 6)).off + 5, none⟩ = some (.slice AL o.L.length cL)
theorem cellOn {w W : World} (h : BelC w W) {a : Addr} {v : Value} (hc : w.cell? a = some v) : W.cell? a = some v := (h.out.cell (World.block_lt_of_cell? w _ hc)).trans hc
set_option maxHeartbeats 8000000 in
set_option maxRecDepth 100000 in
theorem sets_all (A : Option Addr) (c : Nat) (ops : List Opn) (w : World) (hO : OpsAt w A ops) (hi : ∀ o ∈ ops, InO o) (hG : Glob w) :
    Calls Tryz.prog 3 #[.slice A ops.length c] w fun e w' => e = .returned (.bool true) ∧ Below w.heap.size w w' := by
  have HO := Aside0.mk hO; have HI := Aside0.mk hi; have HG := Aside0.mk hG; clear hO hi hG; go_enter Tryz.func3, Tryz.ntmps3
  go_wp2_with (go_at_call 5; (with_reducible refine (wakes_run w HG.out).mono ?_); rintro e w1 ⟨rfl, hb⟩; have HB1 : BelC w w1 := ⟨hb⟩; clear hb)
  go_loopw [3] (fun v3 wr => ∃ i : Nat, v3 = .int .i64 (i : Int) ∧ i ≤ ops.length ∧ BelC w wr) (fun v3 _ => ops.length - (intOf v3).toNat)
  case atStart => exact ⟨0, rfl, Nat.zero_le _, inferInstance⟩
  case round =>
    obtain ⟨i, rfl, hi, HB⟩ := hrel; obtain ⟨w2, rfl⟩ : ∃ x, x = wr := ⟨_, rfl⟩; have hlb := HO.out.1
    by_cases hlt : i < ops.length
    · have d1 : decide (i < ops.length) = true := decide_eq_true hlt
      obtain ⟨o, ho⟩ : ∃ o, ops[i]? = some o := ⟨_, List.getElem?_eq_getElem hlt⟩; obtain ⟨x, Aa, Ab, AL, ca, cb, cL, ex, hlay, x0, x1, x2, x3, x4, x5⟩ := HO.out.2 i o ho; subst ex; have HC := Aside0.mk (fun (W : World) (hW : BelC w W) => And.intro (cellOn hW x0) (And.intro (cellOn hW x1) (And.intro (cellOn hW x2) (And.intro (cellOn hW x3) (And.intro (cellOn hW x4) (cellOn hW x5)))))); have hin := HI.out o (List.mem_of_getElem? ho); have CW := Aside0.mk (fun (W : World) (hW : BelC w W) => wants_run o Aa Ab AL ca cb cL W hin (hlay.on hW.out)); have CP := Aside0.mk (fun (W : World) (hW : BelC w W) => plays_run o Aa Ab AL ca cb cL W hin (hlay.on hW.out) (Glob.of_below HG.out hW.out)); unfold opV at CW CP; have p1 := eq_true (Int.natCast_nonneg i); have q1 := eq_true (show (i : Int) < (ops.length : Int) by omega); have HLT := Aside0.mk hlt; have HWW := Aside0.mk (w64 (x := (i : Int) + 1) (m := i + 1) (by omega) (by omega)); clear hlt hlb hi ho hlay x0 x1 x2 x3 x4 x5 hin; obtain ⟨y0, y1, y2, y3, y4, y5⟩ := HC.out w2 HB
      go_wp2_with (first
        | (go_at_call 6; (with_reducible refine (CW.out w2 HB).mono ?_); rintro e w3 hgv; obtain ⟨X, A0, A1, A5, c0, c1, c5, rfl, hl, hd, hs, hb⟩ := hgv.lay; unfold anV; have HB3 : BelC w w3 := bs hb; have HL3 := Aside0.mk hl; have HD := Aside0.mk hd; have HS := Aside0.mk hs; clear hgv hb hl hd hs y0 y1 y2 y3 y4 y5; obtain ⟨y0, y1, y2, y3, y4, y5⟩ := HC.out (w3.alloc (.cells #[.slice A0 X.S.length c0, .slice A1 X.L.length c1, .bool X.ok, .int .i64 X.n, .int .i32 X.u, .slice A5 X.us.length c5, .int .i64 X.e] 29 (0, 0))) inferInstance)
        | (go_at_call 7; (with_reducible refine (CP.out _ inferInstance).mono ?_); rintro e w6 hgv; obtain ⟨X2, B0, B1, B5, b0, b1, b5, rfl, hl, hd, hs, hb⟩ := hgv.lay; obtain rfl : X = X2 := does_one HD.out hd; unfold anV; have HB6 : BelC w w6 := bs (h := inferInstance) hb; have HL6 := Aside0.mk hl; have HM6 := Aside0.mk ((HL3.out.on (below_alloc (Below.refl _ _) _)).on hb); have H4 := blk_alloc (blk_below (blk_new w3 _) hb) (.cells #[.slice B0 X.S.length b0, .slice B1 X.L.length b1, .bool X.ok, .int .i64 X.n, .int .i32 X.u, .slice B5 X.us.length b5, .int .i64 X.e] 29 (0, 0)); have H5 := blk_new w6 (.cells #[.slice B0 X.S.length b0, .slice B1 X.L.length b1, .bool X.ok, .int .i64 X.n, .int .i32 X.u, .slice B5 X.us.length b5, .int .i64 X.e] 29 (0, 0)); clear hgv hb hl hd hs y0 y1 y2 y3 y4 y5; obtain ⟨u0, u1, u2, u3, u4, u5, u6, _, _, _, _, _, _, _⟩ := cells7 H5; obtain ⟨t0, t1, t2, t3, t4, t5, t6, _, _, _, _, _, _, _⟩ := cells7 H4; clear H4 H5)
        | (go_at_call 8; have cs := same_run X B0 B1 B5 A0 A1 A5 b0 b1 b5 c0 c1 c5 (w6.alloc (.cells #[.slice B0 X.S.length b0, .slice B1 X.L.length b1, .bool X.ok, .int .i64 X.n, .int .i32 X.u, .slice B5 X.us.length b5, .int .i64 X.e] 29 (0, 0))) (HL6.out.on (below_alloc (Below.refl _ _) _)) (HM6.out.on (below_alloc (Below.refl _ _) _)) HS.out; unfold anV at cs; (with_reducible refine cs.mono ?_); rintro e w9 ⟨rfl, hb⟩; have HB9 : BelC w w9 := bs (h := inferInstance) hb; clear hb cs))
      exact ⟨⟨i + 1, by rw [HWW.out], HLT.out, inferInstance⟩, by rw [HWW.out]; exact measLo HLT.out (s := 1) (Nat.le_refl _) rfl⟩
    · have d1 : decide (i < ops.length) = false := decide_eq_false hlt
      clear hlt hlb hi
      go_wp2
      go_ret; exact ⟨by first | rfl | simp, bw⟩
end Go.Proofs.YtoggmegpodmfnaaGreatDoor.Q
