/- The law's plain side (UtfPlays): what the printed functions come to; each theorem states its own conditions. -/
import Derived.Test.YtaipokmbgcmciaaDoorPUx1
import Derived.Test.YtaipokmbgcmciaaDoorPUx2
import Derived.Test.YtaipokmbgcmciaaDoorPUx3
import Derived.Test.YtaipokmbgcmciaaDoorPUx6
import Derived.Test.YtaipokmbgcmciaaDoorPUx7
import Derived.Test.YtaipokmbgcmciaaDoorPUx8
import Derived.Test.YtaipokmbgcmciaaDoorBUtfScan
import Derived.Test.YtaipokmbgcmciaaDoorBUtfPrev
import Derived.Test.YtaipokmbgcmciaaDoorQUtfRef
import Derived.Test.YtaipokmbgcmciaaDoorQUtfRef2
import Derived.Test.YtaipokmbgcmciaaDoorQUtfRef3
import Derived.Test.YtaipokmbgcmciaaDoorQUtfRef4
import Derived.Test.YtaipokmbgcmciaaDoorQUtfRef5
import Derived.Test.YtaipokmbgcmciaaDoorQUtfRef6
namespace Go.Proofs.YtaipokmbgcmciaaDoor.Q
open Go.RowKit Go.Proofs.YtaipokmbgcmciaaDoorW.PrintWords Go.Proofs.YtaipokmbgcmciaaDoorW.PrintLast Go.Proofs.YtaipokmbgcmciaaDoorW.PrintMore Go.Proofs.YtaipokmbgcmciaaDoor.PU Go.Proofs.YtaipokmbgcmciaaDoor.B
set_option linter.unusedVariables false
set_option linter.unusedSimpArgs false
open UM
theorem evb0 {α β : Type} {x : Option α} {f : Nat → α → Option β} {a : α} {r : β} (h : x = some a) (k : Ev (fun n => f n a) r) : Ev (fun n => x.bind (f n)) r := by
  rw [h]; exact k
theorem unit_width {l : List UInt8} (hl : l ≠ []) : utfWidthOf (unit1 l) = ((dec l).2 : Int) := by
  by_cases h : dec l = (65533, 1)
  · have hb := (unit1_bad hl).2 h
    unfold utfWidthOf
    rw [if_pos hb, h]; rfl
  · unfold unit1
    rw [if_neg h]
    exact chr_width (chr_dec hl h)
theorem utf_next (s : ByteArray) (a : Int) (hs : s.size ≤ 1073741824) :
    utf_Next.f s a = some (if a < 0 ∨ a > s.size then (0, 0, 3) else if a = s.size then (0, 0, 7) else ((unitAt s a.toNat).1, (unitAt s a.toNat).2, 0)) := by
  unfold utf_Next.f
  rw [if_pos hs]
  by_cases h1 : a < 0
  · rw [if_pos h1, if_pos (.inl h1)]
  · by_cases h2 : a > s.size
    · rw [if_neg h1, if_pos h2, if_pos (.inr h2)]
    · rw [if_neg h1, if_neg h2]
      by_cases h3 : a = s.size
      · rw [if_pos h3, if_neg (by omega), if_pos h3]
      · rw [if_neg h3, if_neg (by omega), if_neg h3]
        have hi : a.toNat < s.size := by omega
        have hl := (drop_ne s a.toNat).2 hi
        rw [unitAt_eq _ 0 (by rw [ByteArray.size_extract]; omega), extract_drop, List.drop_zero, unit_width hl]
        rfl
theorem awake_is : thistlelaw01_awake.f = some true := by
  unfold thistlelaw01_awake.f utf_Units.f
  rw [if_pos (by decide)]
  decide +kernel
theorem copied_is (l : List Int) (hl : l.length ≤ 1073741824) : thistlelaw01_copied.f l = some l := by
  unfold thistlelaw01_copied.f
  simp only [Option.bind_some, List.length_nil, Nat.zero_add, List.nil_append]
  rw [if_pos (by omega)]
theorem text_is (l : List Int) (hl : l.length ≤ 1073741824) : utf_Text.f l = some (if l.all utfIsUnit = true then (utfTextOf l, 0) else (⟨#[]⟩, 2)) := by
  unfold utf_Text.f
  rw [if_pos hl]
  split <;> rfl
theorem textOf_size (l : List Int) : (utfTextOf l).size ≤ 4 * l.length := by
  unfold utfTextOf
  simp only [ByteArray.size, List.size_toArray]
  induction l with
  | nil => simp
  | cons u l ih =>
    rw [List.flatMap_cons, List.length_append, List.length_cons]
    have : (utfBytesOf u).length ≤ 4 := by rw [← bz_bytes, List.length_map]; exact bz_len u
    omega
def apartB (l : List Int) : Bool := l.all utfIsUnit && decide (utfFrom (utfTextOf l) (utfTextOf l).size 0 = l)
theorem utf_apart (l : List Int) (hl : l.length ≤ 16777216) : Ev (fun k => utf_Apart.f k l) (apartB l) := by
  unfold utf_Apart.f apartB
  refine evb0 (text_is l (by omega)) ?_
  have hz := textOf_size l
  by_cases h : l.all utfIsUnit = true
  · rw [if_pos h, h, Bool.true_and]
    refine ev_if_pos rfl (evb0 (a := utfFrom (utfTextOf l) (utfTextOf l).size 0) (by unfold utf_Units.f; rw [if_pos (show (utfTextOf l).size ≤ _ by omega)]) ?_)
    refine Ev.bind (slices_equal _ _ (by have := units_len (utfTextOf l); omega)) (Ev.now _)
  · rw [if_neg h, show l.all utfIsUnit = false by simpa using h, Bool.false_and]
    exact ev_if_neg (show ¬ (2 : Int) = 0 by decide) (Ev.now _)
theorem ref_apart (l : List Int) (hl : l.length ≤ 16777216) : Ev (fun k => thistleref01_Apart.f k l) (apartB l) := by
  unfold thistleref01_Apart.f apartB
  refine Ev.bind (ref_text l (by omega)) ?_
  have hz := textOf_size l
  by_cases h : l.all utfIsUnit = true
  · rw [if_pos h, h, Bool.true_and]
    refine ev_if_pos rfl (Ev.bind (ref_units (utfTextOf l) (by omega)) ?_)
    refine Ev.bind (ref_same _ _ (by have := units_len (utfTextOf l); omega)) (Ev.now _)
  · rw [if_neg h, show l.all utfIsUnit = false by simpa using h, Bool.false_and]
    exact ev_if_neg (show ¬ (2 : Int) = 0 by decide) (Ev.now _)
theorem runes_len (s : ByteArray) : (utfRunes s s.size 0).length ≤ s.size := by
  rw [runes_units, List.length_map]; exact units_len s
theorem ref_mend (s : ByteArray) (hs : s.size ≤ 1073741824) : Ev (fun k => thistleref01_Mend.f k s) (runesBytes (utfRunes s s.size 0)) := by
  unfold thistleref01_Mend.f
  refine Ev.bind (ref_runes s hs) (Ev.bind (ref_from _ (by have := runes_len s; omega)) (Ev.now _))
theorem UtfPlays (s : ByteArray) (a : Int) (us : List Int) (hs : s.size ≤ 16777216) (hu : us.length ≤ 16777216) : ∃ k, thistlelaw01_UtfPlays.f k s a us = some true := by
  apply Ev.rounds
  have hs' : s.size ≤ 1073741824 := by omega
  have hu' : us.length ≤ 1073741824 := by omega
  unfold thistlelaw01_UtfPlays.f
  refine evb0 awake_is (ev_if_pos rfl (evb0 (utf_next s a hs') (Ev.bind (ref_next s a hs') (ev_if_pos rfl (ev_if_pos rfl ?_)))))
  simp only [bne_self_eq_false]
  refine Ev.step (fun k => by rw [thistlelaw01_UtfPlays.j0]) ?_
  refine ev_if_neg (by decide) (Ev.bind (utf_prev s a hs') (Ev.bind (ref_prev s a hs') (ev_if_pos rfl (ev_if_pos rfl ?_))))
  simp only [bne_self_eq_false]
  refine Ev.step (fun k => by rw [thistlelaw01_UtfPlays.j1]) ?_
  have hun : utf_Units.f s = some (utfFrom s s.size 0) := by unfold utf_Units.f; rw [if_pos hs']
  have hpl : utf_Places.f s = some (utfPlaces s s.size 0 ++ [(s.size : Int)]) := by unfold utf_Places.f; rw [if_pos hs']
  have hco : utf_Count.f s = some ((utfPlaces s s.size 0).length : Int) := by unfold utf_Count.f; rw [if_pos hs']
  have hul := units_len s
  have hpll := placesL_len s.size (s.data.toList.drop 0) ((0 : Nat) : Int)
  rw [← places_eq, ← from_eq] at hpll
  refine ev_if_neg (by decide) (evb0 hun (Ev.bind (ref_units s hs') (Ev.bind (law_same _ _ (by omega)) (ev_if_pos (by simp) ?_))))
  refine evb0 hpl (Ev.bind (ref_places s hs') (Ev.bind (law_nums _ _ (by rw [List.length_append]; simp; omega)) (ev_if_pos (by simp) ?_)))
  refine Ev.bind (utf_border s a hs') (Ev.bind (ref_border s a hs') ?_)
  simp only [bne_self_eq_false]
  refine Ev.step (fun k => by rw [thistlelaw01_UtfPlays.j2]) ?_
  refine ev_if_neg (by decide) (evb0 hco (Ev.bind (ref_count s hs') (ev_if_pos (by rw [hpll.1]) ?_)))
  have hva : utf_Valid.f s = some ((utfFrom s s.size 0).all fun u => decide (u ≤ 1114111)) := by
    unfold utf_Valid.f utf8_ValidString.f
    rw [if_pos hs', valid_eq]; rfl
  have hru : utf_Runes.f s = some (utfRunes s s.size 0) := by unfold utf_Runes.f; rw [if_pos hs']
  have hme : utf_Mend.f s = some (runesBytes (utfRunes s s.size 0)) := by unfold utf_Mend.f; rw [if_pos hs']
  refine evb0 hva (Ev.bind (ref_valid s hs') (ev_if_neg (by simp) ?_))
  refine evb0 hru (Ev.bind (ref_runes s hs') (Ev.bind (law_same _ _ (by have := runes_len s; omega)) (ev_if_pos (by simp) ?_)))
  refine evb0 hme (Ev.bind (ref_mend s hs') ?_)
  simp only [bne_self_eq_false]
  refine Ev.step (fun k => by rw [thistlelaw01_UtfPlays.j3]) ?_
  have hfr : utf_FromRunes.f us = some (runesBytes us) := by unfold utf_FromRunes.f; rw [if_pos hu']
  refine ev_if_neg (by decide) (evb0 (copied_is us hu') (evb0 (text_is us hu') (Ev.bind (ref_text us hu') (ev_if_pos rfl (ev_if_pos rfl ?_)))))
  refine evb0 (copied_is us hu') (Ev.bind (utf_apart us hu) (Ev.bind (ref_apart us hu) (ev_if_pos (by simp) ?_)))
  refine evb0 (copied_is us hu') (evb0 hfr (Ev.bind (ref_from us hu') ?_))
  exact ev_some fun _ => by simp

end Go.Proofs.YtaipokmbgcmciaaDoor.Q
