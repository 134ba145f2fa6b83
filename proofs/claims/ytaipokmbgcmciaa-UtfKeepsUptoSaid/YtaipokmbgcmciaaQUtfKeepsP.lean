/- The law's plain side (UtfKeepsP): what the printed functions come to; each theorem states its own conditions. -/
import Derived.Test.YtaipokmbgcmciaaPKx1
import Derived.Test.YtaipokmbgcmciaaPKx2
import Derived.Test.YtaipokmbgcmciaaPKx3
import Derived.Test.YtaipokmbgcmciaaBUtfScan
import Derived.Test.YtaipokmbgcmciaaBUtfPrev
import Derived.Test.YtaipokmbgcmciaaQUtfRef
import Derived.Test.YtaipokmbgcmciaaQUtfRef2
import Derived.Test.YtaipokmbgcmciaaQUtfRef5
import Derived.Test.YtaipokmbgcmciaaQUtfRef6
import Derived.Test.YtaipokmbgcmciaaQUtfKeepsW
namespace Go.Proofs.Ytaipokmbgcmciaa.Q
open Go.RowKit Go.Proofs.YtaipokmbgcmciaaW.PrintWords Go.Proofs.YtaipokmbgcmciaaW.PrintLast Go.Proofs.YtaipokmbgcmciaaW.PrintMore Go.Proofs.Ytaipokmbgcmciaa.PK Go.Proofs.Ytaipokmbgcmciaa.B
set_option linter.unusedVariables false
set_option linter.unusedSimpArgs false
open UM
theorem evb0 {α β : Type} {x : Option α} {f : Nat → α → Option β} {a : α} {r : β} (h : x = some a) (k : Ev (fun n => f n a) r) : Ev (fun n => x.bind (f n)) r := by
  rw [h]; exact k
theorem awake_is : thistlelaw01_awake.f = some true := by
  unfold thistlelaw01_awake.f utf_Units.f
  rw [if_pos (by decide)]
  decide +kernel
theorem copied_is (l : List Int) (hl : l.length ≤ 1073741824) : thistlelaw01_copied.f l = some l := by
  unfold thistlelaw01_copied.f
  simp only [Option.bind_some, List.length_nil, Nat.zero_add, List.nil_append]
  rw [if_pos (by omega)]
theorem text_is (l : List Int) (hl : l.length ≤ 1073741824) : utf_Text.f l = some (if l.all utfIsUnit = true then (utfTextOf l, 0) else (⟨#[]⟩, 2)) := by
  unfold utf_Text.f
  rw [if_pos hl]
  split <;> rfl
theorem textOf_size (l : List Int) : (utfTextOf l).size ≤ 4 * l.length := by
  unfold utfTextOf
  simp only [ByteArray.size, List.size_toArray]
  induction l with
  | nil => simp
  | cons u l ih =>
    rw [List.flatMap_cons, List.length_append, List.length_cons]
    have : (utfBytesOf u).length ≤ 4 := by rw [← bz_bytes, List.length_map]; exact bz_len u
    omega
def apartB (l : List Int) : Bool := l.all utfIsUnit && decide (utfFrom (utfTextOf l) (utfTextOf l).size 0 = l)
theorem utf_apart (l : List Int) (hl : l.length ≤ 16777216) : Ev (fun k => utf_Apart.f k l) (apartB l) := by
  unfold utf_Apart.f apartB
  refine evb0 (text_is l (by omega)) ?_
  have hz := textOf_size l
  by_cases h : l.all utfIsUnit = true
  · rw [if_pos h, h, Bool.true_and]
    refine ev_if_pos rfl (evb0 (a := utfFrom (utfTextOf l) (utfTextOf l).size 0) (by unfold utf_Units.f; rw [if_pos (show (utfTextOf l).size ≤ _ by omega)]) ?_)
    refine Ev.bind (slices_equal _ _ (by have := units_len (utfTextOf l); omega)) (Ev.now _)
  · rw [if_neg h, show l.all utfIsUnit = false by simpa using h, Bool.false_and]
    exact ev_if_neg (show ¬ (2 : Int) = 0 by decide) (Ev.now _)
theorem ref_apart (l : List Int) (hl : l.length ≤ 16777216) : Ev (fun k => thistleref01_Apart.f k l) (apartB l) := by
  unfold thistleref01_Apart.f apartB
  refine Ev.bind (ref_text l (by omega)) ?_
  have hz := textOf_size l
  by_cases h : l.all utfIsUnit = true
  · rw [if_pos h, h, Bool.true_and]
    refine ev_if_pos rfl (Ev.bind (ref_units (utfTextOf l) (by omega)) ?_)
    refine Ev.bind (ref_same _ _ (by have := units_len (utfTextOf l); omega)) (Ev.now _)
  · rw [if_neg h, show l.all utfIsUnit = false by simpa using h, Bool.false_and]
    exact ev_if_neg (show ¬ (2 : Int) = 0 by decide) (Ev.now _)
theorem runes_len (s : ByteArray) : (utfRunes s s.size 0).length ≤ s.size := by
  rw [runes_units, List.length_map]; exact units_len s
theorem keeps_all (s : ByteArray) (A : Option Addr) (c : Nat) (l : List Int) (hs : s.size ≤ 1048576) (hl : l.length ≤ 1048576) (w : World) (hr : Kd.C (Kd.int .i32) w A l.length l) (hc : l.length ≤ c) :
    Calls Try.prog 3 #[.string s, .slice A l.length c] w fun e w' => e = .returned (.bool true) ∧ Below w.heap.size w w' := by
  have hs' : s.size ≤ 1073741824 := by omega
  have hl' : l.length ≤ 1073741824 := by omega
  have hul := units_len s
  have hrl := runes_len s
  have hpll := placesL_len s.size (s.data.toList.drop 0) ((0 : Nat) : Int)
  rw [← places_eq, ← from_eq] at hpll
  have hpl : (utfPlaces s s.size 0 ++ [(s.size : Int)]).length ≤ 16777216 := by rw [List.length_append]; simp; omega
  obtain ⟨k1, e1⟩ := ref_text l hl'
  obtain ⟨k2, e2⟩ := utf_apart l (by omega)
  obtain ⟨k3, e3⟩ := ref_apart l (by omega)
  obtain ⟨k4, e4⟩ := ref_from l hl'
  obtain ⟨k5, e5⟩ := law_same l l hl'
  obtain ⟨k6, e6⟩ := ref_units s hs'
  obtain ⟨k7, e7⟩ := ref_runes s hs'
  obtain ⟨k8, e8⟩ := law_same (utfFrom s s.size 0) (utfFrom s s.size 0) (by omega)
  obtain ⟨k9, e9⟩ := law_same (utfRunes s s.size 0) (utfRunes s s.size 0) (by omega)
  obtain ⟨k10, e10⟩ := ref_places s hs'
  obtain ⟨k11, e11⟩ := law_nums (utfPlaces s s.size 0 ++ [(s.size : Int)]) (utfPlaces s s.size 0 ++ [(s.size : Int)]) (by omega)
  obtain ⟨k, hk⟩ : ∃ k, k1 ≤ k ∧ k2 ≤ k ∧ k3 ≤ k ∧ k4 ≤ k ∧ k5 ≤ k ∧ k6 ≤ k ∧ k7 ≤ k ∧ k8 ≤ k ∧ k9 ≤ k ∧ k10 ≤ k ∧ k11 ≤ k := ⟨k1 + k2 + k3 + k4 + k5 + k6 + k7 + k8 + k9 + k10 + k11, by omega⟩
  obtain ⟨g1, g2, g3, g4, g5, g6, g7, g8, g9, g10, g11⟩ := hk
  obtain ⟨T, tn, hT⟩ : ∃ T tn, (if l.all utfIsUnit = true then (utfTextOf l, 0) else (⟨#[]⟩, 2)) = ((T, tn) : ByteArray × Int) := ⟨_, _, rfl⟩
  rw [hT] at e1
  have ht := text_is l hl'
  rw [hT] at ht
  have y5 := e5 k g5
  have y8 := e8 k g8
  have y9 := e9 k g9
  have y11 := e11 k g11
  rw [decide_eq_true rfl] at y5 y8 y9 y11
  exact keeps_calls k s A c l w hr hc hl (utfFrom s s.size 0) (utfRunes s s.size 0) (utfPlaces s s.size 0 ++ [(s.size : Int)]) T (runesBytes l) tn (apartB l) awake_is (copied_is l hl') ht (e1 k g1) (e2 k g2) (e3 k g3) (by unfold utf_FromRunes.f; rw [if_pos hl']) (e4 k g4) y5
    (by unfold utf_Units.f; rw [if_pos hs']) (e6 k g6) (by unfold utf_Runes.f; rw [if_pos hs']) (e7 k g7) y8 y9 (by unfold utf_Places.f; rw [if_pos hs']) (e10 k g10) y11 (by omega) (by omega) hpl

end Go.Proofs.Ytaipokmbgcmciaa.Q
