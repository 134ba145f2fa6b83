/- The law's plain side (UtfRangeM): what the printed functions come to; each theorem states its own conditions. -/
import Derived.Test.YtaipokmbgcmciaaDoorPUx1
import Derived.Test.YtaipokmbgcmciaaDoorBUtfScan
import Derived.Test.YtaipokmbgcmciaaDoorBUtfPrev
import Derived.Test.YtaipokmbgcmciaaDoorBUtfSegs
import Derived.Test.YtaipokmbgcmciaaDoorQUtfBack
namespace Go.Proofs.YtaipokmbgcmciaaDoor.Q
open Go.RowKit Go.Proofs.YtaipokmbgcmciaaDoorW.PrintWords Go.Proofs.YtaipokmbgcmciaaDoorW.PrintLast Go.Proofs.YtaipokmbgcmciaaDoorW.PrintMore Go.Proofs.YtaipokmbgcmciaaDoor.PU Go.Proofs.YtaipokmbgcmciaaDoor.B
set_option linter.unusedVariables false
set_option linter.unusedSimpArgs false
open UM
/-- What a round of the range knows: the units and places that have come. -/
structure At (s : ByteArray) (us P : List Int) (pos n : Nat) (bad : Int) : Prop where
  ex : ∃ (fuel : Nat) (us1 ps1 : List Int), us1 ++ utfFrom s fuel pos = us ∧ ps1 ++ utfPlaces s fuel pos ++ [(s.size : Int)] = P ∧ us1.length = n ∧ ps1.length = n ∧ s.size ≤ fuel + pos ∧ Scan s.data.toList pos us1 ∧ (0 ≤ bad ∧ bad ≤ us1.length) ∧ (bad = 0 ↔ us1.all (fun u => decide (u ≤ 1114111)) = true)
  le : pos ≤ s.size
theorem at_start (s : ByteArray) : At s (utfFrom s s.size 0) (utfPlaces s s.size 0 ++ [(s.size : Int)]) 0 0 0 :=
  ⟨⟨s.size, [], [], rfl, rfl, rfl, rfl, by omega, .zero, by simp, by simp⟩, by omega⟩
theorem rd_app (a b : List Int) (x : Int) (n : Nat) (h : a.length = n) : rd (a ++ x :: b) (n : Int) = x := by
  rw [rd_nat]; subst h; simp
structure Step (s : ByteArray) (us P : List Int) (pos n : Nat) (bad : Int) : Prop where
  lu : n < us.length
  lp : n + 1 < P.length
  u : rd us (n : Int) = utfUnitAt s pos
  p : rd P (n : Int) = (pos : Int)
  q : rd P ((n : Int) + 1) = (pos : Int) + ((Utf8.decode s pos).2 : Int)
  good : ¬ ((Utf8.decode s pos).1 = 65533 ∧ (Utf8.decode s pos).2 = 1) → utfUnitAt s pos = ((Utf8.decode s pos).1 : Int) ∧ At s us P (pos + (Utf8.decode s pos).2) (n + 1) bad
  few : n ≤ pos ∧ 0 ≤ bad ∧ bad ≤ n
  isbad : (Utf8.decode s pos).1 = 65533 → (Utf8.decode s pos).2 = 1 → utfUnitAt s pos = 1114112 + bt s pos ∧ At s us P (pos + (Utf8.decode s pos).2) (n + 1) (bad + 1)
  bor : borderB s pos = true
theorem at_step {s : ByteArray} {us P : List Int} {pos n : Nat} {bad : Int} (h : At s us P pos n bad) (hp : pos < s.size) : Step s us P pos n bad := by
  obtain ⟨⟨fuel, us1, ps1, hu, hP, hn, hm, hf, hS, hb0, hb⟩, hle⟩ := h
  obtain ⟨f, rfl⟩ : ∃ f, fuel = f + 1 := ⟨fuel - 1, by omega⟩
  have hw := utfWidth_pos s pos hp
  have hfit := utfDecode_fits s pos hp
  have hl : s.data.toList.drop pos ≠ [] := (drop_ne s pos).2 hp
  have hdec := decode_eq s pos
  have hun := unitAt_eq s pos hp
  have e1 : utfFrom s (f + 1) pos = utfUnitAt s pos :: utfFrom s f (pos + (Utf8.decode s pos).2) := by simp [utfFrom, hp]
  have e2 : utfPlaces s (f + 1) pos = (pos : Int) :: utfPlaces s f (pos + (Utf8.decode s pos).2) := by simp [utfPlaces, hp]
  rw [e1] at hu
  rw [e2] at hP
  have hP' : P = ps1 ++ ((pos : Int) :: (utfPlaces s f (pos + (Utf8.decode s pos).2) ++ [(s.size : Int)])) := by rw [← hP]; simp
  have hq : ∃ r, utfPlaces s f (pos + (Utf8.decode s pos).2) ++ [(s.size : Int)] = ((pos : Int) + ((Utf8.decode s pos).2 : Int)) :: r := by
    by_cases h2 : pos + (Utf8.decode s pos).2 < s.size
    · obtain ⟨f2, rfl⟩ : ∃ f2, f = f2 + 1 := ⟨f - 1, by omega⟩
      exact ⟨_, by simp [utfPlaces, h2]; rfl⟩
    · rw [utfPlaces_end _ _ _ h2]
      exact ⟨[], by simp; omega⟩
  obtain ⟨r, hr⟩ := hq
  have hS2 : Scan s.data.toList (pos + (Utf8.decode s pos).2) (us1 ++ [utfUnitAt s pos]) := by
    rw [hun, hdec]
    exact .step hS (by rw [size_list]; exact hp)
  have hbad := unit1_bad hl
  refine ⟨by rw [← hu]; simp; omega, by rw [hP', hr]; simp; omega, ?_, ?_, ?_, fun hg => ?_, ⟨by have := hS.few; omega, by omega, by omega⟩, fun h1 h2 => ?_, scan_border s hS⟩
  · rw [← hu, rd_app _ _ _ _ hn]
  · rw [hP', rd_app _ _ _ _ hm]
  · rw [hP', hr]
    have := rd_app (ps1 ++ [(pos : Int)]) r ((pos : Int) + ((Utf8.decode s pos).2 : Int)) (n + 1) (by simp; omega)
    simpa using this
  · have hne : dec (s.data.toList.drop pos) ≠ (65533, 1) := by
      intro e; rw [hdec, e] at hg; exact hg ⟨rfl, rfl⟩
    have hU : utfUnitAt s pos = ((Utf8.decode s pos).1 : Int) := by rw [hun, hdec]; unfold unit1; rw [if_neg hne]
    have hsm : ¬ utfUnitAt s pos > 1114111 := by rw [hun]; exact fun h => hne (hbad.1 h)
    refine ⟨hU, ⟨f, us1 ++ [utfUnitAt s pos], ps1 ++ [(pos : Int)], by rw [← hu]; simp, by rw [hP']; simp, by simp; omega, by simp; omega, by omega, hS2, by simp; omega, ?_⟩, hfit⟩
    rw [hb]; simp; omega
  · have he : dec (s.data.toList.drop pos) = (65533, 1) := by rw [← hdec]; exact Prod.ext h1 h2
    have hU : utfUnitAt s pos = 1114112 + bt s pos := by rw [hun]; unfold unit1; rw [if_pos he, bt_list, b_drop]; rfl
    have hbig : utfUnitAt s pos > 1114111 := by rw [hun]; exact hbad.2 he
    refine ⟨hU, ⟨f, us1 ++ [utfUnitAt s pos], ps1 ++ [(pos : Int)], by rw [← hu]; simp, by rw [hP']; simp, by simp; omega, by simp; omega, by omega, hS2, by simp; omega, ?_⟩, hfit⟩
    constructor
    · intro h; omega
    · intro h; simp at h; omega
theorem at_end {s : ByteArray} {us P : List Int} {pos n : Nat} {bad : Int} (h : At s us P pos n bad) (hp : ¬ pos < s.size) : n = us.length ∧ (bad = 0 ↔ us.all (fun u => decide (u ≤ 1114111)) = true) := by
  obtain ⟨⟨fuel, us1, ps1, hu, hP, hn, hm, hf, hS, hb0, hb⟩, hle⟩ := h
  rw [utfFrom_end _ _ _ hp, List.append_nil] at hu
  subst hu
  exact ⟨hn.symm, hb⟩
theorem placesFrom_len (s : ByteArray) : ∀ f pos, (utfPlaces s f pos).length = (utfFrom s f pos).length
  | 0, _ => rfl
  | f + 1, pos => by
    unfold utfPlaces utfFrom
    split
    · simp [placesFrom_len s f]
    · rfl
theorem border_bool (s : ByteArray) (hs : s.size ≤ 16777216) (pos : Nat) (hp : pos < s.size) (h : borderB s pos = true) : ∃ k, utf_Border.f k s (pos : Int) = some true := by
  obtain ⟨k, hk⟩ := utf_border s (pos : Int) (by omega)
  refine ⟨k, ?_⟩
  have := hk k (Nat.le_refl _)
  simp only at this
  rw [this, if_neg (by omega), Int.toNat_natCast, h]
/-- The block that the language's own conversion lays. -/
def rowObj (s : ByteArray) (cap : Nat) : Obj := .cells (Conv.runesFrom s s.size 0 #[] ++ Array.replicate (cap - (Conv.runesFrom s s.size 0 #[]).size) (.int .i32 0)) 21
def capOf (s : ByteArray) (W : World) : Nat := grownCap W (Conv.runesFrom s s.size 0 #[]).size 0 21
theorem runesN (s : ByteArray) (hs : s.size ≤ 16777216) : (utfRunes s s.size 0).length ≤ 16777216 := by have := runes_len s; omega
theorem conv_there (s : ByteArray) (hs : s.size ≤ 16777216) (W : World) : (convert 9 27 (.string s)).run Tryd.prog W = .ok (.slice (some ⟨W.heap.size, 0, none⟩) (utfRunes s s.size 0).length (capOf s W)) (W.alloc (rowObj s (capOf s W))).drew := by
  have hz := size_runesFrom s s.size 0 #[]
  simp only [List.size_toArray, List.length_nil, Nat.zero_add] at hz
  have h := run_runes_of_string (P := Tryd.prog) W 9 27 21 s Tryd.underlying9 Tryd.underlying27 Tryd.underlying21 (by omega)
  rw [utfRunes_len] at h
  rw [h, World.alloc_drew]
  unfold rowObj capOf
  rw [utfRunes_len]
theorem cap_ge (s : ByteArray) (W : World) : (utfRunes s s.size 0).length ≤ capOf s W := by
  unfold capOf; rw [← utfRunes_len]; exact grownCap_ge W _ 0 _
theorem cap_le (s : ByteArray) (hs : s.size ≤ 16777216) (W : World) : capOf s W ≤ maxLen := by
  have := runesN s hs
  rw [← utfRunes_len] at this
  exact grownCap_le_maxLen W _ 0 _ (by unfold maxLen; omega)
theorem row_C (s : ByteArray) (hs : s.size ≤ 16777216) (W W0 : World) (b : Nat) (h : W.heap[b]? = some (rowObj s (capOf s W0))) : Kd.C (Kd.int .i32) W (some ⟨b, 0, none⟩) (utfRunes s s.size 0).length (utfRunes s s.size 0) := by
  have hc := cap_ge s W0
  have hm := cap_le s hs W0
  have hl := utfRunes_len s
  have hf := utfRunes_from s s.size 0 []
  simp only [List.nil_append] at hf
  have hR : Kd.R (Kd.int .i32) 21 W 0 (fun _ => True) (.slice (some ⟨b, 0, none⟩) (utfRunes s s.size 0).length (capOf s W0)) (utfRunes s s.size 0) := by
   refine Kd.R_of_own ?_ (fun _ _ => trivial)
   refine ⟨by simp [encs], .inr ⟨b, capOf s W0, _, rfl, Nat.zero_le _, h, hc, hm, ?_, ?_⟩⟩
   · simp only [Array.size_append, Array.size_replicate, hl]; omega
   · have hl2 : (Conv.runesFrom s s.size 0 #[]).toList.length = (utfRunes s s.size 0).length := by rw [Array.length_toList]; exact hl
     rw [Array.toList_append, List.take_append_of_le_length (by omega), List.take_of_length_le (by omega)]
     exact hf
  exact (Kd.R_reads' hR).2.2
theorem conv_back (s : ByteArray) (hs : s.size ≤ 16777216) (W W0 : World) (b : Nat) (h : W.heap[b]? = some (rowObj s (capOf s W0))) : (convert 27 9 (.slice (some ⟨b, 0, none⟩) (utfRunes s s.size 0).length (capOf s W0))).run Tryd.prog W = .ok (.string (runesBytes (utfRunes s s.size 0))) W := by
  have hC := row_C s hs W W0 b h
  have := run_convert_runes (P := Tryd.prog) W 27 9 21 ⟨b, 0, none⟩ (utfRunes s s.size 0).length (capOf s W0) (utfRunes s s.size 0) (Nat.le_refl _) Tryd.underlying27 Tryd.underlying21 Tryd.underlying9 (fun j hj => utfRunes_bytes W 0 _ _ _ hC _ rfl j hj (by omega))
  rwa [List.take_of_length_le (Nat.le_refl _)] at this
theorem valid_is (s : ByteArray) (hs : s.size ≤ 16777216) : utf_Valid.f s = some ((utfFrom s s.size 0).all fun u => decide (u ≤ 1114111)) := by
  unfold utf_Valid.f utf8_ValidString.f
  rw [if_pos (by omega), valid_eq]; rfl
/-- The conversion, its world unseen. -/
theorem conv_any (s : ByteArray) (hs : s.size ≤ 16777216) : ∃ (F : World → World) (G C : World → Nat), (∀ X, (convert 9 27 (.string s)).run Tryd.prog X = .ok (.slice (some ⟨G X, 0, none⟩) (utfRunes s s.size 0).length (C X)) (F X)) ∧
    (∀ X, (convert 27 9 (.slice (some ⟨G X, 0, none⟩) (utfRunes s s.size 0).length (C X))).run Tryd.prog (F X) = .ok (.string (runesBytes (utfRunes s s.size 0))) (F X)) ∧
    (∀ X W, Below (F X).heap.size (F X) W → (convert 27 9 (.slice (some ⟨G X, 0, none⟩) (utfRunes s s.size 0).length (C X))).run Tryd.prog W = .ok (.string (runesBytes (utfRunes s s.size 0))) W) ∧
    (∀ X W, Below (F X).heap.size (F X) W → Kd.C (Kd.int .i32) W (some ⟨G X, 0, none⟩) (utfRunes s s.size 0).length (utfRunes s s.size 0)) ∧
    (∀ X, (utfRunes s s.size 0).length ≤ C X) ∧ (∀ X, Below X.heap.size X (F X)) := by
  have hrow : ∀ X W : World, Below ((X.alloc (rowObj s (capOf s X))).drew).heap.size ((X.alloc (rowObj s (capOf s X))).drew) W → W.heap[X.heap.size]? = some (rowObj s (capOf s X)) := fun X W hb => (hb.block _ (by simp [World.drew])).trans (heap_alloc_new X _)
  refine ⟨fun X => (X.alloc (rowObj s (capOf s X))).drew, fun X => X.heap.size, capOf s, conv_there s hs, fun X => conv_back s hs _ X _ (heap_alloc_new X _), fun X W hb => conv_back s hs W X _ (hrow X W hb), fun X W hb => row_C s hs W X _ (hrow X W hb), cap_ge s, fun X => below_drew (below_alloc (Below.refl _ X) _)⟩

end Go.Proofs.YtaipokmbgcmciaaDoor.Q
