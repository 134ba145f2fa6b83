/- The law's plain side (UtfRef6): what the printed functions come to; each theorem states its own conditions. -/
import Derived.Test.YtaipokmbgcmciaaPKx2
import Derived.Test.YtaipokmbgcmciaaPKx3
import Derived.Test.YtaipokmbgcmciaaBUtfScan
import Derived.Test.YtaipokmbgcmciaaBUtfPrev
import Derived.Test.YtaipokmbgcmciaaQUtfRef2
import Derived.Test.YtaipokmbgcmciaaQUtfRef5
namespace Go.Proofs.Ytaipokmbgcmciaa.Q
open Go.RowKit Go.Proofs.YtaipokmbgcmciaaW.PrintWords Go.Proofs.YtaipokmbgcmciaaW.PrintLast Go.Proofs.YtaipokmbgcmciaaW.PrintMore Go.Proofs.Ytaipokmbgcmciaa.PK Go.Proofs.Ytaipokmbgcmciaa.B
set_option linter.unusedVariables false
set_option linter.unusedSimpArgs false
open UM
theorem units_len (s : ByteArray) : (utfFrom s s.size 0).length ≤ s.size := by
  have h := placesL_len s.size (s.data.toList.drop 0) ((0 : Nat) : Int)
  rw [List.length_drop, size_list] at h
  rw [from_eq]; omega
/-! ### Valid -/
theorem valid_units : ∀ (f : Nat) (l : List UInt8), Lib.validGoD f l = (units f l).all fun u => decide (u ≤ 1114111)
  | 0, l => rfl
  | f + 1, l => by
    unfold Lib.validGoD units
    by_cases hl : l = []
    · simp [hl]
    · rw [if_neg hl, if_neg hl, List.all_cons, decodeL_dec]
      have hb := unit1_bad hl
      by_cases h : dec l = (65533, 1)
      · rw [if_pos (by rw [h]; exact ⟨rfl, rfl⟩), decide_eq_false (by have := hb.2 h; omega), Bool.false_and]
      · rw [if_neg (fun h' => h (Prod.ext h'.1 h'.2)), decide_eq_true (by have := mt hb.1 h; omega), Bool.true_and]
        exact valid_units f _
def runeOf (u : Int) : Int := if u > 1114111 then 65533 else u
theorem ref_runes0 (us : List Int) (hs : us.length ≤ 1073741824) : ∀ (d i : Nat) (acc : List Int), us.length - i = d → acc.length ≤ i → Ev (fun k => thistleref01_Runes.l0 k us acc (i : Int)) (acc ++ (us.drop i).map runeOf)
  | 0, i, acc, hd, ha => by
    rw [List.drop_eq_nil_of_le (by omega), List.map_nil, List.append_nil]
    refine Ev.step (f := fun _ => some acc) (fun k => ?_) (Ev.now _)
    rw [thistleref01_Runes.l0, if_neg (by omega)]
  | d + 1, i, acc, hd, ha => by
    have e1 : us.drop i = us.getD i 0 :: us.drop (i + 1) := by rw [List.drop_eq_getElem_cons (by omega), List.getD_eq_getElem?_getD, List.getElem?_eq_getElem (by omega)]; rfl
    rw [e1, List.map_cons]
    refine Ev.step (f := fun k => thistleref01_Runes.l0 k us (acc ++ [runeOf (us.getD i 0)]) ((i + 1 : Nat) : Int)) (fun k => ?_) ?_
    · rw [thistleref01_Runes.l0, if_pos (by omega), if_pos (by omega), rd_nat, wrap64_of _ (by omega), Int.natCast_add]
      unfold runeOf
      by_cases h : us.getD i 0 > 1114111
      · rw [if_pos h, if_pos h, if_pos (by omega)]; rfl
      · rw [if_neg h, if_neg h, if_pos (by omega)]; rfl
    · have := ref_runes0 us hs d (i + 1) (acc ++ [runeOf (us.getD i 0)]) (by omega) (by simp; omega)
      rw [List.append_assoc, List.singleton_append] at this
      exact this
theorem runes_units (s : ByteArray) : ∀ (f pos : Nat), utfRunes s f pos = (utfFrom s f pos).map runeOf
  | 0, _ => rfl
  | f + 1, pos => by
    unfold utfRunes utfFrom
    by_cases h : pos < s.size
    · rw [if_pos h, if_pos h, List.map_cons, runes_units s f]
      congr 1
      rw [unitAt_eq s pos h, decode_eq]
      have hl := (drop_ne s pos).2 h
      have hb := unit1_bad hl
      unfold runeOf
      by_cases hd : dec (s.data.toList.drop pos) = (65533, 1)
      · rw [if_pos (hb.2 hd), hd]; rfl
      · rw [if_neg (mt hb.1 hd)]
        unfold unit1
        rw [if_neg hd]
    · rw [if_neg h, if_neg h]; rfl
theorem ref_runes (s : ByteArray) (hs : s.size ≤ 1073741824) : Ev (fun k => thistleref01_Runes.f k s) (utfRunes s s.size 0) := by
  unfold thistleref01_Runes.f
  refine Ev.bind (f := fun k x => thistleref01_Runes.l0 k x ([] : List Int) 0) (ref_units s hs) ?_
  have h := ref_runes0 (utfFrom s s.size 0) (by have := units_len s; omega) _ 0 [] rfl (by simp)
  rw [List.drop_zero, List.nil_append, ← runes_units] at h
  exact h
/-! ### Text -/
theorem ref_text0 (us : List Int) (hs : us.length ≤ 1073741824) : ∀ (d i : Nat) (acc : List Int), us.length - i = d → acc.length ≤ 4 * i →
    Ev (fun k => thistleref01_Text.l0 k us acc (i : Int)) (if (us.drop i).all utfIsUnit = true then (strOfNums (acc ++ (us.drop i).flatMap bz), 0) else (⟨#[]⟩, 2))
  | 0, i, acc, hd, ha => by
    rw [List.drop_eq_nil_of_le (by omega), List.all_nil, if_pos rfl, List.flatMap_nil, List.append_nil]
    refine Ev.step (f := fun _ => some (strOfNums acc, 0)) (fun k => ?_) (Ev.now _)
    rw [thistleref01_Text.l0, if_neg (by omega)]
  | d + 1, i, acc, hd, ha => by
    have e1 : us.drop i = us.getD i 0 :: us.drop (i + 1) := by rw [List.drop_eq_getElem_cons (by omega), List.getD_eq_getElem?_getD, List.getElem?_eq_getElem (by omega)]; rfl
    rw [e1, List.all_cons, List.flatMap_cons]
    have hl := bz_len (us.getD i 0)
    by_cases h : utfIsUnit (us.getD i 0) = true
    · rw [h, Bool.true_and]
      refine Ev.step (f := fun k => thistleref01_Text.l0 k us (acc ++ bz (us.getD i 0)) ((i + 1 : Nat) : Int)) (fun k => ?_) ?_
      · rw [thistleref01_Text.l0, if_pos (by omega), if_pos (by omega), rd_nat, ref_isunit, h, Option.bind_some, if_pos rfl, ref_bytes _ h, Option.bind_some, if_pos (by omega), wrap64_of _ (by omega), Int.natCast_add]
        rfl
      · have := ref_text0 us hs d (i + 1) (acc ++ bz (us.getD i 0)) (by omega) (by rw [List.length_append]; omega)
        rw [List.append_assoc] at this
        exact this
    · have h' : utfIsUnit (us.getD i 0) = false := by simpa using h
      rw [h', Bool.false_and, if_neg (by decide)]
      refine Ev.step (f := fun _ => some ((⟨#[]⟩ : ByteArray), 2)) (fun k => ?_) (Ev.now _)
      rw [thistleref01_Text.l0, if_pos (by omega), if_pos (by omega), rd_nat, ref_isunit, h', Option.bind_some, if_neg (by decide)]
theorem ref_text (us : List Int) (hs : us.length ≤ 1073741824) : Ev (fun k => thistleref01_Text.f k us) (if us.all utfIsUnit = true then (utfTextOf us, 0) else (⟨#[]⟩, 2)) := by
  unfold thistleref01_Text.f
  have h := ref_text0 us hs _ 0 [] rfl (by simp)
  rw [List.drop_zero, List.nil_append, str_flat] at h
  exact h
/-! ### FromRunes -/
def mendU (r : Int) : Int := if (0 ≤ r ∧ r < 55296) ∨ (57343 < r ∧ r ≤ 1114111) then r else 65533
theorem mendU_unit (r : Int) : utfIsUnit (mendU r) = true := by
  unfold mendU utfIsUnit
  apply decide_eq_true
  split <;> omega
theorem ref_from0 (us : List Int) (hs : us.length ≤ 1073741824) : ∀ (d i : Nat) (acc : List Int), us.length - i = d → acc.length ≤ 4 * i →
    Ev (fun k => thistleref01_FromRunes.l0 k us acc (i : Int)) (strOfNums (acc ++ (us.drop i).flatMap fun r => bz (mendU r)))
  | 0, i, acc, hd, ha => by
    rw [List.drop_eq_nil_of_le (by omega), List.flatMap_nil, List.append_nil]
    refine Ev.step (f := fun _ => some (strOfNums acc)) (fun k => ?_) (Ev.now _)
    rw [thistleref01_FromRunes.l0, if_neg (by omega)]
  | d + 1, i, acc, hd, ha => by
    have e1 : us.drop i = us.getD i 0 :: us.drop (i + 1) := by rw [List.drop_eq_getElem_cons (by omega), List.getD_eq_getElem?_getD, List.getElem?_eq_getElem (by omega)]; rfl
    rw [e1, List.flatMap_cons]
    have hl := bz_len (mendU (us.getD i 0))
    have hmu := mendU_unit (us.getD i 0)
    refine Ev.step (f := fun k => thistleref01_FromRunes.l0 k us (acc ++ bz (mendU (us.getD i 0))) ((i + 1 : Nat) : Int)) (fun k => ?_) ?_
    · rw [thistleref01_FromRunes.l0, if_pos (by omega), if_pos (by omega), rd_nat, ref_ischar, Option.bind_some, wrap64_of _ (by omega), Int.natCast_add]
      by_cases h : (0 ≤ us.getD i 0 ∧ us.getD i 0 < 55296) ∨ (57343 < us.getD i 0 ∧ us.getD i 0 ≤ 1114111)
      · have e : mendU (us.getD i 0) = us.getD i 0 := by unfold mendU; rw [if_pos h]
        rw [e] at hmu hl ⊢
        rw [decide_eq_true h, if_pos rfl, ref_bytes _ hmu, Option.bind_some, if_pos (by omega)]
        rfl
      · have e : mendU (us.getD i 0) = 65533 := by unfold mendU; rw [if_neg h]
        rw [e] at hmu hl ⊢
        rw [decide_eq_false h, if_neg (by decide), ref_bytes _ hmu, Option.bind_some, if_pos (by omega)]
        rfl
    · have := ref_from0 us hs d (i + 1) (acc ++ bz (mendU (us.getD i 0))) (by omega) (by rw [List.length_append]; omega)
      rw [List.append_assoc] at this
      exact this
theorem enc_nat (c : Nat) (hc : c < 55296 ∨ (57343 < c ∧ c ≤ 1114111)) :
    (if c < 0x80 then (⟨#[UInt8.ofNat c]⟩ : ByteArray) else if c < 0x800 then ⟨#[UInt8.ofNat (0xC0 + c / 64), UInt8.ofNat (0x80 + c % 64)]⟩
      else if c < 0x10000 then ⟨#[UInt8.ofNat (0xE0 + c / 4096), UInt8.ofNat (0x80 + c / 64 % 64), UInt8.ofNat (0x80 + c % 64)]⟩
      else ⟨#[UInt8.ofNat (0xF0 + c / 262144), UInt8.ofNat (0x80 + c / 4096 % 64), UInt8.ofNat (0x80 + c / 64 % 64), UInt8.ofNat (0x80 + c % 64)]⟩).data.toList = Lib.encodeRune (c : Int) := by
  unfold Lib.encodeRune
  by_cases h1 : c < 128
  · rw [if_pos h1, Lib.encodeRuneZ_one (by omega) (by omega)]
    simp
  · rw [if_neg h1]
    by_cases h2 : c < 2048
    · rw [if_pos h2, Lib.encodeRuneZ_two (by omega) (by omega)]
      simp only [List.map_cons, List.map_nil]
      rw [show ((192 : Int) + (c : Int) / 64).toNat = 192 + c / 64 by omega, show ((128 : Int) + (c : Int) % 64).toNat = 128 + c % 64 by omega]
    · rw [if_neg h2]
      by_cases h3 : c < 65536
      · rw [if_pos h3, Lib.encodeRuneZ_three (by omega)]
        simp only [List.map_cons, List.map_nil]
        rw [show ((224 : Int) + (c : Int) / 4096).toNat = 224 + c / 4096 by omega, show ((128 : Int) + (c : Int) / 64 % 64).toNat = 128 + c / 64 % 64 by omega, show ((128 : Int) + (c : Int) % 64).toNat = 128 + c % 64 by omega]
      · rw [if_neg h3, Lib.encodeRuneZ_four (by omega) (by omega)]
        simp only [List.map_cons, List.map_nil]
        rw [show ((240 : Int) + (c : Int) / 262144).toNat = 240 + c / 262144 by omega, show ((128 : Int) + (c : Int) / 4096 % 64).toNat = 128 + c / 4096 % 64 by omega, show ((128 : Int) + (c : Int) / 64 % 64).toNat = 128 + c / 64 % 64 by omega, show ((128 : Int) + (c : Int) % 64).toNat = 128 + c % 64 by omega]
theorem encode_mend (r : Int) : (Utf8.encode r).data.toList = utfBytesOf (mendU r) := by
  have hv : Utf8.valid r = true ↔ ((0 ≤ r ∧ r < 55296) ∨ (57343 < r ∧ r ≤ 1114111)) := by
    unfold Utf8.valid
    simp only [Bool.or_eq_true, Bool.and_eq_true, decide_eq_true_eq]
    omega
  have hm : ¬ mendU r > 1114111 := by unfold mendU; split <;> omega
  have eb : utfBytesOf (mendU r) = Lib.encodeRune (mendU r) := by unfold utfBytesOf; rw [if_neg hm]
  rw [eb]
  unfold Utf8.encode Utf8.runeError
  by_cases h : (0 ≤ r ∧ r < 55296) ∨ (57343 < r ∧ r ≤ 1114111)
  · have e : mendU r = r := by unfold mendU; rw [if_pos h]
    simp only [hv.2 h, if_true]
    rw [enc_nat r.toNat (by omega), Int.toNat_of_nonneg (by omega), e]
  · have e : mendU r = 65533 := by unfold mendU; rw [if_neg h]
    have hv' : Utf8.valid r = false := by rw [← Bool.not_eq_true, hv]; exact h
    simp only [hv', Bool.false_eq_true, if_false]
    rw [enc_nat 65533 (by omega), e]
    rfl
theorem runesBytes_eq (us : List Int) : runesBytes us = strOfNums (us.flatMap fun r => bz (mendU r)) := by
  have key : ∀ (us : List Int) (a : ByteArray), (us.foldl (fun r n => r ++ Utf8.encode n) a).data.toList = a.data.toList ++ us.flatMap fun r => utfBytesOf (mendU r) := by
    intro us
    induction us with
    | nil => intro a; simp
    | cons u us ih =>
      intro a
      rw [List.foldl_cons, ih, List.flatMap_cons, ← encode_mend u]
      have : (a ++ Utf8.encode u).data.toList = a.data.toList ++ (Utf8.encode u).data.toList := by simp
      rw [this, List.append_assoc]
  have h := key us ByteArray.empty
  unfold runesBytes strOfNums
  rw [List.map_flatMap]
  simp only [bz_bytes]
  generalize us.foldl (fun r n => r ++ Utf8.encode n) ByteArray.empty = x at *
  obtain ⟨⟨x⟩⟩ := x
  simp only [ByteArray.mk.injEq, Array.mk.injEq]
  simpa using h
theorem ref_from (us : List Int) (hs : us.length ≤ 1073741824) : Ev (fun k => thistleref01_FromRunes.f k us) (runesBytes us) := by
  unfold thistleref01_FromRunes.f
  have h := ref_from0 us hs _ 0 [] rfl (by simp)
  rw [List.drop_zero, List.nil_append, ← runesBytes_eq] at h
  exact h

end Go.Proofs.Ytaipokmbgcmciaa.Q
