/- The law's plain side (UtfRef5): what the printed functions come to; each theorem states its own conditions. -/
import Derived.Test.YtaipokmbgcmciaaPKx1
import Derived.Test.YtaipokmbgcmciaaPKx2
import Derived.Test.YtaipokmbgcmciaaPKx3
import Derived.Test.YtaipokmbgcmciaaPKx4
import Derived.Test.YtaipokmbgcmciaaBUtfScan
import Derived.Test.YtaipokmbgcmciaaBUtfPrev
import Derived.Test.YtaipokmbgcmciaaQUtfRef2
namespace Go.Proofs.Ytaipokmbgcmciaa.Q
open Go.RowKit Go.Proofs.YtaipokmbgcmciaaW.PrintWords Go.Proofs.YtaipokmbgcmciaaW.PrintLast Go.Proofs.YtaipokmbgcmciaaW.PrintMore Go.Proofs.Ytaipokmbgcmciaa.PK Go.Proofs.Ytaipokmbgcmciaa.B
set_option linter.unusedVariables false
set_option linter.unusedSimpArgs false
open UM
theorem rd_nat (l : List Int) (i : Nat) : rd l (i : Int) = l.getD i 0 := by unfold rd; rw [Int.toNat_natCast]
/-! ### equality, item by item -/
theorem ref_same0 (a b : List Int) (hl : a.length = b.length) (hs : a.length ≤ 1073741824) : ∀ (d i : Nat), a.length - i = d → i ≤ a.length →
    Ev (fun k => thistleref01_Same.l0 k a b (i : Int)) (decide (a.drop i = b.drop i))
  | 0, i, hd, hi => by
    rw [List.drop_eq_nil_of_le (by omega), List.drop_eq_nil_of_le (by omega), decide_eq_true rfl]
    refine Ev.step (f := fun _ => some true) (fun k => ?_) (Ev.now _)
    rw [thistleref01_Same.l0, if_neg (by omega)]
  | d + 1, i, hd, hi => by
    have e1 : a.drop i = a.getD i 0 :: a.drop (i + 1) := by rw [List.drop_eq_getElem_cons (by omega), List.getD_eq_getElem?_getD, List.getElem?_eq_getElem (by omega)]; rfl
    have e2 : b.drop i = b.getD i 0 :: b.drop (i + 1) := by rw [List.drop_eq_getElem_cons (by omega), List.getD_eq_getElem?_getD, List.getElem?_eq_getElem (by omega)]; rfl
    refine Ev.step (f := fun k => if a.getD i 0 = b.getD i 0 then thistleref01_Same.l0 k a b ((i + 1 : Nat) : Int) else some false) (fun k => ?_) ?_
    · rw [thistleref01_Same.l0, if_pos (by omega), if_pos (by omega), if_pos (by omega), rd_nat, rd_nat, wrap64_of _ (by omega), Int.natCast_add]
      rfl
    · rw [e1, e2]
      by_cases h : a.getD i 0 = b.getD i 0
      · rw [h]
        have := ref_same0 a b hl hs d (i + 1) (by omega) (by omega)
        have e : decide (b.getD i 0 :: a.drop (i + 1) = b.getD i 0 :: b.drop (i + 1)) = decide (a.drop (i + 1) = b.drop (i + 1)) := by
          rw [decide_eq_decide]; simp
        rw [e]
        exact ev_if_pos rfl this
      · rw [decide_eq_false (by intro e; exact h (List.cons.inj e).1)]
        exact ev_if_neg h (Ev.now _)
theorem ref_same (a b : List Int) (hs : a.length ≤ 1073741824) : Ev (fun k => thistleref01_Same.f k a b) (decide (a = b)) := by
  unfold thistleref01_Same.f
  by_cases hl : a.length = b.length
  · exact ev_if_pos (by omega) (by simpa using ref_same0 a b hl hs a.length 0 (by omega) (by omega))
  · rw [decide_eq_false (fun e => hl (by rw [e]))]
    exact ev_if_neg (by omega) (Ev.now _)
theorem law_same (a b : List Int) (hs : a.length ≤ 1073741824) : Ev (fun k => thistlelaw01_same.f k a b) (decide (a = b)) := by
  unfold thistlelaw01_same.f
  exact Ev.bind (f := fun _ x => some x) (ref_same a b hs) (Ev.now _)
theorem nums_same0 (a b : List Int) (hl : a.length = b.length) (hs : a.length ≤ 2147483648) : ∀ (d i : Nat), a.length - i = d → i ≤ a.length →
    Ev (fun k => thistlelaw01_sameNums.l0 k a b (i : Int)) (decide (a.drop i = b.drop i))
  | 0, i, hd, hi => by
    rw [List.drop_eq_nil_of_le (by omega), List.drop_eq_nil_of_le (by omega), decide_eq_true rfl]
    refine Ev.step (f := fun _ => some true) (fun k => ?_) (Ev.now _)
    rw [thistlelaw01_sameNums.l0, if_neg (by omega)]
  | d + 1, i, hd, hi => by
    have e1 : a.drop i = a.getD i 0 :: a.drop (i + 1) := by rw [List.drop_eq_getElem_cons (by omega), List.getD_eq_getElem?_getD, List.getElem?_eq_getElem (by omega)]; rfl
    have e2 : b.drop i = b.getD i 0 :: b.drop (i + 1) := by rw [List.drop_eq_getElem_cons (by omega), List.getD_eq_getElem?_getD, List.getElem?_eq_getElem (by omega)]; rfl
    refine Ev.step (f := fun k => if a.getD i 0 = b.getD i 0 then thistlelaw01_sameNums.l0 k a b ((i + 1 : Nat) : Int) else some false) (fun k => ?_) ?_
    · rw [thistlelaw01_sameNums.l0, if_pos (by omega), if_pos (by omega), if_pos (by omega), rd_nat, rd_nat, wrap64_of _ (by omega), Int.natCast_add]
      rfl
    · rw [e1, e2]
      by_cases h : a.getD i 0 = b.getD i 0
      · rw [h]
        have := nums_same0 a b hl hs d (i + 1) (by omega) (by omega)
        have e : decide (b.getD i 0 :: a.drop (i + 1) = b.getD i 0 :: b.drop (i + 1)) = decide (a.drop (i + 1) = b.drop (i + 1)) := by
          rw [decide_eq_decide]; simp
        rw [e]
        exact ev_if_pos rfl this
      · rw [decide_eq_false (by intro e; exact h (List.cons.inj e).1)]
        exact ev_if_neg h (Ev.now _)
theorem law_nums (a b : List Int) (hs : a.length ≤ 2147483648) : Ev (fun k => thistlelaw01_sameNums.f k a b) (decide (a = b)) := by
  unfold thistlelaw01_sameNums.f
  by_cases hl : a.length = b.length
  · exact ev_if_pos (by omega) (by simpa using nums_same0 a b hl hs a.length 0 (by omega) (by omega))
  · rw [decide_eq_false (fun e => hl (by rw [e]))]
    exact ev_if_neg (by omega) (Ev.now _)
theorem slices_equal0 (a b : List Int) (hl : a.length = b.length) (hs : a.length ≤ 1073741824) : ∀ (d i : Nat), a.length - i = d → i ≤ a.length →
    Ev (fun k => slices_Equal_rune_rune.l0 k a b (a.length : Int) (i : Int)) (decide (a.drop i = b.drop i))
  | 0, i, hd, hi => by
    rw [List.drop_eq_nil_of_le (by omega), List.drop_eq_nil_of_le (by omega), decide_eq_true rfl]
    refine Ev.step (f := fun _ => some true) (fun k => ?_) (Ev.now _)
    rw [slices_Equal_rune_rune.l0, if_neg (by omega)]
  | d + 1, i, hd, hi => by
    have e1 : a.drop i = a.getD i 0 :: a.drop (i + 1) := by rw [List.drop_eq_getElem_cons (by omega), List.getD_eq_getElem?_getD, List.getElem?_eq_getElem (by omega)]; rfl
    have e2 : b.drop i = b.getD i 0 :: b.drop (i + 1) := by rw [List.drop_eq_getElem_cons (by omega), List.getD_eq_getElem?_getD, List.getElem?_eq_getElem (by omega)]; rfl
    refine Ev.step (f := fun k => if a.getD i 0 = b.getD i 0 then slices_Equal_rune_rune.l0 k a b (a.length : Int) ((i + 1 : Nat) : Int) else some false) (fun k => ?_) ?_
    · rw [slices_Equal_rune_rune.l0, if_pos (by omega), if_pos (by omega), if_pos (by omega), if_pos (by omega), rd_nat, rd_nat, wrap64_of _ (by omega), Int.natCast_add]
      rfl
    · rw [e1, e2]
      by_cases h : a.getD i 0 = b.getD i 0
      · rw [h]
        have := slices_equal0 a b hl hs d (i + 1) (by omega) (by omega)
        have e : decide (b.getD i 0 :: a.drop (i + 1) = b.getD i 0 :: b.drop (i + 1)) = decide (a.drop (i + 1) = b.drop (i + 1)) := by
          rw [decide_eq_decide]; simp
        rw [e]
        exact ev_if_pos rfl this
      · rw [decide_eq_false (by intro e; exact h (List.cons.inj e).1)]
        exact ev_if_neg h (Ev.now _)
theorem slices_equal (a b : List Int) (hs : a.length ≤ 1073741824) : Ev (fun k => slices_Equal_rune_rune.f k a b) (decide (a = b)) := by
  unfold slices_Equal_rune_rune.f
  by_cases hl : a.length = b.length
  · exact ev_if_pos (by omega) (by simpa using slices_equal0 a b hl hs a.length 0 (by omega) (by omega))
  · rw [decide_eq_false (fun e => hl (by rw [e]))]
    exact ev_if_neg (by omega) (Ev.now _)
/-! ### bytes of a unit -/
def bz (u : Int) : List Int := if u > 1114111 then [u - 1114112] else Lib.encodeRuneZ u
theorem ref_ischar (u : Int) : thistleref01_IsChar.f u = some (decide ((0 ≤ u ∧ u < 55296) ∨ (57343 < u ∧ u ≤ 1114111))) := by
  unfold thistleref01_IsChar.f
  by_cases h0 : u ≥ 0
  · rw [if_pos h0]
    by_cases h1 : u < 55296
    · rw [if_pos h1, decide_eq_true (by omega)]
    · rw [if_neg h1]
      by_cases h2 : u > 57343
      · rw [if_pos h2]; congr 1; rw [decide_eq_decide]; omega
      · rw [if_neg h2, decide_eq_false (by omega)]
  · rw [if_neg h0, if_neg (by omega), decide_eq_false (by omega)]
theorem ref_isunit (u : Int) : thistleref01_IsUnit.f u = some (utfIsUnit u) := by
  unfold thistleref01_IsUnit.f utfIsUnit
  by_cases h0 : u < 0
  · rw [if_pos h0, decide_eq_false (by omega)]
  · rw [if_neg h0]
    by_cases h1 : u > 1114367
    · rw [if_pos h1, decide_eq_false (by omega)]
    · rw [if_neg h1, ref_ischar]
      simp only [Option.bind_some]
      by_cases h2 : (0 ≤ u ∧ u < 55296) ∨ (57343 < u ∧ u ≤ 1114111)
      · rw [decide_eq_true h2, if_pos rfl, decide_eq_true (by omega)]
      · rw [decide_eq_false h2, if_neg (by decide)]; congr 1; rw [decide_eq_decide]; omega
theorem tdiv_nn (a b : Int) (h : 0 ≤ a) : Int.tdiv a b = a / b := Int.tdiv_eq_ediv_of_nonneg h
theorem tmod_nn (a b : Int) (h : 0 ≤ a) : Int.tmod a b = a % b := Int.tmod_eq_emod_of_nonneg h
theorem ref_bytes (u : Int) (h : utfIsUnit u = true) : thistleref01_Bytes.f u = some (bz u) := by
  have hu := of_decide_eq_true h
  unfold thistleref01_Bytes.f bz
  rw [wrap64_of u (by omega)]
  by_cases h1 : u > 1114111
  · rw [if_pos h1, if_pos h1, wrap64_of _ (by omega), Int.emod_eq_of_lt (by omega) (by omega)]
  · rw [if_neg h1, if_neg h1]
    by_cases h2 : u < 128
    · rw [if_pos h2, Lib.encodeRuneZ_one (by omega) (by omega), Int.emod_eq_of_lt (by omega) (by omega)]
    · rw [if_neg h2]
      have t1 := tdiv_nn u 64 (by omega); have t2 := tdiv_nn u 4096 (by omega); have t3 := tdiv_nn u 262144 (by omega); have t4 := tmod_nn u 64 (by omega)
      by_cases h3 : u < 2048
      · rw [if_pos h3, Lib.encodeRuneZ_two (by omega) (by omega), t1, t4, wrap64_of (u / 64) (by omega), wrap64_of _ (by omega), wrap64_of _ (by omega), Int.emod_eq_of_lt (by omega) (by omega), Int.emod_eq_of_lt (a := 128 + u % 64) (by omega) (by omega)]
      · rw [if_neg h3]
        by_cases h4 : u < 65536
        · rw [if_pos h4, Lib.encodeRuneZ_three (by omega), t1, t2, t4, wrap64_of (u / 64) (by omega), wrap64_of (u / 4096) (by omega), tmod_nn _ _ (by omega), wrap64_of (224 + u / 4096) (by omega), wrap64_of (128 + u / 64 % 64) (by omega), wrap64_of (128 + u % 64) (by omega), Int.emod_eq_of_lt (a := 224 + u / 4096) (by omega) (by omega), Int.emod_eq_of_lt (a := 128 + u / 64 % 64) (by omega) (by omega), Int.emod_eq_of_lt (a := 128 + u % 64) (by omega) (by omega)]
        · rw [if_neg h4, Lib.encodeRuneZ_four (by omega) (by omega), t1, t2, t3, t4, wrap64_of (u / 64) (by omega), wrap64_of (u / 4096) (by omega), wrap64_of (u / 262144) (by omega), tmod_nn _ _ (by omega), tmod_nn _ _ (by omega), wrap64_of (240 + u / 262144) (by omega), wrap64_of (128 + u / 4096 % 64) (by omega), wrap64_of (128 + u / 64 % 64) (by omega), wrap64_of (128 + u % 64) (by omega), Int.emod_eq_of_lt (a := 240 + u / 262144) (by omega) (by omega), Int.emod_eq_of_lt (a := 128 + u / 4096 % 64) (by omega) (by omega), Int.emod_eq_of_lt (a := 128 + u / 64 % 64) (by omega) (by omega), Int.emod_eq_of_lt (a := 128 + u % 64) (by omega) (by omega)]
theorem bz_bytes (u : Int) : (bz u).map (fun n => UInt8.ofNat n.toNat) = utfBytesOf u := by
  unfold bz utfBytesOf
  split
  · rfl
  · unfold Lib.encodeRune; rfl
theorem bz_len (u : Int) : (bz u).length ≤ 4 := by
  unfold bz
  split
  · simp
  · exact (Lib.encodeRuneZ_length u).2
theorem str_flat (us : List Int) : strOfNums (us.flatMap bz) = utfTextOf us := by
  unfold strOfNums utfTextOf
  congr 2
  rw [List.map_flatMap]
  congr 1
  funext u
  exact bz_bytes u

end Go.Proofs.Ytaipokmbgcmciaa.Q
