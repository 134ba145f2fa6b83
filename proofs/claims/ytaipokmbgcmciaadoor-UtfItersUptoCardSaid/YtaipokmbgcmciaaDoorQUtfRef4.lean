/- The law's plain side (UtfRef4): what the printed functions come to; each theorem states its own conditions. -/
import Derived.Test.YtaipokmbgcmciaaDoorPUx2
import Derived.Test.YtaipokmbgcmciaaDoorPUx4
import Derived.Test.YtaipokmbgcmciaaDoorPUx5
import Derived.Test.YtaipokmbgcmciaaDoorBUtfScan
import Derived.Test.YtaipokmbgcmciaaDoorBUtfPrev
import Derived.Test.YtaipokmbgcmciaaDoorQUtfRef
import Derived.Test.YtaipokmbgcmciaaDoorQUtfRef2
import Derived.Test.YtaipokmbgcmciaaDoorQUtfRef3
namespace Go.Proofs.YtaipokmbgcmciaaDoor.Q
open Go.RowKit Go.Proofs.YtaipokmbgcmciaaDoorW.PrintWords Go.Proofs.YtaipokmbgcmciaaDoorW.PrintLast Go.Proofs.YtaipokmbgcmciaaDoorW.PrintMore Go.Proofs.YtaipokmbgcmciaaDoor.PU Go.Proofs.YtaipokmbgcmciaaDoor.B
set_option linter.unusedVariables false
set_option linter.unusedSimpArgs false
open UM
/-! ### Prev -/
/-- The last unit of a text that is not empty, and its width. -/
def lastUnit (l : List UInt8) : Int × Int := if Lib.decodeLastL l = (65533, 1) then (1114112 + (b l (l.length - 1) : Int), 1) else (((Lib.decodeLastL l).1 : Int), ((Lib.decodeLastL l).2 : Int))
def prevOf (s : ByteArray) (a : Int) : Int × Int × Int :=
  if a < 0 ∨ a > s.size then (0, 0, 3) else if a = 0 then (0, 0, 7) else ((lastUnit (s.data.toList.take a.toNat)).1, (lastUnit (s.data.toList.take a.toNat)).2, 0)
theorem utf_prev (s : ByteArray) (a : Int) (hs : s.size ≤ 1073741824) : Ev (fun k => utf_Prev.f k s a) (prevOf s a) := by
  unfold utf_Prev.f prevOf
  by_cases h1 : a < 0
  · rw [if_pos (.inl h1)]
    refine ev_if_pos h1 (Ev.step (f := fun _ => some (0, 0, 3)) (fun k => ?_) (Ev.now _))
    simp only [utf_Prev.j0, if_true]
  · refine ev_if_neg h1 ?_
    by_cases h2 : a > s.size
    · rw [if_pos (.inr h2), decide_eq_true h2]
      refine Ev.step (f := fun _ => some (0, 0, 3)) (fun k => ?_) (Ev.now _)
      simp only [utf_Prev.j0, if_true]
    · rw [if_neg (by omega), decide_eq_false h2]
      by_cases h3 : a = 0
      · rw [if_pos h3]
        refine Ev.step (f := fun _ => some (0, 0, 7)) (fun k => ?_) (Ev.now _)
        simp only [utf_Prev.j0, if_pos h3]
        rfl
      · rw [if_neg h3]
        obtain ⟨n, rfl⟩ := Int.eq_ofNat_of_zero_le (show 0 ≤ a by omega)
        rw [Int.toNat_natCast]
        have hlen : (s.data.toList.take n).length = n := by rw [List.length_take, size_list]; omega
        refine Ev.step (f := fun _ => some ((lastUnit (s.data.toList.take n)).1, (lastUnit (s.data.toList.take n)).2, 0)) (fun k => ?_) (Ev.now _)
        rw [utf_Prev.j0]
        rw [if_neg (by decide), if_neg h3, if_pos (by omega), if_pos (by omega), Int.toNat_natCast]
        unfold utf8_DecodeLastRuneInString.f
        rw [if_pos (by rw [ByteArray.size_extract]; omega), Option.bind_some, extract_take]
        unfold lastUnit
        have hb := b_lt s.data.toList (n - 1)
        rw [hlen, b_take _ _ _ (by omega)]
        generalize Lib.decodeLastL (s.data.toList.take n) = d
        obtain ⟨c, w⟩ := d
        simp only [Prod.mk.injEq]
        by_cases hc : c = 65533
        · by_cases hw : w = 1
          · subst hc hw
            rw [if_pos (by omega), if_pos (by omega), wrap64_of _ (by omega), if_pos (by omega), if_pos (by omega), show ((n : Int) - 1) = ((n - 1 : Nat) : Int) by omega, bt_list, wrap32_of (b s.data.toList (n - 1) : Int) (by omega), wrap32_of _ (by omega), if_pos ⟨rfl, rfl⟩]
          · rw [if_pos (by omega), if_neg (by omega), if_neg (by omega)]
        · rw [if_neg (by omega), if_neg (by omega)]
theorem last_ref (l : List UInt8) (hl : l ≠ []) : (∃ c n, 1 ≤ n ∧ n ≤ 4 ∧ n ≤ l.length ∧ Chr (l.drop (l.length - n)) c n ∧ lastUnit l = ((c : Int), (n : Int))) ∨
    ((∀ c n, n ≤ l.length → ¬ Chr (l.drop (l.length - n)) c n) ∧ lastUnit l = (1114112 + (b l (l.length - 1) : Int), 1)) := by
  by_cases h : ∃ c n, n ≤ l.length ∧ Chr (l.drop (l.length - n)) c n
  · obtain ⟨c, n, hn, hc⟩ := h
    have h4 := chr_w4 hc
    refine .inl ⟨c, n, h4.1, h4.2, hn, hc, ?_⟩
    unfold lastUnit
    rw [last_chr l c n hn hc, if_neg]
    intro e
    simp only [Prod.mk.injEq] at e
    exact not_char hc e
  · have h' : ∀ c n, n ≤ l.length → ¬ Chr (l.drop (l.length - n)) c n := fun c n hn hc => h ⟨c, n, hn, hc⟩
    refine .inr ⟨h', ?_⟩
    unfold lastUnit
    rw [last_bad l hl h', if_pos rfl]
theorem refP_step (t : ByteArray) (n : Nat) (at_ : Nat) (ht : t.size = at_) (hs : at_ ≤ 1073741824) (h1 : 1 ≤ n) (h4 : n ≤ 4) (hn : n ≤ at_) (r : Int × Int × Int)
    (hyes : (chrAt t (at_ - n)).2 = (n : Int) → r = ((chrAt t (at_ - n)).1, (n : Int), 0)) (hno : (chrAt t (at_ - n)).2 ≠ (n : Int) → Ev (fun k => thistleref01_Prev.l0 k (at_ : Int) t ((n + 1 : Nat) : Int)) r) :
    Ev (fun k => thistleref01_Prev.l0 k (at_ : Int) t (n : Int)) r := by
  refine Ev.step (f := fun k => thistleref01_Prev.j2 k (at_ : Int) t (n : Int) true) (fun k => ?_) ?_
  · conv => lhs; unfold thistleref01_Prev.l0
    rw [if_pos (by omega), decide_eq_true (by omega)]
  · refine Ev.step (f := fun k => (thistleref01_char.f k t ((at_ - n : Nat) : Int)).bind fun bt137 => (if bt137.2 = (n : Int) then (some (bt137.1, (n : Int), 0)) else (thistleref01_Prev.l0 k (at_ : Int) t ((n + 1 : Nat) : Int)))) (fun k => ?_) ?_
    · conv => lhs; unfold thistleref01_Prev.j2
      rw [if_pos rfl, wrap64_of _ (by omega), wrap64_of _ (by omega), show ((at_ : Int) - (n : Int)) = ((at_ - n : Nat) : Int) by omega, show ((n : Int) + 1) = ((n + 1 : Nat) : Int) by omega]
    · refine Ev.bind (f := fun k x => (if x.2 = (n : Int) then (some (x.1, (n : Int), 0)) else (thistleref01_Prev.l0 k (at_ : Int) t ((n + 1 : Nat) : Int)))) (ref_char_ev t (at_ - n) (by omega) (by omega)) ?_
      by_cases h : (chrAt t (at_ - n)).2 = (n : Int)
      · rw [hyes h]
        exact ev_if_pos h (Ev.now _)
      · exact ev_if_neg h (hno h)
theorem refP_end (t : ByteArray) (n at_ : Nat) (ht : t.size = at_) (hs : at_ ≤ 1073741824) (h0 : 1 ≤ at_) (h : 4 < n ∨ at_ < n) :
    Ev (fun k => thistleref01_Prev.l0 k (at_ : Int) t (n : Int)) (1114112 + (b t.data.toList (at_ - 1) : Int), 1, 0) := by
  refine Ev.step (f := fun k => thistleref01_Prev.j2 k (at_ : Int) t (n : Int) false) (fun k => ?_) ?_
  · conv => lhs; unfold thistleref01_Prev.l0
    by_cases h4 : n ≤ 4
    · rw [if_pos (by omega), decide_eq_false (by omega)]
    · rw [if_neg (by omega)]
  · refine Ev.step (f := fun _ => some (1114112 + (b t.data.toList (at_ - 1) : Int), 1, 0)) (fun k => ?_) (Ev.now _)
    have hb := b_lt t.data.toList (at_ - 1)
    conv => lhs; unfold thistleref01_Prev.j2
    rw [if_neg (by decide), wrap64_of ((at_ : Int) - 1) (by omega), if_pos (by omega), if_pos (by omega), show ((at_ : Int) - 1) = ((at_ - 1 : Nat) : Int) by omega, bt_list, wrap64_of (b t.data.toList (at_ - 1) : Int) (by omega), wrap64_of _ (by omega), wrap32_of _ (by omega)]
theorem chrAt_of {s : ByteArray} {i c w : Nat} (h : Chr (s.data.toList.drop i) c w) : chrAt s i = ((c : Int), (w : Int)) := by
  unfold chrAt
  rw [if_neg (chr_ne h), dec_chr h]
theorem chrAt_ne {s : ByteArray} {i n : Nat} (hi : i < s.size) (hn : 1 ≤ n) (h : ∀ c, ¬ Chr (s.data.toList.drop i) c n) : (chrAt s i).2 ≠ (n : Int) := by
  unfold chrAt
  split
  · simp only; omega
  · rename_i hd
    intro e
    simp only at e
    have hc := chr_dec ((drop_ne s i).2 hi) hd
    rw [show (dec (s.data.toList.drop i)).2 = n by omega] at hc
    exact h _ hc
theorem refP_loop (t : ByteArray) (at_ : Nat) (ht : t.size = at_) (hs : at_ ≤ 1073741824) (h0 : 1 ≤ at_) :
    Ev (fun k => thistleref01_Prev.l0 k (at_ : Int) t 1) ((lastUnit t.data.toList).1, (lastUnit t.data.toList).2, 0) := by
  have hll : t.data.toList.length = at_ := by rw [size_list]; exact ht
  have hl : t.data.toList ≠ [] := by intro e; rw [e] at hll; simp at hll; omega
  rcases last_ref _ hl with ⟨c, n, hn1, hn4, hnl, hc, hu⟩ | ⟨hno, hu⟩
  · rw [hu]
    rw [hll] at hc hnl
    have key : ∀ d m : Nat, m + d = n → 1 ≤ m → Ev (fun k => thistleref01_Prev.l0 k (at_ : Int) t (m : Int)) ((c : Int), (n : Int), 0) := by
      intro d
      induction d with
      | zero =>
        intro m hm hm1
        obtain rfl : m = n := by omega
        refine refP_step t m at_ ht hs hm1 hn4 hnl _ (fun _ => by rw [chrAt_of hc]) (fun h => absurd (by rw [chrAt_of hc]) h)
      | succ d ih =>
        intro m hm hm1
        have hne : (chrAt t (at_ - m)).2 ≠ (m : Int) := by
          refine chrAt_ne (by omega) hm1 fun c' hc' => ?_
          have hin := chr_inside hc (show 1 ≤ n - m by omega) (by omega)
          have hle := chr_lead hc'
          rw [b_drop] at hin
          rw [b_drop, Nat.add_zero] at hle
          rw [show at_ - n + (n - m) = at_ - m by omega] at hin
          omega
        exact refP_step t m at_ ht hs hm1 (by omega) (by omega) _ (fun h => absurd h hne) (fun _ => ih (m + 1) (by omega) (by omega))
    exact key (n - 1) 1 (by omega) (by omega)
  · rw [hu, hll]
    have key : ∀ d m : Nat, m + d = 5 → 1 ≤ m → Ev (fun k => thistleref01_Prev.l0 k (at_ : Int) t (m : Int)) (1114112 + (b t.data.toList (at_ - 1) : Int), 1, 0) := by
      intro d
      induction d with
      | zero => intro m hm hm1; exact refP_end t m at_ ht hs h0 (.inl (by omega))
      | succ d ih =>
        intro m hm hm1
        by_cases hma : m ≤ at_
        · have hne : (chrAt t (at_ - m)).2 ≠ (m : Int) := chrAt_ne (by omega) hm1 fun c' hc' => hno c' m (by omega) (by rw [hll]; exact hc')
          exact refP_step t m at_ ht hs hm1 (by omega) hma _ (fun h => absurd h hne) (fun _ => ih (m + 1) (by omega) (by omega))
        · exact refP_end t m at_ ht hs h0 (.inr (by omega))
    exact key 4 1 (by omega) (by omega)
theorem ref_prev (s : ByteArray) (a : Int) (hs : s.size ≤ 1073741824) : Ev (fun k => thistleref01_Prev.f k s a) (prevOf s a) := by
  unfold thistleref01_Prev.f prevOf
  by_cases h1 : a < 0
  · rw [if_pos (.inl h1)]
    refine ev_if_pos h1 (Ev.step (f := fun _ => some (0, 0, 3)) (fun k => ?_) (Ev.now _))
    simp only [thistleref01_Prev.j0, if_true]
  · refine ev_if_neg h1 ?_
    by_cases h2 : a > s.size
    · rw [if_pos (.inr h2), decide_eq_true h2]
      refine Ev.step (f := fun _ => some (0, 0, 3)) (fun k => ?_) (Ev.now _)
      simp only [thistleref01_Prev.j0, if_true]
    · rw [if_neg (by omega), decide_eq_false h2]
      by_cases h3 : a = 0
      · rw [if_pos h3]
        refine Ev.step (f := fun _ => some (0, 0, 7)) (fun k => ?_) (Ev.now _)
        simp only [thistleref01_Prev.j0, if_pos h3]
        rfl
      · rw [if_neg h3]
        obtain ⟨n, rfl⟩ := Int.eq_ofNat_of_zero_le (show 0 ≤ a by omega)
        rw [Int.toNat_natCast, ← extract_take]
        refine Ev.step (f := fun k => thistleref01_Prev.l0 k (n : Int) (s.extract 0 n) 1) (fun k => ?_) (refP_loop (s.extract 0 n) n (by rw [ByteArray.size_extract]; omega) (by omega) (by omega))
        rw [thistleref01_Prev.j0]
        rw [if_neg (by decide), if_neg h3, if_pos (by omega), if_pos (by omega), Int.toNat_natCast]

end Go.Proofs.YtaipokmbgcmciaaDoor.Q
