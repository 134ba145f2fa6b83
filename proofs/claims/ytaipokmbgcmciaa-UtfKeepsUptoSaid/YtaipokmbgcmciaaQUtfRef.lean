/- The law's plain side (UtfRef): what the printed functions come to; each theorem states its own conditions. -/
import Derived.Test.YtaipokmbgcmciaaPKx2
import Derived.Test.YtaipokmbgcmciaaBUtfScan
namespace Go.Proofs.Ytaipokmbgcmciaa.Q
open Go.RowKit Go.Proofs.YtaipokmbgcmciaaW.PrintWords Go.Proofs.YtaipokmbgcmciaaW.PrintLast Go.Proofs.YtaipokmbgcmciaaW.PrintMore Go.Proofs.Ytaipokmbgcmciaa.PK Go.Proofs.Ytaipokmbgcmciaa.B
set_option linter.unusedVariables false
set_option linter.unusedSimpArgs false
open UM
/-- What the reference says of a character at a place. -/
def chrAt (s : ByteArray) (i : Nat) : Int × Int := if dec (s.data.toList.drop i) = (65533, 1) then (0, 0) else (((dec (s.data.toList.drop i)).1 : Int), ((dec (s.data.toList.drop i)).2 : Int))
theorem wrap64_of (x : Int) (h : -9223372036854775808 ≤ x ∧ x ≤ 9223372036854775807) : wrap64 x = x := by unfold wrap64; omega
theorem wrap32_of (x : Int) (h : -2147483648 ≤ x ∧ x ≤ 2147483647) : wrap32 x = x := by unfold wrap32; omega
theorem l0_step (k : Nat) (s : ByteArray) (i n least v j c : Int) (h0 : 0 ≤ i) (hj : 1 ≤ j) (hn : j < n) (hs : s.size ≤ 1073741824) (hi : i + j < s.size) (hv : 0 ≤ v ∧ v < 16777216) (hc : bt s (i + j) = c) (h1 : 128 ≤ c) (h2 : c < 192) :
    thistleref01_char.l0 (k + 1) s i n least v j = thistleref01_char.l0 k s i n least (v * 64 + c - 128) (j + 1) := by
  conv => lhs; unfold thistleref01_char.l0
  rw [wrap64_of (i + j) (by omega), hc, wrap64_of c (by omega), if_pos hn, if_pos (by omega), if_pos hi, if_neg (by omega), if_neg (by omega), wrap64_of (v * 64) (by omega), wrap64_of (v * 64 + c) (by omega), wrap64_of (v * 64 + c - 128) (by omega), wrap64_of (j + 1) (by omega)]
theorem l0_stop (k : Nat) (s : ByteArray) (i n least v j c : Int) (h0 : 0 ≤ i) (hj : 1 ≤ j) (hn : j < n) (hs : s.size ≤ 1073741824) (hi : i + j < s.size) (hc : bt s (i + j) = c) (h1 : c < 128 ∨ 192 ≤ c) (h2 : 0 ≤ c ∧ c < 256) :
    thistleref01_char.l0 (k + 1) s i n least v j = some (0, 0) := by
  conv => lhs; unfold thistleref01_char.l0
  rw [wrap64_of (i + j) (by omega), hc, wrap64_of c (by omega), if_pos hn, if_pos (by omega), if_pos hi]
  rcases h1 with h | h
  · rw [if_pos h]
  · rw [if_neg (by omega), if_pos (by omega)]
theorem l0_bad (k : Nat) (s : ByteArray) (i n least v : Int) (h : v < least ∨ v > 1114111 ∨ (v ≥ 55296 ∧ v ≤ 57343)) : thistleref01_char.l0 (k + 1) s i n least v n = some (0, 0) := by
  conv => lhs; unfold thistleref01_char.l0
  rw [if_neg (by omega)]
  by_cases h1 : v < least
  · rw [if_pos h1]
  · rw [if_neg h1]
    by_cases h2 : v > 1114111
    · rw [if_pos h2]
    · rw [if_neg h2, if_pos (by omega), if_pos (by omega)]
theorem l0_char (k : Nat) (s : ByteArray) (i n least v : Int) (h1 : least ≤ v) (h0 : 0 ≤ v) (h2 : v ≤ 1114111) (h3 : v < 55296 ∨ v > 57343) : thistleref01_char.l0 (k + 1) s i n least v n = some (v, n) := by
  conv => lhs; unfold thistleref01_char.l0
  rw [if_neg (by omega), if_neg (by omega), if_neg (by omega), wrap32_of v (by omega)]
  by_cases h4 : v ≥ 55296
  · rw [if_pos h4, if_neg (by omega)]
  · rw [if_neg h4]
theorem ref_char (s : ByteArray) (i : Nat) (hi : i < s.size) (hs : s.size ≤ 1073741824) : thistleref01_char.f 12 s (i : Int) = some (chrAt s i) := by
  have hb : ∀ k : Nat, bt s (((i + k : Nat) : Int)) = (b (s.data.toList.drop i) k : Int) := fun k => by rw [bt_list, b_drop]
  have h0 := hb 0; have h1 := hb 1; have h2 := hb 2; have h3 := hb 3
  have l0 := b_lt (s.data.toList.drop i) 0; have l1 := b_lt (s.data.toList.drop i) 1; have l2 := b_lt (s.data.toList.drop i) 2; have l3 := b_lt (s.data.toList.drop i) 3
  have hlen : (s.data.toList.drop i).length = s.size - i := by rw [List.length_drop, size_list]
  have hor := char_or (n := (s.data.toList.drop i).length) (b0 := b (s.data.toList.drop i) 0) (b1 := b (s.data.toList.drop i) 1) (b2 := b (s.data.toList.drop i) 2) (b3 := b (s.data.toList.drop i) 3) (by omega)
  have hdec : dec (s.data.toList.drop i) = Lib.decodeN (s.data.toList.drop i).length (b (s.data.toList.drop i) 0) (b (s.data.toList.drop i) 1) (b (s.data.toList.drop i) 2) (b (s.data.toList.drop i) 3) := rfl
  unfold chrAt
  rw [hdec]
  rw [hlen] at hor ⊢
  generalize b (s.data.toList.drop i) 0 = b0 at *
  generalize b (s.data.toList.drop i) 1 = b1 at *
  generalize b (s.data.toList.drop i) 2 = b2 at *
  generalize b (s.data.toList.drop i) 3 = b3 at *
  clear hdec hb
  simp only [Nat.add_zero] at h0
  have hbad : (∀ c w, ¬ IsChar (s.size - i) b0 b1 b2 b3 c w) → Lib.decodeN (s.size - i) b0 b1 b2 b3 = (65533, 1) := fun h => hor.resolve_right (h _ _)
  have hnot : ∀ c w, IsChar (s.size - i) b0 b1 b2 b3 c w → some ((c : Int), (w : Int)) = some (if Lib.decodeN (s.size - i) b0 b1 b2 b3 = (65533, 1) then ((0 : Int), (0 : Int)) else (((Lib.decodeN (s.size - i) b0 b1 b2 b3).1 : Int), ((Lib.decodeN (s.size - i) b0 b1 b2 b3).2 : Int))) := by
    intro c w h
    rw [of_char h, if_neg (fun e => not_char h (by simpa using e))]
  have e1 : bt s ((i : Int) + 1) = b1 := h1
  have e2 : bt s ((i : Int) + 2) = b2 := h2
  have e3 : bt s ((i : Int) + 3) = b3 := h3
  clear h1 h2 h3 hor
  unfold thistleref01_char.f
  rw [if_pos (by omega), if_pos (by omega), h0, wrap64_of _ (by omega)]
  by_cases c0 : b0 < 128
  · rw [if_pos (by omega), wrap32_of _ (by omega)]
    exact hnot b0 1 ⟨⟨by omega, by omega⟩, .inl ⟨rfl, c0, rfl⟩⟩
  rw [if_neg (by omega)]
  by_cases c1 : b0 < 192
  · rw [if_neg (by omega), hbad (fun c w h => by obtain ⟨_, h⟩ := h; omega), if_pos rfl]
    simp only [thistleref01_char.j0]
    rw [if_neg (by omega)]
    simp only [thistleref01_char.j1]
    rw [if_pos (by omega)]
    simp only [thistleref01_char.j2]
    rfl
  by_cases c2 : b0 < 224
  · rw [if_neg (by omega)]
    simp only [thistleref01_char.j0]
    rw [if_neg (by omega)]
    simp only [thistleref01_char.j1]
    rw [if_neg (by omega), if_neg (by omega), wrap64_of _ (by omega), wrap64_of _ (by omega)]
    simp only [thistleref01_char.j2]
    by_cases f : i + 2 ≤ s.size
    · rw [decide_eq_false (by omega), if_neg (by decide)]
      by_cases g : 128 ≤ b1 ∧ b1 < 192
      · rw [l0_step _ _ _ _ _ _ _ b1 (by omega) (by omega) (by omega) hs (by omega) (by omega) e1 (by omega) (by omega)]
        by_cases m : 128 ≤ (b0 - 192) * 64 + (b1 - 128)
        · rw [show ((1 : Int) + 1) = 2 from rfl, l0_char _ _ _ _ _ _ (by omega) (by omega) (by omega) (by omega)]
          have := hnot ((b0 - 192) * 64 + (b1 - 128)) 2 ⟨⟨by omega, by omega⟩, .inr (.inl ⟨rfl, by omega, by omega, by omega, rfl, m⟩)⟩
          rw [← this]
          simp only [Option.some.injEq, Prod.mk.injEq]
          omega
        · rw [show ((1 : Int) + 1) = 2 from rfl, l0_bad _ _ _ _ _ _ (by omega), hbad (fun c w h => by obtain ⟨_, h⟩ := h; omega), if_pos rfl]
      · rw [l0_stop _ _ _ _ _ _ _ b1 (by omega) (by omega) (by omega) hs (by omega) e1 (by omega) (by omega), hbad (fun c w h => by obtain ⟨_, h⟩ := h; omega), if_pos rfl]
    · rw [decide_eq_true (by omega), if_pos rfl, hbad (fun c w h => by obtain ⟨h1, h⟩ := h; omega), if_pos rfl]
  rw [if_pos (by omega)]
  by_cases c3 : b0 < 240
  · simp only [thistleref01_char.j0]
    rw [if_neg (by omega)]
    simp only [thistleref01_char.j1]
    rw [if_neg (by omega), if_neg (by omega), wrap64_of _ (by omega), wrap64_of _ (by omega)]
    simp only [thistleref01_char.j2]
    by_cases f : i + 3 ≤ s.size
    · rw [decide_eq_false (by omega), if_neg (by decide)]
      by_cases g : 128 ≤ b1 ∧ b1 < 192
      · rw [l0_step _ _ _ _ _ _ _ b1 (by omega) (by omega) (by omega) hs (by omega) (by omega) e1 (by omega) (by omega), show ((1 : Int) + 1) = 2 from rfl]
        by_cases g2 : 128 ≤ b2 ∧ b2 < 192
        · rw [l0_step _ _ _ _ _ _ _ b2 (by omega) (by omega) (by omega) hs (by omega) (by omega) e2 (by omega) (by omega), show ((2 : Int) + 1) = 3 from rfl]
          by_cases m : 2048 ≤ (b0 - 224) * 4096 + (b1 - 128) * 64 + (b2 - 128) ∧ ((b0 - 224) * 4096 + (b1 - 128) * 64 + (b2 - 128) < 55296 ∨ 57344 ≤ (b0 - 224) * 4096 + (b1 - 128) * 64 + (b2 - 128))
          · rw [l0_char _ _ _ _ _ _ (by omega) (by omega) (by omega) (by omega)]
            have := hnot ((b0 - 224) * 4096 + (b1 - 128) * 64 + (b2 - 128)) 3 ⟨⟨by omega, by omega⟩, .inr (.inr (.inl ⟨rfl, by omega, by omega, by omega, by omega, rfl, m.1, m.2⟩))⟩
            rw [← this]
            simp only [Option.some.injEq, Prod.mk.injEq]
            omega
          · rw [l0_bad _ _ _ _ _ _ (by omega), hbad (fun c w h => by obtain ⟨_, h⟩ := h; omega), if_pos rfl]
        · rw [l0_stop _ _ _ _ _ _ _ b2 (by omega) (by omega) (by omega) hs (by omega) e2 (by omega) (by omega), hbad (fun c w h => by obtain ⟨_, h⟩ := h; omega), if_pos rfl]
      · rw [l0_stop _ _ _ _ _ _ _ b1 (by omega) (by omega) (by omega) hs (by omega) e1 (by omega) (by omega), hbad (fun c w h => by obtain ⟨_, h⟩ := h; omega), if_pos rfl]
    · rw [decide_eq_true (by omega), if_pos rfl, hbad (fun c w h => by obtain ⟨h1, h⟩ := h; omega), if_pos rfl]
  simp only [thistleref01_char.j0]
  rw [if_pos (by omega)]
  simp only [thistleref01_char.j1]
  rw [if_neg (by omega)]
  by_cases c4 : b0 < 248
  · rw [if_neg (by omega), wrap64_of _ (by omega), wrap64_of _ (by omega)]
    simp only [thistleref01_char.j2]
    by_cases f : i + 4 ≤ s.size
    · rw [decide_eq_false (by omega), if_neg (by decide)]
      by_cases g : 128 ≤ b1 ∧ b1 < 192
      · rw [l0_step _ _ _ _ _ _ _ b1 (by omega) (by omega) (by omega) hs (by omega) (by omega) e1 (by omega) (by omega), show ((1 : Int) + 1) = 2 from rfl]
        by_cases g2 : 128 ≤ b2 ∧ b2 < 192
        · rw [l0_step _ _ _ _ _ _ _ b2 (by omega) (by omega) (by omega) hs (by omega) (by omega) e2 (by omega) (by omega), show ((2 : Int) + 1) = 3 from rfl]
          by_cases g3 : 128 ≤ b3 ∧ b3 < 192
          · rw [l0_step _ _ _ _ _ _ _ b3 (by omega) (by omega) (by omega) hs (by omega) (by omega) e3 (by omega) (by omega), show ((3 : Int) + 1) = 4 from rfl]
            by_cases m : 65536 ≤ (b0 - 240) * 262144 + (b1 - 128) * 4096 + (b2 - 128) * 64 + (b3 - 128) ∧ (b0 - 240) * 262144 + (b1 - 128) * 4096 + (b2 - 128) * 64 + (b3 - 128) ≤ 1114111
            · rw [l0_char _ _ _ _ _ _ (by omega) (by omega) (by omega) (by omega)]
              have := hnot ((b0 - 240) * 262144 + (b1 - 128) * 4096 + (b2 - 128) * 64 + (b3 - 128)) 4 ⟨⟨by omega, by omega⟩, .inr (.inr (.inr ⟨rfl, by omega, by omega, by omega, by omega, by omega, rfl, m.1, m.2⟩))⟩
              rw [← this]
              simp only [Option.some.injEq, Prod.mk.injEq]
              omega
            · rw [l0_bad _ _ _ _ _ _ (by omega), hbad (fun c w h => by obtain ⟨_, h⟩ := h; omega), if_pos rfl]
          · rw [l0_stop _ _ _ _ _ _ _ b3 (by omega) (by omega) (by omega) hs (by omega) e3 (by omega) (by omega), hbad (fun c w h => by obtain ⟨_, h⟩ := h; omega), if_pos rfl]
        · rw [l0_stop _ _ _ _ _ _ _ b2 (by omega) (by omega) (by omega) hs (by omega) e2 (by omega) (by omega), hbad (fun c w h => by obtain ⟨_, h⟩ := h; omega), if_pos rfl]
      · rw [l0_stop _ _ _ _ _ _ _ b1 (by omega) (by omega) (by omega) hs (by omega) e1 (by omega) (by omega), hbad (fun c w h => by obtain ⟨_, h⟩ := h; omega), if_pos rfl]
    · rw [decide_eq_true (by omega), if_pos rfl, hbad (fun c w h => by obtain ⟨h1, h⟩ := h; omega), if_pos rfl]
  · rw [if_pos (by omega), hbad (fun c w h => by obtain ⟨_, h⟩ := h; omega), if_pos rfl]
    simp only [thistleref01_char.j2]
    rfl
theorem ref_char_ev (s : ByteArray) (i : Nat) (hi : i < s.size) (hs : s.size ≤ 1073741824) : Ev (fun k => thistleref01_char.f k s (i : Int)) (chrAt s i) :=
  Ev.of (fun k => thistleref01_char.mono _ _ k) (ref_char s i hi hs)

end Go.Proofs.Ytaipokmbgcmciaa.Q
