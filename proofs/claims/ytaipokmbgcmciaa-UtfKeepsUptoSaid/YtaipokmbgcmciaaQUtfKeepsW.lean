/- The law's plain side (UtfKeepsW): what the printed functions come to; each theorem states its own conditions. -/
import Derived.Test.YtaipokmbgcmciaaPKx0
import Derived.Test.YtaipokmbgcmciaaPKx1
import Derived.Test.YtaipokmbgcmciaaPKx2
import Derived.Test.YtaipokmbgcmciaaPKx3
import Derived.Test.YtaipokmbgcmciaaPKx4
import Derived.Test.YtaipokmbgcmciaaBAppKeep
import Derived.Test.YtaipokmbgcmciaaQUtfKeepsM
import Derived.Test.YtaipokmbgcmciaaQUtfKeepsN
import Derived.Test.YtaipokmbgcmciaaQUtfKeepsA
import Derived.Test.YtaipokmbgcmciaaQUtfKeepsB
import Derived.Test.YtaipokmbgcmciaaQUtfKeepsJ
import Derived.Test.YtaipokmbgcmciaaQUtfKeepsK
import Derived.Deep.RegionHeld3
import Derived.OneCell
import Derived.Laws.MakeOwn
import Derived.StillTailTactics
import Derived.Deep.QuietTactic
import Derived.BigQuiet
namespace Go.Proofs.Ytaipokmbgcmciaa.Q
open Go.RowKit Go.Proofs.YtaipokmbgcmciaaW.PrintWords Go.Proofs.YtaipokmbgcmciaaW.PrintLast Go.Proofs.YtaipokmbgcmciaaW.PrintMore Go.Proofs.Ytaipokmbgcmciaa.PK Go.Proofs.Ytaipokmbgcmciaa.B
set_option linter.unusedVariables false
set_option linter.unusedSimpArgs false
theorem two_cells (w : World) (a b : Value) (t : TypeId) : ∀ j u, [a, b][j]? = some u → (w.alloc (.cells #[a, b] t)).cell? ((⟨w.heap.size, 0, none⟩ : Addr).add j) = some u := by
  intro j u hj
  rw [add_plain, blk_cell (heap_alloc_new _ _)]
  match j, hj with
  | 0, h => simpa using h
  | 1, h => simpa using h
  | j + 2, h => simp at h
theorem own_of_R11 {k : IntKind} {e : TypeId} {W W' : World} {w10 : World} {o : Obj} {ok : Nat → Prop} {v : Value} {r : List Int} (h : Kd.R (Kd.int k) e W (w10.alloc o).heap.size ok v r) (hb : Below W.heap.size W W') : W'.ownsRow (w10.heap.size + 1) e 1 v r.length (nums k r) := by
  have ho := Kd.own_of_R h
  have h1 : (w10.alloc o).heap.size = w10.heap.size + 1 := by simp
  rw [h1] at ho
  exact own_move ho (fun b hbb => hb.block b (own_lt ho b hbb))
set_option maxHeartbeats 8000000 in
set_option maxRecDepth 100000 in
theorem keeps_calls (k : Nat) (s : ByteArray) (A : Option Addr) (c : Nat) (l : List Int) (w : World) (hr : Kd.C (Kd.int .i32) w A l.length l) (hc : l.length ≤ c) (hl : l.length ≤ 1048576)
    (U R P : List Int) (T F : ByteArray) (tn : Int) (ap : Bool) (h4 : thistlelaw01_awake.f = some true) (h5 : thistlelaw01_copied.f l = some l) (h6 : utf_Text.f l = some (T, tn)) (h9 : thistleref01_Text.f k l = some (T, tn))
    (h7 : utf_Apart.f k l = some ap) (h10 : thistleref01_Apart.f k l = some ap) (h8 : utf_FromRunes.f l = some F) (h11 : thistleref01_FromRunes.f k l = some F) (h12 : thistlelaw01_same.f k l l = some true)
    (h13 : utf_Units.f s = some U) (h15 : thistleref01_Units.f k s = some U) (h14 : utf_Runes.f s = some R) (h16 : thistleref01_Runes.f k s = some R) (hU : thistlelaw01_same.f k U U = some true) (hR : thistlelaw01_same.f k R R = some true)
    (h17 : utf_Places.f s = some P) (h21 : thistleref01_Places.f k s = some P) (h20 : thistlelaw01_sameNums.f k P P = some true) (hUl : U.length ≤ 16777216) (hRl : R.length ≤ 16777216) (hPl : P.length ≤ 16777216) :
    Calls Try.prog 3 #[.string s, .slice A l.length c] w fun e w' => e = .returned (.bool true) ∧ Below w.heap.size w w' := by
  obtain ⟨i1, hi1, hzz⟩ := Option.map_eq_some_iff.1 info21
  simp only [Prod.mk.injEq] at hzz
  have HI1_ := Aside0.mk (show Try.prog.info? 21 = some i1 ∧ i1.zero = some (.int .i32 0) ∧ i1.size = 1 ∧ i1.bytes = 4 from ⟨hi1, hzz⟩)
  have HR := Aside0.mk hr
  have HC := Aside0.mk hc
  have HL := Aside0.mk hl
  have E4 := Aside0.mk h4
  have E5 := Aside0.mk h5
  have E6 := Aside0.mk (And.intro h6 h9)
  have E7 := Aside0.mk (And.intro h7 h10)
  have E8 := Aside0.mk (And.intro h8 h11)
  have E12 := Aside0.mk h12
  have E13 := Aside0.mk (And.intro h13 h15)
  have E14 := Aside0.mk (And.intro h14 h16)
  have EU := Aside0.mk (And.intro hU hUl)
  have ER := Aside0.mk (And.intro hR hRl)
  have E17 := Aside0.mk (And.intro h17 h21)
  have E20 := Aside0.mk (And.intro h20 hPl)
  have HB := Aside0.mk (Below.refl w.heap.size w)
  obtain ⟨n, hn⟩ : ∃ n, n = l.length := ⟨_, rfl⟩
  have HN := Aside0.mk hn
  have CO := Aside0.mk (show ∀ W : World, Kd.C (Kd.int .i32) W A l.length l → Calls Try.prog 5 #[.slice A n c] W fun e w' => ∃ v0_ : Value, e = .returned v0_ ∧ w'.ownsRow W.heap.size 21 1 v0_ n (nums .i32 l) ∧ Below W.heap.size W w' from fun W h => by
    rw [hn]
    exact (thistlelaw01_copied.calls A c l l W h hc h5).mono fun e w' ⟨v, h1, h2, h3⟩ => ⟨v, h1, Kd.own_of_R h2, h3⟩)
  have C6 := Aside0.mk (show ∀ (W : World) (A : Option Addr) (c : Nat), Kd.C (Kd.int .i32) W A l.length l → n ≤ c → Calls Try.prog 6 #[.slice A n c] W fun e w' => e = .returned (.tuple #[.string T, .int .i64 tn]) ∧ Below W.heap.size W w' from by rw [hn]; exact fun W A c h h1 => (utf_Text.calls A c l T tn W h h1 h6).mono fun e w2 h2 => ⟨h2.1, h2.2⟩)
  have C7 := Aside0.mk (show ∀ (W : World) (A : Option Addr) (c : Nat), Kd.C (Kd.int .i32) W A l.length l → n ≤ c → Calls Try.prog 7 #[.slice A n c] W fun e w' => e = .returned (.bool ap) ∧ Below W.heap.size W w' from by rw [hn]; exact fun W A c h h1 => (utf_Apart.calls k A c l ap W h h1 h7).mono fun e w2 h2 => ⟨h2.1, h2.2⟩)
  have C8 := Aside0.mk (show ∀ (W : World) (A : Option Addr) (c : Nat), Kd.C (Kd.int .i32) W A l.length l → n ≤ c → Calls Try.prog 8 #[.slice A n c] W fun e w' => e = .returned (.string F) ∧ Below W.heap.size W w' from by rw [hn]; exact fun W A c h h1 => (utf_FromRunes.calls A c l F W h h1 h8).mono fun e w2 h2 => ⟨h2.1, drawn_below h2.2⟩)
  have C9 := Aside0.mk (show ∀ (W : World) (A : Option Addr) (c : Nat), Kd.C (Kd.int .i32) W A l.length l → n ≤ c → Calls Try.prog 9 #[.slice A n c] W fun e w' => e = .returned (.tuple #[.string T, .int .i64 tn]) ∧ Below W.heap.size W w' from by rw [hn]; exact fun W A c h h1 => (thistleref01_Text.calls k A c l T tn W h h1 h9).mono fun e w2 h2 => ⟨h2.1, h2.2⟩)
  have C10 := Aside0.mk (show ∀ (W : World) (A : Option Addr) (c : Nat), Kd.C (Kd.int .i32) W A l.length l → n ≤ c → Calls Try.prog 10 #[.slice A n c] W fun e w' => e = .returned (.bool ap) ∧ Below W.heap.size W w' from by rw [hn]; exact fun W A c h h1 => (thistleref01_Apart.calls k A c l ap W h h1 h10).mono fun e w2 h2 => ⟨h2.1, h2.2⟩)
  have C11 := Aside0.mk (show ∀ (W : World) (A : Option Addr) (c : Nat), Kd.C (Kd.int .i32) W A l.length l → n ≤ c → Calls Try.prog 11 #[.slice A n c] W fun e w' => e = .returned (.string F) ∧ Below W.heap.size W w' from by rw [hn]; exact fun W A c h h1 => (thistleref01_FromRunes.calls k A c l F W h h1 h11).mono fun e w2 h2 => ⟨h2.1, h2.2⟩)
  have C12 := Aside0.mk (show ∀ (W : World) (A B : Option Addr) (c d : Nat), Kd.C (Kd.int .i32) W A l.length l → n ≤ c → Kd.C (Kd.int .i32) W B l.length l → n ≤ d → Calls Try.prog 12 #[.slice A n c, .slice B n d] W fun e w' => e = .returned (.bool true) ∧ Below W.heap.size W w' from by rw [hn]; exact fun W A B c d h h1 h2 h3 => (thistlelaw01_same.calls k A c l B d l true W h h1 h2 h3 h12).mono fun e w2 h4 => ⟨h4.1, drawn_below h4.2⟩)
  have HCn := Aside0.mk (show n ≤ c by omega)
  have HK := Aside0.mk (show n + 2 ≤ maxLen ∧ (n + 2) * 4 ≤ 140737488355328 by unfold maxLen; omega)
  have hz1 := eq_true (Int.ofNat_lt.2 (show n < n + 2 by omega))
  have hz2 := eq_true (show ((n : Int) + 1 < ((n + 2 : Nat) : Int)) by omega)
  have hz3 := eq_true (show 0 ≤ (n : Int) + 1 by omega)
  obtain ⟨n1, hn1⟩ : ∃ n1, n1 = n + 1 := ⟨_, rfl⟩
  have hz4 : ((n : Int) + 1).toNat = n1 := by omega
  have HN1 := Aside0.mk hn1
  clear hn1
  have hz5 : wrap64 ((n : Int) + 1) = (n : Int) + 1 := by unfold wrap64; omega
  rw [← hn]
  clear hn hi1 hzz hr hc hl h4 h5 h6 h7 h8 h9 h10 h11 h12 h13 h14 h15 h16 h17 h20 h21 hU hR hUl hRl hPl
  have K13a := Aside0.mk True.intro
  have K17a := Aside0.mk True.intro
  have K17b := Aside0.mk True.intro
  have K13b := Aside0.mk True.intro
  have K14a := Aside0.mk True.intro
  have K14b := Aside0.mk True.intro
  have K15a := Aside0.mk True.intro
  have K15b := Aside0.mk True.intro
  have K16a := Aside0.mk True.intro
  have K16b := Aside0.mk True.intro
  go_enter Try.func3, Try.ntmps3
  go_wp2_with (first
    | (go_at_call 4; refine (thistlelaw01_awake.calls true _ E4.out).mono ?_; rintro e w1 ⟨rfl, hb⟩; have HB1 := Aside0.mk hb; clear hb)
    | (go_at_call 5; refine (CO.out _ (Kd.C_below HR.out HB1.out)).mono ?_; rintro e w2 ⟨v2, rfl, ho2, hb⟩; have HB2 := Aside0.mk (below_step HB1.out hb); have HS1 := Aside0.mk (below_size HB1.out); clear hb; obtain ⟨A2, c2, hv2⟩ := own_slice ho2; subst hv2; have HO2 := Aside0.mk ho2; clear ho2)
    | (go_at_call 6; refine (C6.out _ _ _ (Kd.C_below HD3.out.1 HX.out) hle3).mono ?_; rintro e w4 ⟨rfl, hb⟩; have n0_ := Aside0.mk (below_step HX.out hb); clear HX hb; have HX := n0_; clear n0_)
    | (go_at_call 7; refine (C7.out _ _ _ (Kd.C_below HD3.out.1 HX.out) hle3).mono ?_; rintro e w5 ⟨rfl, hb⟩; have n0_ := Aside0.mk (below_step HX.out hb); clear HX hb; have HX := n0_; clear n0_)
    | (go_at_call 8; refine (C8.out _ _ _ (Kd.C_below HD3.out.1 HX.out) hle3).mono ?_; rintro e w6 ⟨rfl, hb⟩; have n0_ := Aside0.mk (below_step HX.out hb); clear HX hb; have HX := n0_; clear n0_)
    | (go_at_call 9; refine (C9.out _ _ _ (Kd.C_below (Kd.C_below HR.out HB3.out) HX.out) HCn.out).mono ?_; rintro e w4 ⟨rfl, hb⟩; have n0_ := Aside0.mk (below_step HX.out hb); clear HX hb; have HX := n0_; clear n0_)
    | (go_at_call 10; refine (C10.out _ _ _ (Kd.C_below (Kd.C_below HR.out HB3.out) HX.out) HCn.out).mono ?_; rintro e w4 ⟨rfl, hb⟩; have n0_ := Aside0.mk (below_step HX.out hb); clear HX hb; have HX := n0_; clear n0_)
    | (go_at_call 11; refine (C11.out _ _ _ (Kd.C_below (Kd.C_below HR.out HB3.out) HX.out) HCn.out).mono ?_; rintro e w4 ⟨rfl, hb⟩; have n0_ := Aside0.mk (below_step HX.out hb); clear HX hb; have HX := n0_; clear n0_)
    | (go_at_call 12; refine (C12.out _ _ _ _ _ (Kd.C_below HD3.out.1 HX.out) hle3 (Kd.C_below (Kd.C_below HR.out HB3.out) HX.out) HCn.out).mono ?_; rintro e w4 ⟨rfl, hb⟩; have n0_ := Aside0.mk (below_step HX.out hb); clear HX hb; have HX := n0_; clear n0_; have hcx := cell_on HX.out HD3.out.2.1; have hcy := cell_on HX.out HD3.out.2.2.1; rw [← HN1.out] at hcy)
    | (go_at_call 13; clear K13a; refine (utf_Units.calls s U _ E13.out.1).mono ?_; rintro e w7 ⟨v7, rfl, hr, hb⟩; obtain ⟨A7, c7, hv⟩ := Kd.R_slice hr; subst hv; have S7 := Aside0.mk (And.intro hr hb); clear hr hb)
    | (go_at_call 13; clear K13b; refine (utf_Units.calls s U _ E13.out.1).mono ?_; rintro e w8 ⟨v8, rfl, hr, hb⟩; obtain ⟨A8, c8, hv⟩ := Kd.R_slice hr; subst hv; have S8 := Aside0.mk (And.intro hr hb); clear hr hb)
    | (go_at_call 14; clear K14a; refine (utf_Runes.calls s R _ E14.out.1).mono ?_; rintro e w9 ⟨v9, rfl, hr, hb⟩; obtain ⟨A9, c9, hv⟩ := Kd.R_slice hr; subst hv; have S9 := Aside0.mk (And.intro hr hb); clear hr hb)
    | (go_at_call 14; clear K14b; refine (utf_Runes.calls s R _ E14.out.1).mono ?_; rintro e w10 ⟨v10, rfl, hr, hb⟩; obtain ⟨A10, c10, hv⟩ := Kd.R_slice hr; subst hv; have S10 := Aside0.mk (And.intro hr hb); clear hr hb)
    | (go_at_call 15; clear K15a; refine (thistleref01_Units.calls k s U _ E13.out.2).mono ?_; rintro e w11 ⟨v11, rfl, hr, hb⟩; obtain ⟨A11, c11, hv⟩ := Kd.R_slice hr; subst hv; have S11 := Aside0.mk (And.intro hr hb); clear hr hb)
    | (go_at_call 15; clear K15b; refine (thistleref01_Units.calls k s U _ E13.out.2).mono ?_; rintro e w12 ⟨v12, rfl, hr, hb⟩; obtain ⟨A12, c12, hv⟩ := Kd.R_slice hr; subst hv; have S12 := Aside0.mk (And.intro hr hb); clear hr hb)
    | (go_at_call 16; clear K16a; refine (thistleref01_Runes.calls k s R _ E14.out.2).mono ?_; rintro e w13 ⟨v13, rfl, hr, hb⟩; obtain ⟨A13, c13, hv⟩ := Kd.R_slice hr; subst hv; have S13 := Aside0.mk (And.intro hr hb); clear hr hb)
    | (go_at_call 16; clear K16b; refine (thistleref01_Runes.calls k s R _ E14.out.2).mono ?_; rintro e w14 ⟨v14, rfl, hr, hb⟩; obtain ⟨A14, c14, hv⟩ := Kd.R_slice hr; subst hv; have S14 := Aside0.mk (And.intro hr hb); clear hr hb)
    | ((with_reducible refine gate_builtin (b := .append) (xs := #[.tmp 21, .tmp 22]) rfl ?_); at_builtin; refine wpList_append_own_at _ rfl (.tmp 21) (.tmp 22) 22 rfl w.heap.size 21 i1 (.int .i32 0) 1 4 Try.underlying22 HI1_.out.1 HI1_.out.2.1 HI1_.out.2.2.1 HI1_.out.2.2.2 rfl (by decide) (.slice A2 n c2) n (nums .i32 l) rfl ((own_less HO2.out HS1.out).alloc _) ⟨w2.heap.size, 0, none⟩ 2 2 [.int .i32 28673, .int .i32 28674] rfl rfl (two_cells _ _ _ _) (by simp [Value.oneCell']) HK.out.1 HK.out.2 (Nat.le_trans (below_size HB2.out) (by simp)) ?_; intro v3 w3 ho3 hg3 _ hat3; have H3 := Aside0.mk (And.intro ho3 (And.intro hg3 hat3)); obtain ⟨ad3, c3, hv3, hc3, hC3, hx3, hy3, hb3⟩ := tight_is HN.out ho3; subst hv3; have HD3 := Aside0.mk (And.intro hC3 (And.intro hx3 (And.intro hy3 (And.intro hb3 hc3)))); have hle3 : n ≤ c3 := Nat.le_trans (Nat.le_add_right n 2) hc3; have hn3 := eq_true hle3; have hn3' := eq_true (Int.ofNat_le.2 hle3); have hn0' := eq_true (Int.natCast_nonneg n); have HB3 := Aside0.mk (tight_below HB2.out HS1.out HO2.out _ hg3); have HX := Aside0.mk (Below.refl w3.heap.size w3); clear ho3 hg3 hat3 hc3 hC3 hx3 hy3 hb3))
  have hA := below_alloc (below_step (below_step (below_step S11.out.2 S12.out.2) S13.out.2) S14.out.2) (.cells #[.slice A11 U.length c11, .slice A12 U.length c12, .slice A13 R.length c13, .slice A14 R.length c14] 22)
  have hGot := (hA.block w10.heap.size (by simp)).trans (heap_alloc_new w10 _)
  have hWant := heap_alloc_new w14 (.cells #[.slice A11 U.length c11, .slice A12 U.length c12, .slice A13 R.length c13, .slice A14 R.length c14] 22)
  have B14 := below_alloc (Below.refl w14.heap.size w14) (.cells #[.slice A11 U.length c11, .slice A12 U.length c12, .slice A13 R.length c13, .slice A14 R.length c14] 22)
  have B13 := below_step S14.out.2 B14
  have B12 := below_step S13.out.2 B13
  have B11 := below_step S12.out.2 B12
  have B10 := below_step (below_alloc (Below.refl w10.heap.size w10) _) hA
  have B9 := below_step S10.out.2 B10
  have B8 := below_step S9.out.2 B9
  have B7 := below_step S8.out.2 B8
  have R7 := Kd.R_below S7.out.1 B7
  have R8 := Kd.R_below S8.out.1 B8
  have R9 := Kd.R_below S9.out.1 B9
  have R10 := Kd.R_below S10.out.1 B10
  have R11 := Kd.R_below S11.out.1 B11
  have R12 := Kd.R_below S12.out.1 B12
  have R13 := Kd.R_below S13.out.1 B13
  have R14 := Kd.R_below S14.out.1 B14
  have P7 := (span_of_R S7.out.1).below B7
  have P8 := (span_of_R S8.out.1).below B8
  have P9 := (span_of_R S9.out.1).below B9
  have P10 := (span_of_R S10.out.1).below B10
  have P11 := own_of_R11 S11.out.1 B11
  have P11w := fun b hb => Nat.lt_of_lt_of_le (own_lt (Kd.own_of_R S11.out.1) b hb) (below_size (below_step S12.out.2 (below_step S13.out.2 S14.out.2)))
  obtain ⟨W, hW⟩ : ∃ W, W = w14.alloc (.cells #[.slice A11 U.length c11, .slice A12 U.length c12, .slice A13 R.length c13, .slice A14 R.length c14] 22) := ⟨_, rfl⟩
  have hWs := below_size hA
  rw [← hW] at hA hGot hWant R7 R8 R9 R10 R11 R12 R13 R14 B7 P7 P8 P9 P10 P11 hWs ⊢
  have hWz : W.heap.size = w14.heap.size + 1 := by rw [hW]; simp
  have hlo : w10.heap.size < w14.heap.size := by have := below_size (below_step (below_step (below_step S11.out.2 S12.out.2) S13.out.2) S14.out.2); simp at this; omega
  have HSZ := Aside0.mk (And.intro hWz (And.intro hlo (And.intro (below_size S7.out.2) (And.intro (below_size S8.out.2) (And.intro (below_size S9.out.2) (below_size S10.out.2))))))
  have HPS := Aside0.mk (And.intro P7 (And.intro P8 (And.intro P9 (And.intro P10 (And.intro P11 P11w)))))
  clear P7 P8 P9 P10 P11 P11w hWs hWz hlo
  have HA := Aside0.mk hA
  have HGot := Aside0.mk hGot
  have HWant := Aside0.mk hWant
  have HRG := Aside0.mk (And.intro R7 (And.intro R8 (And.intro R9 R10)))
  have HRW := Aside0.mk (And.intro R11 (And.intro R12 (And.intro R13 R14)))
  have HB7 := Aside0.mk B7
  clear hW hA hGot hWant R7 R8 R9 R10 R11 R12 R13 R14 B7 B8 B9 B10 B11 B12 B13 B14
  go_loopw [15] (fun v15 wr => ∃ j : Int, v15 = .int .i64 j ∧ (j = 0 ∨ j = 1 ∨ j = 2 ∨ j = 3 ∨ j = 4) ∧ Aside0 (Below W.heap.size W wr)) (fun v15 _ => 4 - (intOf v15).toNat)
  case atStart => exact ⟨0, rfl, .inl rfl, ⟨Below.refl _ _⟩⟩
  case round =>
    obtain ⟨j, rfl, hj, HXW⟩ := hrel
    have hg := (HXW.out.block w10.heap.size (lt_of_block HGot.out)).trans HGot.out
    have hw := (HXW.out.block w14.heap.size (lt_of_block HWant.out)).trans HWant.out
    have hg0 : wr.cell? ⟨w10.heap.size, 0, none⟩ = some (.slice A7 U.length c7) := (blk_cell hg 0).trans rfl
    have hg1 : wr.cell? ⟨w10.heap.size, 1, none⟩ = some (.slice A8 U.length c8) := (blk_cell hg 1).trans rfl
    have hg2 : wr.cell? ⟨w10.heap.size, 2, none⟩ = some (.slice A9 R.length c9) := (blk_cell hg 2).trans rfl
    have hg3 : wr.cell? ⟨w10.heap.size, 3, none⟩ = some (.slice A10 R.length c10) := (blk_cell hg 3).trans rfl
    have hw0 : wr.cell? ⟨w14.heap.size, 0, none⟩ = some (.slice A11 U.length c11) := (blk_cell hw 0).trans rfl
    have hw1 : wr.cell? ⟨w14.heap.size, 1, none⟩ = some (.slice A12 U.length c12) := (blk_cell hw 1).trans rfl
    have hw2 : wr.cell? ⟨w14.heap.size, 2, none⟩ = some (.slice A13 R.length c13) := (blk_cell hw 2).trans rfl
    have hw3 : wr.cell? ⟨w14.heap.size, 3, none⟩ = some (.slice A14 R.length c14) := (blk_cell hw 3).trans rfl
    clear hg hw
    rcases hj with rfl | rfl | rfl | rfl | rfl
    · have r1 := Kd.R_reads' (Kd.R_below HRG.out.1 HXW.out)
      have r2 := Kd.R_reads' (Kd.R_below HRW.out.1 HXW.out)
      have HS := Aside0.mk (fun m => (thistlelaw01_same.calls k A7 c7 U A11 c11 U true (wr.drewN m) (Kd.C_drewN r1.2.2 m) r1.2.1 (Kd.C_drewN r2.2.2 m) r2.2.1 EU.out.1).mono fun e w' h => (And.intro h.1 h.2.out : e = Ending.returned (.bool true) ∧ ∃ q, w' = (wr.drewN m).drewN q))
      clear r1 r2
      go_wp2_with (go_quiet ((go_at_call 12; exact Calls.quiet_of (HS.out _))))
      exact ⟨⟨1, rfl, by simp, ⟨below_drewN_k HXW.out _⟩⟩, by simp [intOf]⟩
    · have r1 := Kd.R_reads' (Kd.R_below HRG.out.2.1 HXW.out)
      have r2 := Kd.R_reads' (Kd.R_below HRW.out.2.1 HXW.out)
      have HS := Aside0.mk (fun m => (thistlelaw01_same.calls k A8 c8 U A12 c12 U true (wr.drewN m) (Kd.C_drewN r1.2.2 m) r1.2.1 (Kd.C_drewN r2.2.2 m) r2.2.1 EU.out.1).mono fun e w' h => (And.intro h.1 h.2.out : e = Ending.returned (.bool true) ∧ ∃ q, w' = (wr.drewN m).drewN q))
      clear r1 r2
      go_wp2_with (go_quiet ((go_at_call 12; exact Calls.quiet_of (HS.out _))))
      exact ⟨⟨2, rfl, by simp, ⟨below_drewN_k HXW.out _⟩⟩, by simp [intOf]⟩
    · have r1 := Kd.R_reads' (Kd.R_below HRG.out.2.2.1 HXW.out)
      have r2 := Kd.R_reads' (Kd.R_below HRW.out.2.2.1 HXW.out)
      have HS := Aside0.mk (fun m => (thistlelaw01_same.calls k A9 c9 R A13 c13 R true (wr.drewN m) (Kd.C_drewN r1.2.2 m) r1.2.1 (Kd.C_drewN r2.2.2 m) r2.2.1 ER.out.1).mono fun e w' h => (And.intro h.1 h.2.out : e = Ending.returned (.bool true) ∧ ∃ q, w' = (wr.drewN m).drewN q))
      clear r1 r2
      go_wp2_with (go_quiet ((go_at_call 12; exact Calls.quiet_of (HS.out _))))
      exact ⟨⟨3, rfl, by simp, ⟨below_drewN_k HXW.out _⟩⟩, by simp [intOf]⟩
    · have r1 := Kd.R_reads' (Kd.R_below HRG.out.2.2.2 HXW.out)
      have r2 := Kd.R_reads' (Kd.R_below HRW.out.2.2.2 HXW.out)
      have HS := Aside0.mk (fun m => (thistlelaw01_same.calls k A10 c10 R A14 c14 R true (wr.drewN m) (Kd.C_drewN r1.2.2 m) r1.2.1 (Kd.C_drewN r2.2.2 m) r2.2.1 ER.out.1).mono fun e w' h => (And.intro h.1 h.2.out : e = Ending.returned (.bool true) ∧ ∃ q, w' = (wr.drewN m).drewN q))
      clear r1 r2
      go_wp2_with (go_quiet ((go_at_call 12; exact Calls.quiet_of (HS.out _))))
      exact ⟨⟨4, rfl, by simp, ⟨below_drewN_k HXW.out _⟩⟩, by simp [intOf]⟩
    · go_wp2_with (first
        | (go_at_call 17; clear K17a; refine (utf_Places.calls s P _ E17.out.1).mono ?_; rintro e w15 ⟨v15, rfl, hr, hb⟩; obtain ⟨A15, c15, hv⟩ := Kd.R_slice hr; subst hv; have S15 := Aside0.mk (And.intro hr hb); clear hr hb)
        | (go_at_call 17; clear K17b; refine (utf_Places.calls s P _ E17.out.1).mono ?_; rintro e w16 ⟨v16, rfl, hr, hb⟩; obtain ⟨A16, c16, hv⟩ := Kd.R_slice hr; subst hv; have S16 := Aside0.mk (And.intro hr hb); clear hr hb))
      have HE := Aside0.mk (below_step (below_step (below_step (below_step (below_step (below_step HB3.out HX.out) S7.out.2) HB7.out) HXW.out) S15.out.2) S16.out.2)
      have BW := Aside0.mk (below_step (below_step HXW.out S15.out.2) S16.out.2)
      have EP := Aside0.mk E20.out.2
      have HZ := Aside0.mk (show W.heap.size ≤ wr.heap.size ∧ wr.heap.size ≤ w15.heap.size ∧ w.heap.size ≤ w4.heap.size from ⟨below_size HXW.out, below_size S15.out.2, below_size (below_step HB3.out HX.out)⟩)
      have hH : Held w w10.heap.size wr.heap.size w15.heap.size w16.heap.size ⟨w14.heap.size, 0, none⟩ A11 c11 U (.slice A15 P.length c15) (.slice A16 P.length c16) P.length w16 := ⟨HE.out, cell_on BW.out ((blk_cell HWant.out 0).trans rfl), HSZ.out.2.1, (show w14.heap.size < wr.heap.size by have := HSZ.out.1; have := HZ.out.1; omega), own_move HPS.out.2.2.2.2.1 (fun b hb => BW.out.block b (own_lt HPS.out.2.2.2.2.1 b hb)), HPS.out.2.2.2.2.2, (span_of_R S15.out.1).below S16.out.2, span_of_R S16.out.1, HZ.out.2.1⟩
      have hd := (Below.refl w16.heap.size w16).drew
      have HH16 := Aside0.mk (hH.step hd)
      have AP := Aside0.mk (apart_held (hH.step hd) HZ.out.2.2 HSZ.out.2.2.1 HSZ.out.2.2.2.1 HSZ.out.2.2.2.2.1 HSZ.out.2.2.2.2.2 ((HPS.out.1.below BW.out).below hd) ((HPS.out.2.1.below BW.out).below hd) ((HPS.out.2.2.1.below BW.out).below hd) ((HPS.out.2.2.2.1.below BW.out).below hd) EU.out.2 EU.out.2 ER.out.2 ER.out.2 ((BW.out.block w10.heap.size (lt_of_block HGot.out)).trans HGot.out))
      clear hH hd
      have HZB := Aside0.mk (show w.heap.size ≤ wr.heap.size by have := HZ.out; have := below_size (below_step (below_step (below_step (below_step HB3.out HX.out) S7.out.2) HB7.out) HXW.out); omega)
      go_region_held3 (fun w' => w'.cell? ⟨w14.heap.size, 0, none⟩ = some (.slice A11 U.length c11)) (first | exact HH16.out.cell | exact HH17.out.cell | exact HH18.out.cell | exact HH19.out.cell | exact HH20.out.cell | exact HH21.out.cell | exact HH22.out.cell | exact HH23.out.cell) (first
        | (go_at_call 18; refine AP.out.mono ?_; rintro e w17 ⟨rfl, h17⟩; have HH17 := Aside0.mk h17; clear h17)
        | (go_at_call 19; refine (apartNums_held HH17.out HZB.out EP.out).mono ?_; rintro e w18 ⟨rfl, h18⟩; have HH18 := Aside0.mk h18; clear h18)
        | (go_at_call 13; refine (utf_Units.calls s U _ E13.out.1).mono ?_; rintro e w19 ⟨v19, rfl, hr, hb⟩; obtain ⟨A19, c19, hv⟩ := Kd.R_slice hr; subst hv; have HH19 := Aside0.mk (HH18.out.step hb); have R19 := Aside0.mk (Kd.R_reads' hr).2; clear hr hb)
        | (go_at_call 12; refine (thistlelaw01_same.calls k A19 c19 U A11 c11 U true _ R19.out.2 R19.out.1 HH19.out.reads.2 HH19.out.reads.1 EU.out.1).mono ?_; rintro e w20 ⟨rfl, hb⟩; have HH20 := Aside0.mk (HH19.out.step (drawn_below hb)); clear hb)
        | (go_at_call 17; refine (utf_Places.calls s P _ E17.out.1).mono ?_; rintro e w21 ⟨v21, rfl, hr, hb⟩; obtain ⟨A21, c21, hv⟩ := Kd.R_slice hr; subst hv; have HH21 := Aside0.mk (HH20.out.step hb); have R21 := Aside0.mk (Kd.R_reads' hr).2; clear hr hb)
        | (go_at_call 21; refine (thistleref01_Places.calls k s P _ E17.out.2).mono ?_; rintro e w22 ⟨v22, rfl, hr, hb⟩; obtain ⟨A22, c22, hv⟩ := Kd.R_slice hr; subst hv; have HH22 := Aside0.mk (HH21.out.step hb); have R22 := Aside0.mk (Kd.R_reads' hr).2; have R21b := Aside0.mk (Kd.C_below R21.out.2 hb); clear hr hb)
        | (go_at_call 20; refine (thistlelaw01_sameNums.calls k A21 c21 P A22 c22 P true _ R21b.out R21.out.1 R22.out.2 R22.out.1 E20.out.1).mono ?_; rintro e w23 ⟨rfl, hb⟩; have HH23 := Aside0.mk (HH22.out.step (drawn_below hb)); clear hb))
      go_wp2
      go_ret
      exact ⟨rfl, HH23.out.below⟩

end Go.Proofs.Ytaipokmbgcmciaa.Q
