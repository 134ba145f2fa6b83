/- The law's plain side (UtfRangeW): what the printed functions come to; each theorem states its own conditions. -/
import Derived.Test.YtaipokmbgcmciaaDoorPUx1
import Derived.Test.YtaipokmbgcmciaaDoorPUx2
import Derived.Test.YtaipokmbgcmciaaDoorBUtfScan
import Derived.Test.YtaipokmbgcmciaaDoorBUtfPrev
import Derived.Test.YtaipokmbgcmciaaDoorBUtfSegs
import Derived.Test.YtaipokmbgcmciaaDoorQUtfBack
import Derived.Test.YtaipokmbgcmciaaDoorQUtfRangeM
namespace Go.Proofs.YtaipokmbgcmciaaDoor.Q
open Go.RowKit Go.Proofs.YtaipokmbgcmciaaDoorW.PrintWords Go.Proofs.YtaipokmbgcmciaaDoorW.PrintLast Go.Proofs.YtaipokmbgcmciaaDoorW.PrintMore Go.Proofs.YtaipokmbgcmciaaDoor.PU Go.Proofs.YtaipokmbgcmciaaDoor.B
set_option linter.unusedVariables false
set_option linter.unusedSimpArgs false
open UM
set_option maxHeartbeats 4000000 in
set_option maxRecDepth 100000 in
theorem range_calls (s : ByteArray) (hs : s.size ≤ 16777216) (w : World) (hG : Glob w) :
    Calls Tryd.prog 4 #[.string s] w fun e w' => e = .returned (.bool true) ∧ Below w.heap.size w w' := by
  have hAt0 := at_start s
  have hlen := placesFrom_len s s.size 0
  have hul := units_len s
  have hUf : utf_Units.f s = some (utfFrom s s.size 0) := if_pos (by omega)
  have hPf : utf_Places.f s = some (utfPlaces s s.size 0 ++ [(s.size : Int)]) := if_pos (by omega)
  have hCf : utf_Count.f s = some ((utfPlaces s s.size 0).length : Int) := if_pos (by omega)
  obtain ⟨us, hus⟩ : ∃ x, utfFrom s s.size 0 = x := ⟨_, rfl⟩
  obtain ⟨P, hPP⟩ : ∃ x, utfPlaces s s.size 0 ++ [(s.size : Int)] = x := ⟨_, rfl⟩
  rw [hus] at hul hlen
  rw [hus, hPP] at hAt0
  rw [hus] at hUf
  rw [hPP] at hPf
  rw [hlen] at hCf
  have hPl : P.length = us.length + 1 := by rw [← hPP]; simp [hlen]
  have hPe : rd P (us.length : Int) = (s.size : Int) := by
    rw [← hPP, rd_nat, ← hlen, List.getD_eq_getElem?_getD, List.getElem?_append_right (Nat.le_refl _)]
    simp
  have HAT := Aside0.mk hAt0
  have HG := Aside0.mk hG
  have HUF := Aside0.mk hUf
  have HPF := Aside0.mk hPf
  have HCF := Aside0.mk hCf
  have HUS := Aside0.mk hus
  have HPL := Aside0.mk hPl
  have HPE := Aside0.mk hPe
  clear hAt0 hG hUf hPf hCf hus hPP hlen hPl hPe
  have hn1 : ((P.length : Int) != (us.length : Int) + 1) = false := by rw [HPL.out]; simp
  have hn2 : ((us.length : Int) != (us.length : Int)) = false := by simp
  have hn3 : ((s.size : Int) != (s.size : Int)) = false := by simp
  go_enter Tryd.func4, Tryd.ntmps4
  go_wp2_with (first
    | (go_at_call 8; (with_reducible refine (thistlelaw01_awake.calls true _ awake_is).mono ?_); rintro e w1 ⟨rfl, hb1⟩; have HB1 := Aside0.mk hb1; clear hb1)
    | (go_at_call 12; (with_reducible refine (utf_Units.calls s us _ HUF.out).mono ?_); rintro e w2 ⟨u0, rfl, hR, hb2⟩; obtain ⟨Au, cu, rfl, hcu, hCu⟩ := Kd.R_reads hR; have HB2 := Aside0.mk (below_step HB1.out hb2); have HU := Aside0.mk hCu; clear hR hb2 hCu HB1)
    | (go_at_call 13; go_loud ((with_reducible refine (utf_Places.calls s P _ HPF.out).mono ?_); rintro e w3 ⟨p0, rfl, hR, hb3⟩; obtain ⟨Ap, cp, rfl, hcp, hCp⟩ := Kd.R_reads hR; have HB3 := Aside0.mk (below_step HB2.out hb3); have HU3 := Aside0.mk (Kd.C_below HU.out hb3); have HP := Aside0.mk hCp; clear hR hb3 hCp HB2 HU; have hlt0 : (us.length : Int) < (P.length : Nat) := (by have := HPL.out; omega); obtain ⟨ap, eap, hx0⟩ := Kd.at_int HP.out (us.length : Int) (Int.natCast_nonneg _) hlt0; clear hlt0; subst eap; rw [HPE.out] at hx0; simp only [Int.toNat_natCast] at hx0; have hpi := eq_true (show (0 : Int) ≤ (us.length : Int) by omega); have hqi := eq_true (show (us.length : Int) < (P.length : Int) by rw [HPL.out]; omega)))
    | (go_at_call 14; (with_reducible refine (utf_Count.calls s _ _ HCF.out).mono ?_); rintro e w4 ⟨rfl, hb4⟩; have HB4 := Aside0.mk (below_step HB3.out hb4); have HU4 := Aside0.mk (Kd.C_below HU3.out hb4); have HP4 := Aside0.mk (Kd.C_below HP.out hb4); clear hb4 HU3 HP HB3 hx0))
  have HL := Aside0.mk hul
  clear hn1 hn2 hn3 hpi hqi hul
  go_loopw [5, 6] (fun vi vb wr => ∃ (pos n : Nat) (bad : Int), vi = .int .i64 (n : Int) ∧ vb = .int .i64 bad ∧ Aside0 (At s us P pos n bad) ∧ Aside0 (wr.heap[w4.heap.size]? = some (.stringIter s pos)) ∧ Aside0 (Below w4.heap.size w4 wr)) (fun _ _ wr => s.size - wr.iterPos w4.heap.size)
  case atStart => exact ⟨0, 0, 0, rfl, rfl, HAT, ⟨World.iter_heap w4 s 0⟩, ⟨(Below.refl _ w4).alloc (Nat.le_refl _) _⟩⟩
  case round =>
    obtain ⟨pos, n, bad, rfl, rfl, HA, hit, HB⟩ := hrel
    by_cases hp : pos < s.size
    · have hS := at_step HA.out hp
      have hnx : ∀ ty, (Instr.next (.pointer (some ⟨w4.heap.size, 0, none⟩)) true ty).run Tryd.prog wr = _ := fun ty => Lib.run_next_any_at wr w4.heap.size s pos ty hit.out hp
      have hm1 := utfWidth_pos s pos hp
      have hm2 := utfDecode_fits s pos hp
      have hm3 := decode_le s pos
      obtain ⟨k, hk⟩ := border_bool s hs pos hp hS.bor
      obtain ⟨hlu, hlp, hu, hpp, hq, hgood, hfew, hisbad, _⟩ := hS
      obtain ⟨r, hr⟩ : ∃ r, (Utf8.decode s pos).1 = r := ⟨_, rfl⟩
      obtain ⟨m, hm⟩ : ∃ m, (Utf8.decode s pos).2 = m := ⟨_, rfl⟩
      simp only [hr, hm] at hnx hm1 hm2 hm3 hq hgood hisbad
      have HIT2 := Aside0.mk (Lib.iterAt_heap wr w4.heap.size s pos (pos + m) hit.out)
      have HB2 := Aside0.mk (Lib.below_iterAt HB.out (k := w4.heap.size) (Nat.le_refl _) s (pos + m))
      obtain ⟨ad, e, hx⟩ := Kd.at_int (Kd.C_below HP4.out HB2.out) (n : Int) (Int.natCast_nonneg _) (show ((n : Int) < (P.length : Nat)) by omega)
      injection e with e
      subst e
      rw [hpp] at hx
      simp only [Int.toNat_natCast] at hx
      have HIT := Aside0.mk hit.out
      have HGR := Aside0.mk (Glob.of_below (Glob.of_below HG.out HB4.out) HB2.out)
      have HK := Aside0.mk hk
      have d1 : decide (us.length ≤ n) = false := decide_eq_false (by omega)
      have hpi := eq_true (show (0 : Int) ≤ (n : Int) by omega)
      have hqi := eq_true (show (n : Int) < (P.length : Int) by omega)
      have HU5 := Aside0.mk hu
      have HQ5 := Aside0.mk hq
      have HGD := Aside0.mk hgood
      have HBD := Aside0.mk hisbad
      have HM2 := Aside0.mk hm2
      have HDR := Aside0.mk hr
      have HDM := Aside0.mk hm
      clear hit hu hq hgood hisbad hr hm hk hpp hm2
      have hww : wrap64 ((pos : Int) + (m : Int) - (pos : Int)) = (m : Int) := by have := HM2.out; unfold wrap64; omega
      by_cases hr6 : r = 65533
      · subst hr6
        by_cases hm6 : m = 1
        · subst hm6
          have HUV := (HBD.out rfl rfl).1
          have HNX := Aside0.mk (HBD.out rfl rfl).2
          have hbs := utfBt_span s pos
          have hp0 := eq_true (show (0 : Int) ≤ (pos : Int) by omega)
          have hq0 := eq_true (show (pos : Int) < (s.size : Int) by omega)
          have hxs : ((s[pos].toNat : Nat) : Int) = bt s pos := by simpa using bt_at s pos (by simpa using hp)
          have hne : ((1114112 + bt s (pos : Int)) != wrap32 (wrap64 (1114112 + wrap64 ((s[pos].toNat : Nat) : Int)))) = false := by
            rw [hxs]
            have e1 : wrap32 (wrap64 (1114112 + wrap64 (bt s (pos : Int)))) = 1114112 + bt s (pos : Int) := by unfold wrap32 wrap64; omega
            rw [e1]; simp
          have hpe : ((pos : Int) + 1 - (pos : Int) == 1) = true := by simp; omega
          clear hxs
          go_wp2_with (first
            | (go_at_call 15; (with_reducible refine (utf_Border.calls k s (pos : Int) true _ HGR.out HK.out).mono ?_); rintro e w5 ⟨rfl, hb5⟩; have HB5 := Aside0.mk (below_step HB2.out hb5); have HIT5 := Aside0.mk ((hb5.block _ (Array.getElem?_eq_some_iff.1 HIT2.out).1).trans HIT2.out); obtain ⟨ad1, e1, hx1⟩ := Kd.at_int (Kd.C_below HP4.out HB5.out) ((n + 1 : Nat) : Int) (Int.natCast_nonneg _) (show (((n + 1 : Nat) : Int) < (P.length : Nat)) by omega); injection e1 with e1; subst e1; rw [show (((n + 1 : Nat) : Int)) = (n : Int) + 1 from rfl, HQ5.out] at hx1; simp only [Int.toNat_natCast_add_one] at hx1; rw [show ap.add (n + 1) = ⟨ap.block, ap.off + (n + 1), none⟩ from by unfold Addr.add; simp] at hx1; have hpi1 := eq_true (show (0 : Int) ≤ (n : Int) + 1 by omega); have hqi1 := eq_true (show (n : Int) + 1 < (P.length : Int) by omega); obtain ⟨adu, eu, hxu⟩ := Kd.at_int (Kd.C_below HU4.out HB5.out) (n : Int) (Int.natCast_nonneg _) (show ((n : Int) < (us.length : Nat)) by omega); subst eu; rw [HU5.out, HUV] at hxu; simp only [Int.toNat_natCast] at hxu; have hqu := eq_true (show (n : Int) < (us.length : Int) by omega); clear hx hb5))
          go_quiet (fail)
          go_wp2
          go_roundw
          case rel => exact ⟨pos + 1, n + 1, bad + 1, by go_num, rfl, HNX, ⟨HIT5.out⟩, ⟨pw_below_drewN HB5.out _⟩⟩
          case measure =>
            have h1 := HM2.out
            simp only [World.iterPos, World.drewN, HIT5.out, HIT.out]
            omega
        · have hm7 : ((m : Int) == 1) = false := by simp; omega
          have HUV := (HGD.out (fun h => hm6 h.2)).1
          have HNX := Aside0.mk (HGD.out (fun h => hm6 h.2)).2
          go_wp2_with (first
            | (go_at_call 15; (with_reducible refine (utf_Border.calls k s (pos : Int) true _ HGR.out HK.out).mono ?_); rintro e w5 ⟨rfl, hb5⟩; have HB5 := Aside0.mk (below_step HB2.out hb5); have HIT5 := Aside0.mk ((hb5.block _ (Array.getElem?_eq_some_iff.1 HIT2.out).1).trans HIT2.out); obtain ⟨ad1, e1, hx1⟩ := Kd.at_int (Kd.C_below HP4.out HB5.out) ((n + 1 : Nat) : Int) (Int.natCast_nonneg _) (show (((n + 1 : Nat) : Int) < (P.length : Nat)) by omega); injection e1 with e1; subst e1; rw [show (((n + 1 : Nat) : Int)) = (n : Int) + 1 from rfl, HQ5.out] at hx1; simp only [Int.toNat_natCast_add_one] at hx1; rw [show ap.add (n + 1) = ⟨ap.block, ap.off + (n + 1), none⟩ from by unfold Addr.add; simp] at hx1; have hpi1 := eq_true (show (0 : Int) ≤ (n : Int) + 1 by omega); have hqi1 := eq_true (show (n : Int) + 1 < (P.length : Int) by omega); obtain ⟨adu, eu, hxu⟩ := Kd.at_int (Kd.C_below HU4.out HB5.out) (n : Int) (Int.natCast_nonneg _) (show ((n : Int) < (us.length : Nat)) by omega); subst eu; rw [HU5.out, HUV] at hxu; simp only [Int.toNat_natCast] at hxu; have hqu := eq_true (show (n : Int) < (us.length : Int) by omega); clear hx hb5))
          go_roundw
          case rel => exact ⟨pos + m, n + 1, bad, by go_num, rfl, HNX, ⟨HIT5.out⟩, ⟨HB5.out⟩⟩
          case measure =>
            have h1 := HM2.out
            simp only [World.iterPos, World.drewN, HIT5.out, HIT.out]
            omega
      · have hr7 : ((r : Int) == 65533) = false := by simp; omega
        have HUV := (HGD.out (fun h => hr6 h.1)).1
        have HNX := Aside0.mk (HGD.out (fun h => hr6 h.1)).2
        go_wp2_with (first
          | (go_at_call 15; (with_reducible refine (utf_Border.calls k s (pos : Int) true _ HGR.out HK.out).mono ?_); rintro e w5 ⟨rfl, hb5⟩; have HB5 := Aside0.mk (below_step HB2.out hb5); have HIT5 := Aside0.mk ((hb5.block _ (Array.getElem?_eq_some_iff.1 HIT2.out).1).trans HIT2.out); obtain ⟨ad1, e1, hx1⟩ := Kd.at_int (Kd.C_below HP4.out HB5.out) ((n + 1 : Nat) : Int) (Int.natCast_nonneg _) (show (((n + 1 : Nat) : Int) < (P.length : Nat)) by omega); injection e1 with e1; subst e1; rw [show (((n + 1 : Nat) : Int)) = (n : Int) + 1 from rfl, HQ5.out] at hx1; simp only [Int.toNat_natCast_add_one] at hx1; rw [show ap.add (n + 1) = ⟨ap.block, ap.off + (n + 1), none⟩ from by unfold Addr.add; simp] at hx1; have hpi1 := eq_true (show (0 : Int) ≤ (n : Int) + 1 by omega); have hqi1 := eq_true (show (n : Int) + 1 < (P.length : Int) by omega); obtain ⟨adu, eu, hxu⟩ := Kd.at_int (Kd.C_below HU4.out HB5.out) (n : Int) (Int.natCast_nonneg _) (show ((n : Int) < (us.length : Nat)) by omega); subst eu; rw [HU5.out, HUV] at hxu; simp only [Int.toNat_natCast] at hxu; have hqu := eq_true (show (n : Int) < (us.length : Int) by omega); clear hx hb5))
        go_roundw
        case rel => exact ⟨pos + m, n + 1, bad, by go_num, rfl, HNX, ⟨HIT5.out⟩, ⟨HB5.out⟩⟩
        case measure =>
          have h1 := HM2.out
          simp only [World.iterPos, World.drewN, HIT5.out, HIT.out]
          omega
    · obtain ⟨hnu, hbd⟩ := at_end HA.out hp
      subst hnu
      have hnx : ∀ ty, (Instr.next (.pointer (some ⟨w4.heap.size, 0, none⟩)) true ty).run Tryd.prog wr = _ := fun ty => Lib.run_next_end_at wr w4.heap.size s pos ty hit.out hp
      have hv := valid_is s hs
      rw [HUS.out] at hv
      obtain ⟨v, hvv⟩ : ∃ v, us.all (fun u => decide (u ≤ 1114111)) = v := ⟨_, rfl⟩
      rw [hvv] at hv hbd
      have hbv : (v == (bad == 0)) = true := by
        cases v <;> simp at hbd ⊢
        · exact hbd
        · exact hbd
      have HV := Aside0.mk hv
      have HBW := Aside0.mk (below_step HB4.out HB.out)
      have hrN := runesN s hs
      obtain ⟨F, G, C, hthere, hbk0, hbk1, hcF, hgeA, hFB⟩ := conv_any s hs
      have HRB := Aside0.mk hbk1
      have HRC := Aside0.mk hcF
      have HFB := Aside0.mk hFB
      have hRf : utf_Runes.f s = some (utfRunes s s.size 0) := if_pos (by omega)
      have hMf : utf_Mend.f s = some (runesBytes (utfRunes s s.size 0)) := if_pos (by omega)
      have hFf : utf_FromRunes.f (utfRunes s s.size 0) = some (runesBytes (utfRunes s s.size 0)) := if_pos (by omega)
      generalize utfRunes s s.size 0 = R at *
      generalize runesBytes R = M at *
      obtain ⟨ks, hks⟩ := law_same R R (by omega)
      have hks1 := hks ks (Nat.le_refl _)
      simp only [decide_true] at hks1
      have HKS := Aside0.mk hks1
      have HRF := Aside0.mk hRf
      have HMF := Aside0.mk hMf
      have HFF := Aside0.mk hFf
      have HGE := Aside0.mk hgeA
      clear hks hks1 hRf hMf hFf hgeA hv hvv hbd hs HA HB hbk1 hcF hFB
      have hGr := Glob.of_below HG.out HBW.out
      have hnn : ((us.length : Int) == (us.length : Int)) = true := by simp
      go_wp2
      refine wp_region_held_drew (S := fun _ => True) (by kernel_rfl) trivial (fun hHeld => ?_)
      clear hHeld
      refine wpAnyH_take (i := 0) (oi := ({ dst := some 97, op := Go.Op.move (Go.Operand.tmp 5), type := 3, pos := "law.go:230", after := #[], guard := none } : Oper)) (v := ?_) rfl (by kernel_rfl) (by kernel_rfl) (by kernel_rfl) (fun _ _ _ h => h) (Or.inl ⟨by rfl, ?_⟩) trivial ?_
      rotate_left 1
      · (intro w_ hSw_; go_simp; (try with_reducible rfl))
      (try simp only [Act.put, List.setIfInBounds_toArray, List.set_cons_zero, List.set_cons_succ])
      refine wpAnyH_take (i := 1) (oi := ({ dst := some 98, op := Go.Op.move (Go.Operand.tmp 3), type := 27, pos := "law.go:230", after := #[], guard := none } : Oper)) (v := ?_) rfl (by kernel_rfl) (by kernel_rfl) (by kernel_rfl) (fun _ _ _ h => h) (Or.inl ⟨by rfl, ?_⟩) trivial ?_
      rotate_left 1
      · (intro w_ hSw_; go_simp; (try with_reducible rfl))
      (try simp only [Act.put, List.setIfInBounds_toArray, List.set_cons_zero, List.set_cons_succ])
      refine wpAnyH_take (i := 2) (oi := ({ dst := some 99, op := Go.Op.call { callee := Go.Callee.builtin Go.Builtin.len, args := #[Go.Operand.tmp 98], argTypes := #[27] }, type := 3, pos := "law.go:230", after := #[{ on := 1, ground := Go.Ground.data }], guard := none } : Oper)) (v := ?_) rfl (by kernel_rfl) (by kernel_rfl) (by kernel_rfl) (fun _ _ _ h => h) (Or.inl ⟨by rfl, ?_⟩) trivial ?_
      rotate_left 1
      · (intro w_ hSw_; go_simp; (try with_reducible rfl))
      (try simp only [Act.put, List.setIfInBounds_toArray, List.set_cons_zero, List.set_cons_succ])
      refine wpAnyH_take (i := 3) (oi := ({ dst := some 100, op := Go.Op.binOp Go.BinOp.eql 3 (Go.Operand.tmp 97) (Go.Operand.tmp 99) 3, type := 4, pos := "law.go:230", after := #[{ on := 0, ground := Go.Ground.data }, { on := 2, ground := Go.Ground.data }], guard := none } : Oper)) (v := ?_) rfl (by kernel_rfl) (by kernel_rfl) (by kernel_rfl) (fun _ _ _ h => h) (Or.inl ⟨by rfl, ?_⟩) trivial ?_
      rotate_left 1
      · (intro w_ hSw_; go_simp; (try with_reducible rfl))
      (try simp only [Act.put, List.setIfInBounds_toArray, List.set_cons_zero, List.set_cons_succ])
      refine wpAnyH_take (i := 4) (oi := ({ dst := some 101, op := Go.Op.move (Go.Operand.tmp 100), type := 4, pos := "law.go:230", after := #[{ on := 3, ground := Go.Ground.data }], guard := none } : Oper)) (v := ?_) rfl (by kernel_rfl) (by kernel_rfl) (by kernel_rfl) (fun _ _ _ h => h) (Or.inl ⟨by rfl, ?_⟩) trivial ?_
      rotate_left 1
      · (intro w_ hSw_; go_simp; (try with_reducible rfl))
      (try simp only [Act.put, List.setIfInBounds_toArray, List.set_cons_zero, List.set_cons_succ])
      refine wpAnyH_take (i := 5) (oi := ({ dst := some 102, op := Go.Op.move (Go.Operand.tmp 0), type := 9, pos := "law.go:230", after := #[{ on := 4, ground := Go.Ground.guard }], guard := some (4, true) } : Oper)) (v := ?_) rfl (by kernel_rfl) (by kernel_rfl) (by kernel_rfl) (fun _ _ _ h => h) (Or.inl ⟨by rfl, ?_⟩) trivial ?_
      rotate_left 1
      · (intro w_ hSw_; go_simp; (try with_reducible rfl))
      (try simp only [Act.put, List.setIfInBounds_toArray, List.set_cons_zero, List.set_cons_succ])
      refine wpAnyH_take (i := 7) (oi := ({ dst := some 104, op := Go.Op.move (Go.Operand.tmp 6), type := 3, pos := "law.go:230", after := #[{ on := 4, ground := Go.Ground.guard }], guard := some (4, true) } : Oper)) (v := ?_) rfl (by kernel_rfl) (by kernel_rfl) (by kernel_rfl) (fun _ _ _ h => h) (Or.inl ⟨by rfl, ?_⟩) trivial ?_
      rotate_left 1
      · (intro w_ hSw_; go_simp; (try with_reducible rfl))
      (try simp only [Act.put, List.setIfInBounds_toArray, List.set_cons_zero, List.set_cons_succ])
      refine wpAnyH_take (i := 8) (oi := ({ dst := some 105, op := Go.Op.binOp Go.BinOp.eql 3 (Go.Operand.tmp 104) (Go.Operand.const (Go.Value.int Go.IntKind.i64 0)) 3, type := 4, pos := "law.go:230", after := #[{ on := 7, ground := Go.Ground.data }, { on := 4, ground := Go.Ground.guard }], guard := some (4, true) } : Oper)) (v := ?_) rfl (by kernel_rfl) (by kernel_rfl) (by kernel_rfl) (fun _ _ _ h => h) (Or.inl ⟨by rfl, ?_⟩) trivial ?_
      rotate_left 1
      · (intro w_ hSw_; go_simp; (try with_reducible rfl))
      (try simp only [Act.put, List.setIfInBounds_toArray, List.set_cons_zero, List.set_cons_succ])
      refine wpAnyH_ready (rs := [6]) (by kernel_rfl) (by simp) ?_
      refine AllReadyH.cons (o := ({ dst := some 103, op := Go.Op.call { callee := Go.Callee.value (Go.Operand.func 16), args := #[Go.Operand.tmp 102], argTypes := #[9] }, type := 4, pos := "law.go:230", after := #[{ on := 5, ground := Go.Ground.data }, { on := 4, ground := Go.Ground.chain }, { on := 4, ground := Go.Ground.guard }], guard := some (4, true) } : Oper)) rfl (fun K hK => ?_) ?_
      · go_simp
        go_at_call 16
        refine (utf_Valid.calls s v _ (Glob.drew hGr) HV.out).mono ?_
        rintro e w6 ⟨rfl, hb6⟩
        have hbw : Below w.heap.size w w6 := (by refine below_step ?_ hb6; repeat (first | (with_reducible first | exact HBW.out | apply below_alloc | apply pw_below_drewN | apply below_drew1) | exact HBW.out | refine below_step ?_ (HFB.out _)))
        clear HBW
        have HBW := Aside0.mk hbw
        clear hb6 hbw
        (try go_wp2_with fail)
        refine hK.out _ _ trivial (fun hHeld => ?_)
        clear hK K hHeld
        (try simp only [Act.put, List.setIfInBounds_toArray, List.set_cons_zero, List.set_cons_succ])
        refine wpAnyH_take (i := 9) (oi := ({ dst := some 106, op := Go.Op.binOp Go.BinOp.eql 4 (Go.Operand.tmp 103) (Go.Operand.tmp 105) 4, type := 4, pos := "law.go:230", after := #[{ on := 6, ground := Go.Ground.data }, { on := 8, ground := Go.Ground.data }, { on := 4, ground := Go.Ground.guard }], guard := some (4, true) } : Oper)) (v := ?_) rfl (by kernel_rfl) (by kernel_rfl) (by kernel_rfl) (fun _ _ _ h => h) (Or.inl ⟨by rfl, ?_⟩) trivial ?_
        rotate_left 1
        · (intro w_ hSw_; go_simp; (try with_reducible rfl))
        (try simp only [Act.put, List.setIfInBounds_toArray, List.set_cons_zero, List.set_cons_succ])
        refine wpAnyH_take (i := 10) (oi := ({ dst := some 107, op := Go.Op.pick (Go.Operand.tmp 101) (Go.Operand.tmp 106) (Go.Operand.const (Go.Value.bool false)), type := 4, pos := "law.go:230", after := #[{ on := 4, ground := Go.Ground.data }, { on := 9, ground := Go.Ground.data }], guard := none } : Oper)) (v := ?_) rfl (by kernel_rfl) (by kernel_rfl) (by kernel_rfl) (fun _ _ _ h => h) (Or.inl ⟨by rfl, ?_⟩) trivial ?_
        rotate_left 1
        · (intro w_ hSw_; go_simp; (try with_reducible rfl))
        (try simp only [Act.put, List.setIfInBounds_toArray, List.set_cons_zero, List.set_cons_succ])
        refine wpAnyH_take (i := 11) (oi := ({ dst := some 108, op := Go.Op.move (Go.Operand.tmp 107), type := 4, pos := "law.go:230", after := #[{ on := 10, ground := Go.Ground.data }, { on := 6, ground := Go.Ground.chain }], guard := none } : Oper)) (v := ?_) rfl (by kernel_rfl) (by kernel_rfl) (by kernel_rfl) (fun _ _ _ h => h) (Or.inl ⟨by rfl, ?_⟩) trivial ?_
        rotate_left 1
        · (intro w_ hSw_; go_simp; (try with_reducible rfl))
        (try simp only [Act.put, List.setIfInBounds_toArray, List.set_cons_zero, List.set_cons_succ])
        refine wpAnyH_take (i := 12) (oi := ({ dst := some 109, op := Go.Op.move (Go.Operand.tmp 0), type := 9, pos := "law.go:230", after := #[{ on := 11, ground := Go.Ground.guard }], guard := some (11, true) } : Oper)) (v := ?_) rfl (by kernel_rfl) (by kernel_rfl) (by kernel_rfl) (fun _ _ _ h => h) (Or.inl ⟨by rfl, ?_⟩) trivial ?_
        rotate_left 1
        · (intro w_ hSw_; go_simp; (try with_reducible rfl))
        (try simp only [Act.put, List.setIfInBounds_toArray, List.set_cons_zero, List.set_cons_succ])
        refine wpAnyH_take (i := 14) (oi := ({ dst := some 111, op := Go.Op.move (Go.Operand.tmp 0), type := 9, pos := "law.go:230", after := #[{ on := 11, ground := Go.Ground.guard }], guard := some (11, true) } : Oper)) (v := ?_) rfl (by kernel_rfl) (by kernel_rfl) (by kernel_rfl) (fun _ _ _ h => h) (Or.inl ⟨by rfl, ?_⟩) trivial ?_
        rotate_left 1
        · (intro w_ hSw_; go_simp; (try with_reducible rfl))
        (try simp only [Act.put, List.setIfInBounds_toArray, List.set_cons_zero, List.set_cons_succ])
        refine wpAnyH_ready (rs := [13, 15]) (by kernel_rfl) (by simp) ?_
        refine AllReadyH.cons (o := ({ dst := some 110, op := Go.Op.call { callee := Go.Callee.value (Go.Operand.func 18), args := #[Go.Operand.tmp 109], argTypes := #[9] }, type := 27, pos := "law.go:230", after := #[{ on := 12, ground := Go.Ground.data }, { on := 11, ground := Go.Ground.chain }, { on := 11, ground := Go.Ground.guard }], guard := some (11, true) } : Oper)) rfl (fun K hK => ?_) ?_
        · go_simp
          go_at_call 18
          refine (utf_Runes.calls s R _ HRF.out).mono ?_
          rintro e w7 ⟨v7, rfl, hR7, hb7⟩
          obtain ⟨A7, c7, rfl, hc7, hC7⟩ := Kd.R_reads hR7
          have HC7 := Aside0.mk hC7
          (try have HROW7 := Aside0.mk (HRC.out _ _ hb7))
          have hbw : Below w.heap.size w w7 := (by refine below_step ?_ hb7; repeat (first | (with_reducible first | exact HBW.out | apply below_alloc | apply pw_below_drewN | apply below_drew1) | exact HBW.out | refine below_step ?_ (HFB.out _)))
          clear HBW
          have HBW := Aside0.mk hbw
          clear hb7 hbw
          clear hR7 hC7
          (try go_wp2_with fail)
          refine hK.out _ _ trivial (fun hHeld => ?_)
          clear hK K hHeld
          (try simp only [Act.put, List.setIfInBounds_toArray, List.set_cons_zero, List.set_cons_succ])
          refine wpAnyH_ready (rs := [15]) (by kernel_rfl) (by simp) ?_
          refine AllReadyH.cons (o := ({ dst := some 112, op := Go.Op.convert 9 27 (Go.Operand.tmp 111), type := 27, pos := "law.go:230", after := #[{ on := 14, ground := Go.Ground.data }, { on := 11, ground := Go.Ground.guard }], guard := some (11, true) } : Oper)) rfl (fun K hK => ?_) ?_
          · go_simp
            refine hK.out _ _ trivial (fun hHeld => ?_)
            clear hK K hHeld
            (try simp only [Act.put, List.setIfInBounds_toArray, List.set_cons_zero, List.set_cons_succ])
            refine wpAnyH_ready (rs := [16]) (by kernel_rfl) (by simp) ?_
            refine AllReadyH.cons (o := ({ dst := some 113, op := Go.Op.call { callee := Go.Callee.value (Go.Operand.func 17), args := #[Go.Operand.tmp 110, Go.Operand.tmp 112], argTypes := #[27, 27] }, type := 4, pos := "law.go:230", after := #[{ on := 13, ground := Go.Ground.data }, { on := 15, ground := Go.Ground.data }, { on := 13, ground := Go.Ground.chain }, { on := 11, ground := Go.Ground.guard }], guard := some (11, true) } : Oper)) rfl (fun K hK => ?_) ?_
            · go_simp
              go_at_call 17
              refine (thistlelaw01_same.calls ks _ _ R _ _ R true _ ?_ hc7 ?_ (HGE.out _) HKS.out).mono ?_
              · first | exact HC7.out | exact Kd.C_below HC7.out (HFB.out _)
              · first | exact HRC.out _ _ (Below.refl _ _) | exact HROW7.out
              rintro e w8 ⟨rfl, ⟨nd, rfl⟩⟩
              (try go_wp2_with fail)
              refine hK.out _ _ trivial (fun hHeld => ?_)
              clear hK K hHeld
              (try simp only [Act.put, List.setIfInBounds_toArray, List.set_cons_zero, List.set_cons_succ])
              refine wpAnyH_take (i := 17) (oi := ({ dst := some 114, op := Go.Op.pick (Go.Operand.tmp 108) (Go.Operand.tmp 113) (Go.Operand.const (Go.Value.bool false)), type := 4, pos := "law.go:230", after := #[{ on := 11, ground := Go.Ground.data }, { on := 16, ground := Go.Ground.data }], guard := none } : Oper)) (v := ?_) rfl (by kernel_rfl) (by kernel_rfl) (by kernel_rfl) (fun _ _ _ h => h) (Or.inl ⟨by rfl, ?_⟩) trivial ?_
              rotate_left 1
              · (intro w_ hSw_; go_simp; (try with_reducible rfl))
              (try simp only [Act.put, List.setIfInBounds_toArray, List.set_cons_zero, List.set_cons_succ])
              refine wpAnyH_take (i := 18) (oi := ({ dst := some 115, op := Go.Op.move (Go.Operand.tmp 114), type := 4, pos := "law.go:230", after := #[{ on := 17, ground := Go.Ground.data }, { on := 16, ground := Go.Ground.chain }], guard := none } : Oper)) (v := ?_) rfl (by kernel_rfl) (by kernel_rfl) (by kernel_rfl) (fun _ _ _ h => h) (Or.inl ⟨by rfl, ?_⟩) trivial ?_
              rotate_left 1
              · (intro w_ hSw_; go_simp; (try with_reducible rfl))
              (try simp only [Act.put, List.setIfInBounds_toArray, List.set_cons_zero, List.set_cons_succ])
              refine wpAnyH_take (i := 19) (oi := ({ dst := some 116, op := Go.Op.move (Go.Operand.tmp 0), type := 9, pos := "law.go:230", after := #[{ on := 18, ground := Go.Ground.guard }], guard := some (18, true) } : Oper)) (v := ?_) rfl (by kernel_rfl) (by kernel_rfl) (by kernel_rfl) (fun _ _ _ h => h) (Or.inl ⟨by rfl, ?_⟩) trivial ?_
              rotate_left 1
              · (intro w_ hSw_; go_simp; (try with_reducible rfl))
              (try simp only [Act.put, List.setIfInBounds_toArray, List.set_cons_zero, List.set_cons_succ])
              refine wpAnyH_take (i := 21) (oi := ({ dst := some 118, op := Go.Op.move (Go.Operand.tmp 0), type := 9, pos := "law.go:230", after := #[{ on := 18, ground := Go.Ground.guard }], guard := some (18, true) } : Oper)) (v := ?_) rfl (by kernel_rfl) (by kernel_rfl) (by kernel_rfl) (fun _ _ _ h => h) (Or.inl ⟨by rfl, ?_⟩) trivial ?_
              rotate_left 1
              · (intro w_ hSw_; go_simp; (try with_reducible rfl))
              (try simp only [Act.put, List.setIfInBounds_toArray, List.set_cons_zero, List.set_cons_succ])
              refine wpAnyH_ready (rs := [20, 22]) (by kernel_rfl) (by simp) ?_
              refine AllReadyH.cons (o := ({ dst := some 117, op := Go.Op.call { callee := Go.Callee.value (Go.Operand.func 19), args := #[Go.Operand.tmp 116], argTypes := #[9] }, type := 9, pos := "law.go:230", after := #[{ on := 19, ground := Go.Ground.data }, { on := 18, ground := Go.Ground.chain }, { on := 18, ground := Go.Ground.guard }], guard := some (18, true) } : Oper)) rfl (fun K hK => ?_) ?_
              · go_simp
                go_at_call 19
                refine (utf_Mend.calls s M _ HMF.out).mono ?_
                rintro e w9 ⟨rfl, hb9⟩
                (try have hbk9 := HRB.out _ _ hb9)
                have hbw : Below w.heap.size w w9 := (by refine below_step ?_ hb9; repeat (first | (with_reducible first | exact HBW.out | apply below_alloc | apply pw_below_drewN | apply below_drew1) | exact HBW.out | refine below_step ?_ (HFB.out _)))
                clear HBW
                have HBW := Aside0.mk hbw
                clear hb9 hbw
                (try go_wp2_with fail)
                refine hK.out _ _ trivial (fun hHeld => ?_)
                clear hK K hHeld
                (try simp only [Act.put, List.setIfInBounds_toArray, List.set_cons_zero, List.set_cons_succ])
                refine wpAnyH_ready (rs := [22]) (by kernel_rfl) (by simp) ?_
                refine AllReadyH.cons (o := ({ dst := some 119, op := Go.Op.convert 9 27 (Go.Operand.tmp 118), type := 27, pos := "law.go:230", after := #[{ on := 21, ground := Go.Ground.data }, { on := 18, ground := Go.Ground.guard }], guard := some (18, true) } : Oper)) rfl (fun K hK => ?_) ?_
                · go_simp
                  refine hK.out _ _ trivial (fun hHeld => ?_)
                  clear hK K hHeld
                  (try simp only [Act.put, List.setIfInBounds_toArray, List.set_cons_zero, List.set_cons_succ])
                  refine wpAnyH_ready (rs := [23]) (by kernel_rfl) (by simp) ?_
                  refine AllReadyH.cons (o := ({ dst := some 120, op := Go.Op.convert 27 9 (Go.Operand.tmp 119), type := 9, pos := "law.go:230", after := #[{ on := 22, ground := Go.Ground.data }, { on := 18, ground := Go.Ground.guard }], guard := some (18, true) } : Oper)) rfl (fun K hK => ?_) ?_
                  · go_simp
                    refine hK.out _ _ trivial (fun hHeld => ?_)
                    clear hK K hHeld
                    (try simp only [Act.put, List.setIfInBounds_toArray, List.set_cons_zero, List.set_cons_succ])
                    refine wpAnyH_take (i := 24) (oi := ({ dst := some 121, op := Go.Op.binOp Go.BinOp.eql 9 (Go.Operand.tmp 117) (Go.Operand.tmp 120) 9, type := 4, pos := "law.go:230", after := #[{ on := 20, ground := Go.Ground.data }, { on := 23, ground := Go.Ground.data }, { on := 18, ground := Go.Ground.guard }], guard := some (18, true) } : Oper)) (v := ?_) rfl (by kernel_rfl) (by kernel_rfl) (by kernel_rfl) (fun _ _ _ h => h) (Or.inl ⟨by rfl, ?_⟩) trivial ?_
                    rotate_left 1
                    · (intro w_ hSw_; go_simp; (try with_reducible rfl))
                    (try simp only [Act.put, List.setIfInBounds_toArray, List.set_cons_zero, List.set_cons_succ])
                    refine wpAnyH_take (i := 25) (oi := ({ dst := some 122, op := Go.Op.pick (Go.Operand.tmp 115) (Go.Operand.tmp 121) (Go.Operand.const (Go.Value.bool false)), type := 4, pos := "law.go:230", after := #[{ on := 18, ground := Go.Ground.data }, { on := 24, ground := Go.Ground.data }], guard := none } : Oper)) (v := ?_) rfl (by kernel_rfl) (by kernel_rfl) (by kernel_rfl) (fun _ _ _ h => h) (Or.inl ⟨by rfl, ?_⟩) trivial ?_
                    rotate_left 1
                    · (intro w_ hSw_; go_simp; (try with_reducible rfl))
                    (try simp only [Act.put, List.setIfInBounds_toArray, List.set_cons_zero, List.set_cons_succ])
                    refine wpAnyH_take (i := 26) (oi := ({ dst := some 123, op := Go.Op.move (Go.Operand.tmp 122), type := 4, pos := "law.go:230", after := #[{ on := 25, ground := Go.Ground.data }, { on := 20, ground := Go.Ground.chain }], guard := none } : Oper)) (v := ?_) rfl (by kernel_rfl) (by kernel_rfl) (by kernel_rfl) (fun _ _ _ h => h) (Or.inl ⟨by rfl, ?_⟩) trivial ?_
                    rotate_left 1
                    · (intro w_ hSw_; go_simp; (try with_reducible rfl))
                    (try simp only [Act.put, List.setIfInBounds_toArray, List.set_cons_zero, List.set_cons_succ])
                    refine wpAnyH_take (i := 27) (oi := ({ dst := some 124, op := Go.Op.move (Go.Operand.tmp 0), type := 9, pos := "law.go:230", after := #[{ on := 26, ground := Go.Ground.guard }], guard := some (26, true) } : Oper)) (v := ?_) rfl (by kernel_rfl) (by kernel_rfl) (by kernel_rfl) (fun _ _ _ h => h) (Or.inl ⟨by rfl, ?_⟩) trivial ?_
                    rotate_left 1
                    · (intro w_ hSw_; go_simp; (try with_reducible rfl))
                    (try simp only [Act.put, List.setIfInBounds_toArray, List.set_cons_zero, List.set_cons_succ])
                    refine wpAnyH_take (i := 30) (oi := ({ dst := some 127, op := Go.Op.move (Go.Operand.tmp 0), type := 9, pos := "law.go:230", after := #[{ on := 26, ground := Go.Ground.guard }], guard := some (26, true) } : Oper)) (v := ?_) rfl (by kernel_rfl) (by kernel_rfl) (by kernel_rfl) (fun _ _ _ h => h) (Or.inl ⟨by rfl, ?_⟩) trivial ?_
                    rotate_left 1
                    · (intro w_ hSw_; go_simp; (try with_reducible rfl))
                    (try simp only [Act.put, List.setIfInBounds_toArray, List.set_cons_zero, List.set_cons_succ])
                    refine wpAnyH_ready (rs := [28]) (by kernel_rfl) (by simp) ?_
                    refine AllReadyH.cons (o := ({ dst := some 125, op := Go.Op.call { callee := Go.Callee.value (Go.Operand.func 18), args := #[Go.Operand.tmp 124], argTypes := #[9] }, type := 27, pos := "law.go:230", after := #[{ on := 27, ground := Go.Ground.data }, { on := 26, ground := Go.Ground.chain }, { on := 26, ground := Go.Ground.guard }], guard := some (26, true) } : Oper)) rfl (fun K hK => ?_) ?_
                    · go_simp
                      go_at_call 18
                      refine (utf_Runes.calls s R _ HRF.out).mono ?_
                      rintro e w7 ⟨v7, rfl, hR7, hb7⟩
                      obtain ⟨A7, c7, rfl, hc7, hC7⟩ := Kd.R_reads hR7
                      have HC7 := Aside0.mk hC7
                      (try have HROW7 := Aside0.mk (HRC.out _ _ hb7))
                      have hbw : Below w.heap.size w w7 := (by refine below_step ?_ hb7; repeat (first | (with_reducible first | exact HBW.out | apply below_alloc | apply pw_below_drewN | apply below_drew1) | exact HBW.out | refine below_step ?_ (HFB.out _)))
                      clear HBW
                      have HBW := Aside0.mk hbw
                      clear hb7 hbw
                      clear hR7 hC7
                      (try go_wp2_with fail)
                      refine hK.out _ _ trivial (fun hHeld => ?_)
                      clear hK K hHeld
                      (try simp only [Act.put, List.setIfInBounds_toArray, List.set_cons_zero, List.set_cons_succ])
                      refine wpAnyH_ready (rs := [29]) (by kernel_rfl) (by simp) ?_
                      refine AllReadyH.cons (o := ({ dst := some 126, op := Go.Op.call { callee := Go.Callee.value (Go.Operand.func 20), args := #[Go.Operand.tmp 125], argTypes := #[27] }, type := 9, pos := "law.go:230", after := #[{ on := 28, ground := Go.Ground.data }, { on := 28, ground := Go.Ground.chain }, { on := 26, ground := Go.Ground.guard }], guard := some (26, true) } : Oper)) rfl (fun K hK => ?_) ?_
                      · go_simp
                        go_at_call 20
                        refine (utf_FromRunes.calls _ _ R M _ HC7.out hc7 HFF.out).mono ?_
                        rintro e wa ⟨rfl, ⟨nd, rfl⟩⟩
                        (try go_wp2_with fail)
                        refine hK.out _ _ trivial (fun hHeld => ?_)
                        clear hK K hHeld
                        (try simp only [Act.put, List.setIfInBounds_toArray, List.set_cons_zero, List.set_cons_succ])
                        refine wpAnyH_ready (rs := [31]) (by kernel_rfl) (by simp) ?_
                        refine AllReadyH.cons (o := ({ dst := some 128, op := Go.Op.call { callee := Go.Callee.value (Go.Operand.func 19), args := #[Go.Operand.tmp 127], argTypes := #[9] }, type := 9, pos := "law.go:230", after := #[{ on := 30, ground := Go.Ground.data }, { on := 29, ground := Go.Ground.chain }, { on := 26, ground := Go.Ground.guard }], guard := some (26, true) } : Oper)) rfl (fun K hK => ?_) ?_
                        · go_simp
                          go_at_call 19
                          refine (utf_Mend.calls s M _ HMF.out).mono ?_
                          rintro e w9 ⟨rfl, hb9⟩
                          (try have hbk9 := HRB.out _ _ hb9)
                          have hbw : Below w.heap.size w w9 := (by refine below_step ?_ hb9; repeat (first | (with_reducible first | exact HBW.out | apply below_alloc | apply pw_below_drewN | apply below_drew1) | exact HBW.out | refine below_step ?_ (HFB.out _)))
                          clear HBW
                          have HBW := Aside0.mk hbw
                          clear hb9 hbw
                          (try go_wp2_with fail)
                          refine hK.out _ _ trivial (fun hHeld => ?_)
                          clear hK K hHeld
                          (try simp only [Act.put, List.setIfInBounds_toArray, List.set_cons_zero, List.set_cons_succ])
                          refine wpAnyH_take (i := 32) (oi := ({ dst := some 129, op := Go.Op.binOp Go.BinOp.eql 9 (Go.Operand.tmp 126) (Go.Operand.tmp 128) 9, type := 4, pos := "law.go:230", after := #[{ on := 29, ground := Go.Ground.data }, { on := 31, ground := Go.Ground.data }, { on := 26, ground := Go.Ground.guard }], guard := some (26, true) } : Oper)) (v := ?_) rfl (by kernel_rfl) (by kernel_rfl) (by kernel_rfl) (fun _ _ _ h => h) (Or.inl ⟨by rfl, ?_⟩) trivial ?_
                          rotate_left 1
                          · (intro w_ hSw_; go_simp; (try with_reducible rfl))
                          (try simp only [Act.put, List.setIfInBounds_toArray, List.set_cons_zero, List.set_cons_succ])
                          refine wpAnyH_take (i := 33) (oi := ({ dst := some 130, op := Go.Op.pick (Go.Operand.tmp 123) (Go.Operand.tmp 129) (Go.Operand.const (Go.Value.bool false)), type := 4, pos := "law.go:230", after := #[{ on := 26, ground := Go.Ground.data }, { on := 32, ground := Go.Ground.data }], guard := none } : Oper)) (v := ?_) rfl (by kernel_rfl) (by kernel_rfl) (by kernel_rfl) (fun _ _ _ h => h) (Or.inl ⟨by rfl, ?_⟩) trivial ?_
                          rotate_left 1
                          · (intro w_ hSw_; go_simp; (try with_reducible rfl))
                          (try simp only [Act.put, List.setIfInBounds_toArray, List.set_cons_zero, List.set_cons_succ])
                          refine wpAnyH_take (i := 34) (oi := ({ dst := some 2, op := Go.Op.assign (Go.Operand.tmp 130), type := 4, pos := "law.go:230", after := #[{ on := 33, ground := Go.Ground.data }, { on := 31, ground := Go.Ground.chain }, { on := 0, ground := Go.Ground.phase }, { on := 1, ground := Go.Ground.phase }, { on := 2, ground := Go.Ground.phase }, { on := 3, ground := Go.Ground.phase }, { on := 4, ground := Go.Ground.phase }, { on := 5, ground := Go.Ground.phase }, { on := 6, ground := Go.Ground.phase }, { on := 7, ground := Go.Ground.phase }, { on := 8, ground := Go.Ground.phase }, { on := 9, ground := Go.Ground.phase }, { on := 10, ground := Go.Ground.phase }, { on := 11, ground := Go.Ground.phase }, { on := 12, ground := Go.Ground.phase }, { on := 13, ground := Go.Ground.phase }, { on := 14, ground := Go.Ground.phase }, { on := 15, ground := Go.Ground.phase }, { on := 16, ground := Go.Ground.phase }, { on := 17, ground := Go.Ground.phase }, { on := 18, ground := Go.Ground.phase }, { on := 19, ground := Go.Ground.phase }, { on := 20, ground := Go.Ground.phase }, { on := 21, ground := Go.Ground.phase }, { on := 22, ground := Go.Ground.phase }, { on := 23, ground := Go.Ground.phase }, { on := 24, ground := Go.Ground.phase }, { on := 25, ground := Go.Ground.phase }, { on := 26, ground := Go.Ground.phase }, { on := 27, ground := Go.Ground.phase }, { on := 28, ground := Go.Ground.phase }, { on := 29, ground := Go.Ground.phase }, { on := 30, ground := Go.Ground.phase }, { on := 31, ground := Go.Ground.phase }, { on := 32, ground := Go.Ground.phase }, { on := 33, ground := Go.Ground.phase }], guard := none } : Oper)) (v := ?_) rfl (by kernel_rfl) (by kernel_rfl) (by kernel_rfl) (fun _ _ _ h => h) (Or.inl ⟨by rfl, ?_⟩) trivial ?_
                          rotate_left 1
                          · (intro w_ hSw_; go_simp; (try with_reducible rfl))
                          (try simp only [Act.put, List.setIfInBounds_toArray, List.set_cons_zero, List.set_cons_succ])
                          refine wpAnyH_done (by kernel_rfl) ?_ _
                          go_wp2
                          go_ret
                          exact ⟨rfl, (by repeat (first | (with_reducible first | exact HBW.out | apply below_alloc | apply pw_below_drewN | apply below_drew1) | exact HBW.out | refine below_step ?_ (HFB.out _)))⟩
                        exact AllReadyH.nil
                      exact AllReadyH.nil
                    exact AllReadyH.nil
                  exact AllReadyH.nil
                exact AllReadyH.nil
              refine AllReadyH.cons (o := ({ dst := some 119, op := Go.Op.convert 9 27 (Go.Operand.tmp 118), type := 27, pos := "law.go:230", after := #[{ on := 21, ground := Go.Ground.data }, { on := 18, ground := Go.Ground.guard }], guard := some (18, true) } : Oper)) rfl (fun K hK => ?_) ?_
              · go_simp
                refine hK.out _ _ trivial (fun hHeld => ?_)
                clear hK K hHeld
                (try simp only [Act.put, List.setIfInBounds_toArray, List.set_cons_zero, List.set_cons_succ])
                refine wpAnyH_ready (rs := [20, 23]) (by kernel_rfl) (by simp) ?_
                refine AllReadyH.cons (o := ({ dst := some 117, op := Go.Op.call { callee := Go.Callee.value (Go.Operand.func 19), args := #[Go.Operand.tmp 116], argTypes := #[9] }, type := 9, pos := "law.go:230", after := #[{ on := 19, ground := Go.Ground.data }, { on := 18, ground := Go.Ground.chain }, { on := 18, ground := Go.Ground.guard }], guard := some (18, true) } : Oper)) rfl (fun K hK => ?_) ?_
                · go_simp
                  go_at_call 19
                  refine (utf_Mend.calls s M _ HMF.out).mono ?_
                  rintro e w9 ⟨rfl, hb9⟩
                  (try have hbk9 := HRB.out _ _ hb9)
                  have hbw : Below w.heap.size w w9 := (by refine below_step ?_ hb9; repeat (first | (with_reducible first | exact HBW.out | apply below_alloc | apply pw_below_drewN | apply below_drew1) | exact HBW.out | refine below_step ?_ (HFB.out _)))
                  clear HBW
                  have HBW := Aside0.mk hbw
                  clear hb9 hbw
                  (try go_wp2_with fail)
                  refine hK.out _ _ trivial (fun hHeld => ?_)
                  clear hK K hHeld
                  (try simp only [Act.put, List.setIfInBounds_toArray, List.set_cons_zero, List.set_cons_succ])
                  refine wpAnyH_ready (rs := [23]) (by kernel_rfl) (by simp) ?_
                  refine AllReadyH.cons (o := ({ dst := some 120, op := Go.Op.convert 27 9 (Go.Operand.tmp 119), type := 9, pos := "law.go:230", after := #[{ on := 22, ground := Go.Ground.data }, { on := 18, ground := Go.Ground.guard }], guard := some (18, true) } : Oper)) rfl (fun K hK => ?_) ?_
                  · go_simp
                    refine hK.out _ _ trivial (fun hHeld => ?_)
                    clear hK K hHeld
                    (try simp only [Act.put, List.setIfInBounds_toArray, List.set_cons_zero, List.set_cons_succ])
                    refine wpAnyH_take (i := 24) (oi := ({ dst := some 121, op := Go.Op.binOp Go.BinOp.eql 9 (Go.Operand.tmp 117) (Go.Operand.tmp 120) 9, type := 4, pos := "law.go:230", after := #[{ on := 20, ground := Go.Ground.data }, { on := 23, ground := Go.Ground.data }, { on := 18, ground := Go.Ground.guard }], guard := some (18, true) } : Oper)) (v := ?_) rfl (by kernel_rfl) (by kernel_rfl) (by kernel_rfl) (fun _ _ _ h => h) (Or.inl ⟨by rfl, ?_⟩) trivial ?_
                    rotate_left 1
                    · (intro w_ hSw_; go_simp; (try with_reducible rfl))
                    (try simp only [Act.put, List.setIfInBounds_toArray, List.set_cons_zero, List.set_cons_succ])
                    refine wpAnyH_take (i := 25) (oi := ({ dst := some 122, op := Go.Op.pick (Go.Operand.tmp 115) (Go.Operand.tmp 121) (Go.Operand.const (Go.Value.bool false)), type := 4, pos := "law.go:230", after := #[{ on := 18, ground := Go.Ground.data }, { on := 24, ground := Go.Ground.data }], guard := none } : Oper)) (v := ?_) rfl (by kernel_rfl) (by kernel_rfl) (by kernel_rfl) (fun _ _ _ h => h) (Or.inl ⟨by rfl, ?_⟩) trivial ?_
                    rotate_left 1
                    · (intro w_ hSw_; go_simp; (try with_reducible rfl))
                    (try simp only [Act.put, List.setIfInBounds_toArray, List.set_cons_zero, List.set_cons_succ])
                    refine wpAnyH_take (i := 26) (oi := ({ dst := some 123, op := Go.Op.move (Go.Operand.tmp 122), type := 4, pos := "law.go:230", after := #[{ on := 25, ground := Go.Ground.data }, { on := 20, ground := Go.Ground.chain }], guard := none } : Oper)) (v := ?_) rfl (by kernel_rfl) (by kernel_rfl) (by kernel_rfl) (fun _ _ _ h => h) (Or.inl ⟨by rfl, ?_⟩) trivial ?_
                    rotate_left 1
                    · (intro w_ hSw_; go_simp; (try with_reducible rfl))
                    (try simp only [Act.put, List.setIfInBounds_toArray, List.set_cons_zero, List.set_cons_succ])
                    refine wpAnyH_take (i := 27) (oi := ({ dst := some 124, op := Go.Op.move (Go.Operand.tmp 0), type := 9, pos := "law.go:230", after := #[{ on := 26, ground := Go.Ground.guard }], guard := some (26, true) } : Oper)) (v := ?_) rfl (by kernel_rfl) (by kernel_rfl) (by kernel_rfl) (fun _ _ _ h => h) (Or.inl ⟨by rfl, ?_⟩) trivial ?_
                    rotate_left 1
                    · (intro w_ hSw_; go_simp; (try with_reducible rfl))
                    (try simp only [Act.put, List.setIfInBounds_toArray, List.set_cons_zero, List.set_cons_succ])
                    refine wpAnyH_take (i := 30) (oi := ({ dst := some 127, op := Go.Op.move (Go.Operand.tmp 0), type := 9, pos := "law.go:230", after := #[{ on := 26, ground := Go.Ground.guard }], guard := some (26, true) } : Oper)) (v := ?_) rfl (by kernel_rfl) (by kernel_rfl) (by kernel_rfl) (fun _ _ _ h => h) (Or.inl ⟨by rfl, ?_⟩) trivial ?_
                    rotate_left 1
                    · (intro w_ hSw_; go_simp; (try with_reducible rfl))
                    (try simp only [Act.put, List.setIfInBounds_toArray, List.set_cons_zero, List.set_cons_succ])
                    refine wpAnyH_ready (rs := [28]) (by kernel_rfl) (by simp) ?_
                    refine AllReadyH.cons (o := ({ dst := some 125, op := Go.Op.call { callee := Go.Callee.value (Go.Operand.func 18), args := #[Go.Operand.tmp 124], argTypes := #[9] }, type := 27, pos := "law.go:230", after := #[{ on := 27, ground := Go.Ground.data }, { on := 26, ground := Go.Ground.chain }, { on := 26, ground := Go.Ground.guard }], guard := some (26, true) } : Oper)) rfl (fun K hK => ?_) ?_
                    · go_simp
                      go_at_call 18
                      refine (utf_Runes.calls s R _ HRF.out).mono ?_
                      rintro e w7 ⟨v7, rfl, hR7, hb7⟩
                      obtain ⟨A7, c7, rfl, hc7, hC7⟩ := Kd.R_reads hR7
                      have HC7 := Aside0.mk hC7
                      (try have HROW7 := Aside0.mk (HRC.out _ _ hb7))
                      have hbw : Below w.heap.size w w7 := (by refine below_step ?_ hb7; repeat (first | (with_reducible first | exact HBW.out | apply below_alloc | apply pw_below_drewN | apply below_drew1) | exact HBW.out | refine below_step ?_ (HFB.out _)))
                      clear HBW
                      have HBW := Aside0.mk hbw
                      clear hb7 hbw
                      clear hR7 hC7
                      (try go_wp2_with fail)
                      refine hK.out _ _ trivial (fun hHeld => ?_)
                      clear hK K hHeld
                      (try simp only [Act.put, List.setIfInBounds_toArray, List.set_cons_zero, List.set_cons_succ])
                      refine wpAnyH_ready (rs := [29]) (by kernel_rfl) (by simp) ?_
                      refine AllReadyH.cons (o := ({ dst := some 126, op := Go.Op.call { callee := Go.Callee.value (Go.Operand.func 20), args := #[Go.Operand.tmp 125], argTypes := #[27] }, type := 9, pos := "law.go:230", after := #[{ on := 28, ground := Go.Ground.data }, { on := 28, ground := Go.Ground.chain }, { on := 26, ground := Go.Ground.guard }], guard := some (26, true) } : Oper)) rfl (fun K hK => ?_) ?_
                      · go_simp
                        go_at_call 20
                        refine (utf_FromRunes.calls _ _ R M _ HC7.out hc7 HFF.out).mono ?_
                        rintro e wa ⟨rfl, ⟨nd, rfl⟩⟩
                        (try go_wp2_with fail)
                        refine hK.out _ _ trivial (fun hHeld => ?_)
                        clear hK K hHeld
                        (try simp only [Act.put, List.setIfInBounds_toArray, List.set_cons_zero, List.set_cons_succ])
                        refine wpAnyH_ready (rs := [31]) (by kernel_rfl) (by simp) ?_
                        refine AllReadyH.cons (o := ({ dst := some 128, op := Go.Op.call { callee := Go.Callee.value (Go.Operand.func 19), args := #[Go.Operand.tmp 127], argTypes := #[9] }, type := 9, pos := "law.go:230", after := #[{ on := 30, ground := Go.Ground.data }, { on := 29, ground := Go.Ground.chain }, { on := 26, ground := Go.Ground.guard }], guard := some (26, true) } : Oper)) rfl (fun K hK => ?_) ?_
                        · go_simp
                          go_at_call 19
                          refine (utf_Mend.calls s M _ HMF.out).mono ?_
                          rintro e w9 ⟨rfl, hb9⟩
                          (try have hbk9 := HRB.out _ _ hb9)
                          have hbw : Below w.heap.size w w9 := (by refine below_step ?_ hb9; repeat (first | (with_reducible first | exact HBW.out | apply below_alloc | apply pw_below_drewN | apply below_drew1) | exact HBW.out | refine below_step ?_ (HFB.out _)))
                          clear HBW
                          have HBW := Aside0.mk hbw
                          clear hb9 hbw
                          (try go_wp2_with fail)
                          refine hK.out _ _ trivial (fun hHeld => ?_)
                          clear hK K hHeld
                          (try simp only [Act.put, List.setIfInBounds_toArray, List.set_cons_zero, List.set_cons_succ])
                          refine wpAnyH_take (i := 32) (oi := ({ dst := some 129, op := Go.Op.binOp Go.BinOp.eql 9 (Go.Operand.tmp 126) (Go.Operand.tmp 128) 9, type := 4, pos := "law.go:230", after := #[{ on := 29, ground := Go.Ground.data }, { on := 31, ground := Go.Ground.data }, { on := 26, ground := Go.Ground.guard }], guard := some (26, true) } : Oper)) (v := ?_) rfl (by kernel_rfl) (by kernel_rfl) (by kernel_rfl) (fun _ _ _ h => h) (Or.inl ⟨by rfl, ?_⟩) trivial ?_
                          rotate_left 1
                          · (intro w_ hSw_; go_simp; (try with_reducible rfl))
                          (try simp only [Act.put, List.setIfInBounds_toArray, List.set_cons_zero, List.set_cons_succ])
                          refine wpAnyH_take (i := 33) (oi := ({ dst := some 130, op := Go.Op.pick (Go.Operand.tmp 123) (Go.Operand.tmp 129) (Go.Operand.const (Go.Value.bool false)), type := 4, pos := "law.go:230", after := #[{ on := 26, ground := Go.Ground.data }, { on := 32, ground := Go.Ground.data }], guard := none } : Oper)) (v := ?_) rfl (by kernel_rfl) (by kernel_rfl) (by kernel_rfl) (fun _ _ _ h => h) (Or.inl ⟨by rfl, ?_⟩) trivial ?_
                          rotate_left 1
                          · (intro w_ hSw_; go_simp; (try with_reducible rfl))
                          (try simp only [Act.put, List.setIfInBounds_toArray, List.set_cons_zero, List.set_cons_succ])
                          refine wpAnyH_take (i := 34) (oi := ({ dst := some 2, op := Go.Op.assign (Go.Operand.tmp 130), type := 4, pos := "law.go:230", after := #[{ on := 33, ground := Go.Ground.data }, { on := 31, ground := Go.Ground.chain }, { on := 0, ground := Go.Ground.phase }, { on := 1, ground := Go.Ground.phase }, { on := 2, ground := Go.Ground.phase }, { on := 3, ground := Go.Ground.phase }, { on := 4, ground := Go.Ground.phase }, { on := 5, ground := Go.Ground.phase }, { on := 6, ground := Go.Ground.phase }, { on := 7, ground := Go.Ground.phase }, { on := 8, ground := Go.Ground.phase }, { on := 9, ground := Go.Ground.phase }, { on := 10, ground := Go.Ground.phase }, { on := 11, ground := Go.Ground.phase }, { on := 12, ground := Go.Ground.phase }, { on := 13, ground := Go.Ground.phase }, { on := 14, ground := Go.Ground.phase }, { on := 15, ground := Go.Ground.phase }, { on := 16, ground := Go.Ground.phase }, { on := 17, ground := Go.Ground.phase }, { on := 18, ground := Go.Ground.phase }, { on := 19, ground := Go.Ground.phase }, { on := 20, ground := Go.Ground.phase }, { on := 21, ground := Go.Ground.phase }, { on := 22, ground := Go.Ground.phase }, { on := 23, ground := Go.Ground.phase }, { on := 24, ground := Go.Ground.phase }, { on := 25, ground := Go.Ground.phase }, { on := 26, ground := Go.Ground.phase }, { on := 27, ground := Go.Ground.phase }, { on := 28, ground := Go.Ground.phase }, { on := 29, ground := Go.Ground.phase }, { on := 30, ground := Go.Ground.phase }, { on := 31, ground := Go.Ground.phase }, { on := 32, ground := Go.Ground.phase }, { on := 33, ground := Go.Ground.phase }], guard := none } : Oper)) (v := ?_) rfl (by kernel_rfl) (by kernel_rfl) (by kernel_rfl) (fun _ _ _ h => h) (Or.inl ⟨by rfl, ?_⟩) trivial ?_
                          rotate_left 1
                          · (intro w_ hSw_; go_simp; (try with_reducible rfl))
                          (try simp only [Act.put, List.setIfInBounds_toArray, List.set_cons_zero, List.set_cons_succ])
                          refine wpAnyH_done (by kernel_rfl) ?_ _
                          go_wp2
                          go_ret
                          exact ⟨rfl, (by repeat (first | (with_reducible first | exact HBW.out | apply below_alloc | apply pw_below_drewN | apply below_drew1) | exact HBW.out | refine below_step ?_ (HFB.out _)))⟩
                        exact AllReadyH.nil
                      exact AllReadyH.nil
                    exact AllReadyH.nil
                  exact AllReadyH.nil
                refine AllReadyH.cons (o := ({ dst := some 120, op := Go.Op.convert 27 9 (Go.Operand.tmp 119), type := 9, pos := "law.go:230", after := #[{ on := 22, ground := Go.Ground.data }, { on := 18, ground := Go.Ground.guard }], guard := some (18, true) } : Oper)) rfl (fun K hK => ?_) ?_
                · go_simp
                  refine hK.out _ _ trivial (fun hHeld => ?_)
                  clear hK K hHeld
                  (try simp only [Act.put, List.setIfInBounds_toArray, List.set_cons_zero, List.set_cons_succ])
                  refine wpAnyH_ready (rs := [20]) (by kernel_rfl) (by simp) ?_
                  refine AllReadyH.cons (o := ({ dst := some 117, op := Go.Op.call { callee := Go.Callee.value (Go.Operand.func 19), args := #[Go.Operand.tmp 116], argTypes := #[9] }, type := 9, pos := "law.go:230", after := #[{ on := 19, ground := Go.Ground.data }, { on := 18, ground := Go.Ground.chain }, { on := 18, ground := Go.Ground.guard }], guard := some (18, true) } : Oper)) rfl (fun K hK => ?_) ?_
                  · go_simp
                    go_at_call 19
                    refine (utf_Mend.calls s M _ HMF.out).mono ?_
                    rintro e w9 ⟨rfl, hb9⟩
                    (try have hbk9 := HRB.out _ _ hb9)
                    have hbw : Below w.heap.size w w9 := (by refine below_step ?_ hb9; repeat (first | (with_reducible first | exact HBW.out | apply below_alloc | apply pw_below_drewN | apply below_drew1) | exact HBW.out | refine below_step ?_ (HFB.out _)))
                    clear HBW
                    have HBW := Aside0.mk hbw
                    clear hb9 hbw
                    (try go_wp2_with fail)
                    refine hK.out _ _ trivial (fun hHeld => ?_)
                    clear hK K hHeld
                    (try simp only [Act.put, List.setIfInBounds_toArray, List.set_cons_zero, List.set_cons_succ])
                    refine wpAnyH_take (i := 24) (oi := ({ dst := some 121, op := Go.Op.binOp Go.BinOp.eql 9 (Go.Operand.tmp 117) (Go.Operand.tmp 120) 9, type := 4, pos := "law.go:230", after := #[{ on := 20, ground := Go.Ground.data }, { on := 23, ground := Go.Ground.data }, { on := 18, ground := Go.Ground.guard }], guard := some (18, true) } : Oper)) (v := ?_) rfl (by kernel_rfl) (by kernel_rfl) (by kernel_rfl) (fun _ _ _ h => h) (Or.inl ⟨by rfl, ?_⟩) trivial ?_
                    rotate_left 1
                    · (intro w_ hSw_; go_simp; (try with_reducible rfl))
                    (try simp only [Act.put, List.setIfInBounds_toArray, List.set_cons_zero, List.set_cons_succ])
                    refine wpAnyH_take (i := 25) (oi := ({ dst := some 122, op := Go.Op.pick (Go.Operand.tmp 115) (Go.Operand.tmp 121) (Go.Operand.const (Go.Value.bool false)), type := 4, pos := "law.go:230", after := #[{ on := 18, ground := Go.Ground.data }, { on := 24, ground := Go.Ground.data }], guard := none } : Oper)) (v := ?_) rfl (by kernel_rfl) (by kernel_rfl) (by kernel_rfl) (fun _ _ _ h => h) (Or.inl ⟨by rfl, ?_⟩) trivial ?_
                    rotate_left 1
                    · (intro w_ hSw_; go_simp; (try with_reducible rfl))
                    (try simp only [Act.put, List.setIfInBounds_toArray, List.set_cons_zero, List.set_cons_succ])
                    refine wpAnyH_take (i := 26) (oi := ({ dst := some 123, op := Go.Op.move (Go.Operand.tmp 122), type := 4, pos := "law.go:230", after := #[{ on := 25, ground := Go.Ground.data }, { on := 20, ground := Go.Ground.chain }], guard := none } : Oper)) (v := ?_) rfl (by kernel_rfl) (by kernel_rfl) (by kernel_rfl) (fun _ _ _ h => h) (Or.inl ⟨by rfl, ?_⟩) trivial ?_
                    rotate_left 1
                    · (intro w_ hSw_; go_simp; (try with_reducible rfl))
                    (try simp only [Act.put, List.setIfInBounds_toArray, List.set_cons_zero, List.set_cons_succ])
                    refine wpAnyH_take (i := 27) (oi := ({ dst := some 124, op := Go.Op.move (Go.Operand.tmp 0), type := 9, pos := "law.go:230", after := #[{ on := 26, ground := Go.Ground.guard }], guard := some (26, true) } : Oper)) (v := ?_) rfl (by kernel_rfl) (by kernel_rfl) (by kernel_rfl) (fun _ _ _ h => h) (Or.inl ⟨by rfl, ?_⟩) trivial ?_
                    rotate_left 1
                    · (intro w_ hSw_; go_simp; (try with_reducible rfl))
                    (try simp only [Act.put, List.setIfInBounds_toArray, List.set_cons_zero, List.set_cons_succ])
                    refine wpAnyH_take (i := 30) (oi := ({ dst := some 127, op := Go.Op.move (Go.Operand.tmp 0), type := 9, pos := "law.go:230", after := #[{ on := 26, ground := Go.Ground.guard }], guard := some (26, true) } : Oper)) (v := ?_) rfl (by kernel_rfl) (by kernel_rfl) (by kernel_rfl) (fun _ _ _ h => h) (Or.inl ⟨by rfl, ?_⟩) trivial ?_
                    rotate_left 1
                    · (intro w_ hSw_; go_simp; (try with_reducible rfl))
                    (try simp only [Act.put, List.setIfInBounds_toArray, List.set_cons_zero, List.set_cons_succ])
                    refine wpAnyH_ready (rs := [28]) (by kernel_rfl) (by simp) ?_
                    refine AllReadyH.cons (o := ({ dst := some 125, op := Go.Op.call { callee := Go.Callee.value (Go.Operand.func 18), args := #[Go.Operand.tmp 124], argTypes := #[9] }, type := 27, pos := "law.go:230", after := #[{ on := 27, ground := Go.Ground.data }, { on := 26, ground := Go.Ground.chain }, { on := 26, ground := Go.Ground.guard }], guard := some (26, true) } : Oper)) rfl (fun K hK => ?_) ?_
                    · go_simp
                      go_at_call 18
                      refine (utf_Runes.calls s R _ HRF.out).mono ?_
                      rintro e w7 ⟨v7, rfl, hR7, hb7⟩
                      obtain ⟨A7, c7, rfl, hc7, hC7⟩ := Kd.R_reads hR7
                      have HC7 := Aside0.mk hC7
                      (try have HROW7 := Aside0.mk (HRC.out _ _ hb7))
                      have hbw : Below w.heap.size w w7 := (by refine below_step ?_ hb7; repeat (first | (with_reducible first | exact HBW.out | apply below_alloc | apply pw_below_drewN | apply below_drew1) | exact HBW.out | refine below_step ?_ (HFB.out _)))
                      clear HBW
                      have HBW := Aside0.mk hbw
                      clear hb7 hbw
                      clear hR7 hC7
                      (try go_wp2_with fail)
                      refine hK.out _ _ trivial (fun hHeld => ?_)
                      clear hK K hHeld
                      (try simp only [Act.put, List.setIfInBounds_toArray, List.set_cons_zero, List.set_cons_succ])
                      refine wpAnyH_ready (rs := [29]) (by kernel_rfl) (by simp) ?_
                      refine AllReadyH.cons (o := ({ dst := some 126, op := Go.Op.call { callee := Go.Callee.value (Go.Operand.func 20), args := #[Go.Operand.tmp 125], argTypes := #[27] }, type := 9, pos := "law.go:230", after := #[{ on := 28, ground := Go.Ground.data }, { on := 28, ground := Go.Ground.chain }, { on := 26, ground := Go.Ground.guard }], guard := some (26, true) } : Oper)) rfl (fun K hK => ?_) ?_
                      · go_simp
                        go_at_call 20
                        refine (utf_FromRunes.calls _ _ R M _ HC7.out hc7 HFF.out).mono ?_
                        rintro e wa ⟨rfl, ⟨nd, rfl⟩⟩
                        (try go_wp2_with fail)
                        refine hK.out _ _ trivial (fun hHeld => ?_)
                        clear hK K hHeld
                        (try simp only [Act.put, List.setIfInBounds_toArray, List.set_cons_zero, List.set_cons_succ])
                        refine wpAnyH_ready (rs := [31]) (by kernel_rfl) (by simp) ?_
                        refine AllReadyH.cons (o := ({ dst := some 128, op := Go.Op.call { callee := Go.Callee.value (Go.Operand.func 19), args := #[Go.Operand.tmp 127], argTypes := #[9] }, type := 9, pos := "law.go:230", after := #[{ on := 30, ground := Go.Ground.data }, { on := 29, ground := Go.Ground.chain }, { on := 26, ground := Go.Ground.guard }], guard := some (26, true) } : Oper)) rfl (fun K hK => ?_) ?_
                        · go_simp
                          go_at_call 19
                          refine (utf_Mend.calls s M _ HMF.out).mono ?_
                          rintro e w9 ⟨rfl, hb9⟩
                          (try have hbk9 := HRB.out _ _ hb9)
                          have hbw : Below w.heap.size w w9 := (by refine below_step ?_ hb9; repeat (first | (with_reducible first | exact HBW.out | apply below_alloc | apply pw_below_drewN | apply below_drew1) | exact HBW.out | refine below_step ?_ (HFB.out _)))
                          clear HBW
                          have HBW := Aside0.mk hbw
                          clear hb9 hbw
                          (try go_wp2_with fail)
                          refine hK.out _ _ trivial (fun hHeld => ?_)
                          clear hK K hHeld
                          (try simp only [Act.put, List.setIfInBounds_toArray, List.set_cons_zero, List.set_cons_succ])
                          refine wpAnyH_take (i := 32) (oi := ({ dst := some 129, op := Go.Op.binOp Go.BinOp.eql 9 (Go.Operand.tmp 126) (Go.Operand.tmp 128) 9, type := 4, pos := "law.go:230", after := #[{ on := 29, ground := Go.Ground.data }, { on := 31, ground := Go.Ground.data }, { on := 26, ground := Go.Ground.guard }], guard := some (26, true) } : Oper)) (v := ?_) rfl (by kernel_rfl) (by kernel_rfl) (by kernel_rfl) (fun _ _ _ h => h) (Or.inl ⟨by rfl, ?_⟩) trivial ?_
                          rotate_left 1
                          · (intro w_ hSw_; go_simp; (try with_reducible rfl))
                          (try simp only [Act.put, List.setIfInBounds_toArray, List.set_cons_zero, List.set_cons_succ])
                          refine wpAnyH_take (i := 33) (oi := ({ dst := some 130, op := Go.Op.pick (Go.Operand.tmp 123) (Go.Operand.tmp 129) (Go.Operand.const (Go.Value.bool false)), type := 4, pos := "law.go:230", after := #[{ on := 26, ground := Go.Ground.data }, { on := 32, ground := Go.Ground.data }], guard := none } : Oper)) (v := ?_) rfl (by kernel_rfl) (by kernel_rfl) (by kernel_rfl) (fun _ _ _ h => h) (Or.inl ⟨by rfl, ?_⟩) trivial ?_
                          rotate_left 1
                          · (intro w_ hSw_; go_simp; (try with_reducible rfl))
                          (try simp only [Act.put, List.setIfInBounds_toArray, List.set_cons_zero, List.set_cons_succ])
                          refine wpAnyH_take (i := 34) (oi := ({ dst := some 2, op := Go.Op.assign (Go.Operand.tmp 130), type := 4, pos := "law.go:230", after := #[{ on := 33, ground := Go.Ground.data }, { on := 31, ground := Go.Ground.chain }, { on := 0, ground := Go.Ground.phase }, { on := 1, ground := Go.Ground.phase }, { on := 2, ground := Go.Ground.phase }, { on := 3, ground := Go.Ground.phase }, { on := 4, ground := Go.Ground.phase }, { on := 5, ground := Go.Ground.phase }, { on := 6, ground := Go.Ground.phase }, { on := 7, ground := Go.Ground.phase }, { on := 8, ground := Go.Ground.phase }, { on := 9, ground := Go.Ground.phase }, { on := 10, ground := Go.Ground.phase }, { on := 11, ground := Go.Ground.phase }, { on := 12, ground := Go.Ground.phase }, { on := 13, ground := Go.Ground.phase }, { on := 14, ground := Go.Ground.phase }, { on := 15, ground := Go.Ground.phase }, { on := 16, ground := Go.Ground.phase }, { on := 17, ground := Go.Ground.phase }, { on := 18, ground := Go.Ground.phase }, { on := 19, ground := Go.Ground.phase }, { on := 20, ground := Go.Ground.phase }, { on := 21, ground := Go.Ground.phase }, { on := 22, ground := Go.Ground.phase }, { on := 23, ground := Go.Ground.phase }, { on := 24, ground := Go.Ground.phase }, { on := 25, ground := Go.Ground.phase }, { on := 26, ground := Go.Ground.phase }, { on := 27, ground := Go.Ground.phase }, { on := 28, ground := Go.Ground.phase }, { on := 29, ground := Go.Ground.phase }, { on := 30, ground := Go.Ground.phase }, { on := 31, ground := Go.Ground.phase }, { on := 32, ground := Go.Ground.phase }, { on := 33, ground := Go.Ground.phase }], guard := none } : Oper)) (v := ?_) rfl (by kernel_rfl) (by kernel_rfl) (by kernel_rfl) (fun _ _ _ h => h) (Or.inl ⟨by rfl, ?_⟩) trivial ?_
                          rotate_left 1
                          · (intro w_ hSw_; go_simp; (try with_reducible rfl))
                          (try simp only [Act.put, List.setIfInBounds_toArray, List.set_cons_zero, List.set_cons_succ])
                          refine wpAnyH_done (by kernel_rfl) ?_ _
                          go_wp2
                          go_ret
                          exact ⟨rfl, (by repeat (first | (with_reducible first | exact HBW.out | apply below_alloc | apply pw_below_drewN | apply below_drew1) | exact HBW.out | refine below_step ?_ (HFB.out _)))⟩
                        exact AllReadyH.nil
                      exact AllReadyH.nil
                    exact AllReadyH.nil
                  exact AllReadyH.nil
                exact AllReadyH.nil
              exact AllReadyH.nil
            exact AllReadyH.nil
          exact AllReadyH.nil
        refine AllReadyH.cons (o := ({ dst := some 112, op := Go.Op.convert 9 27 (Go.Operand.tmp 111), type := 27, pos := "law.go:230", after := #[{ on := 14, ground := Go.Ground.data }, { on := 11, ground := Go.Ground.guard }], guard := some (11, true) } : Oper)) rfl (fun K hK => ?_) ?_
        · go_simp
          refine hK.out _ _ trivial (fun hHeld => ?_)
          clear hK K hHeld
          (try simp only [Act.put, List.setIfInBounds_toArray, List.set_cons_zero, List.set_cons_succ])
          refine wpAnyH_ready (rs := [13]) (by kernel_rfl) (by simp) ?_
          refine AllReadyH.cons (o := ({ dst := some 110, op := Go.Op.call { callee := Go.Callee.value (Go.Operand.func 18), args := #[Go.Operand.tmp 109], argTypes := #[9] }, type := 27, pos := "law.go:230", after := #[{ on := 12, ground := Go.Ground.data }, { on := 11, ground := Go.Ground.chain }, { on := 11, ground := Go.Ground.guard }], guard := some (11, true) } : Oper)) rfl (fun K hK => ?_) ?_
          · go_simp
            go_at_call 18
            refine (utf_Runes.calls s R _ HRF.out).mono ?_
            rintro e w7 ⟨v7, rfl, hR7, hb7⟩
            obtain ⟨A7, c7, rfl, hc7, hC7⟩ := Kd.R_reads hR7
            have HC7 := Aside0.mk hC7
            (try have HROW7 := Aside0.mk (HRC.out _ _ hb7))
            have hbw : Below w.heap.size w w7 := (by refine below_step ?_ hb7; repeat (first | (with_reducible first | exact HBW.out | apply below_alloc | apply pw_below_drewN | apply below_drew1) | exact HBW.out | refine below_step ?_ (HFB.out _)))
            clear HBW
            have HBW := Aside0.mk hbw
            clear hb7 hbw
            clear hR7 hC7
            (try go_wp2_with fail)
            refine hK.out _ _ trivial (fun hHeld => ?_)
            clear hK K hHeld
            (try simp only [Act.put, List.setIfInBounds_toArray, List.set_cons_zero, List.set_cons_succ])
            refine wpAnyH_ready (rs := [16]) (by kernel_rfl) (by simp) ?_
            refine AllReadyH.cons (o := ({ dst := some 113, op := Go.Op.call { callee := Go.Callee.value (Go.Operand.func 17), args := #[Go.Operand.tmp 110, Go.Operand.tmp 112], argTypes := #[27, 27] }, type := 4, pos := "law.go:230", after := #[{ on := 13, ground := Go.Ground.data }, { on := 15, ground := Go.Ground.data }, { on := 13, ground := Go.Ground.chain }, { on := 11, ground := Go.Ground.guard }], guard := some (11, true) } : Oper)) rfl (fun K hK => ?_) ?_
            · go_simp
              go_at_call 17
              refine (thistlelaw01_same.calls ks _ _ R _ _ R true _ ?_ hc7 ?_ (HGE.out _) HKS.out).mono ?_
              · first | exact HC7.out | exact Kd.C_below HC7.out (HFB.out _)
              · first | exact HRC.out _ _ (Below.refl _ _) | exact HROW7.out
              rintro e w8 ⟨rfl, ⟨nd, rfl⟩⟩
              (try go_wp2_with fail)
              refine hK.out _ _ trivial (fun hHeld => ?_)
              clear hK K hHeld
              (try simp only [Act.put, List.setIfInBounds_toArray, List.set_cons_zero, List.set_cons_succ])
              refine wpAnyH_take (i := 17) (oi := ({ dst := some 114, op := Go.Op.pick (Go.Operand.tmp 108) (Go.Operand.tmp 113) (Go.Operand.const (Go.Value.bool false)), type := 4, pos := "law.go:230", after := #[{ on := 11, ground := Go.Ground.data }, { on := 16, ground := Go.Ground.data }], guard := none } : Oper)) (v := ?_) rfl (by kernel_rfl) (by kernel_rfl) (by kernel_rfl) (fun _ _ _ h => h) (Or.inl ⟨by rfl, ?_⟩) trivial ?_
              rotate_left 1
              · (intro w_ hSw_; go_simp; (try with_reducible rfl))
              (try simp only [Act.put, List.setIfInBounds_toArray, List.set_cons_zero, List.set_cons_succ])
              refine wpAnyH_take (i := 18) (oi := ({ dst := some 115, op := Go.Op.move (Go.Operand.tmp 114), type := 4, pos := "law.go:230", after := #[{ on := 17, ground := Go.Ground.data }, { on := 16, ground := Go.Ground.chain }], guard := none } : Oper)) (v := ?_) rfl (by kernel_rfl) (by kernel_rfl) (by kernel_rfl) (fun _ _ _ h => h) (Or.inl ⟨by rfl, ?_⟩) trivial ?_
              rotate_left 1
              · (intro w_ hSw_; go_simp; (try with_reducible rfl))
              (try simp only [Act.put, List.setIfInBounds_toArray, List.set_cons_zero, List.set_cons_succ])
              refine wpAnyH_take (i := 19) (oi := ({ dst := some 116, op := Go.Op.move (Go.Operand.tmp 0), type := 9, pos := "law.go:230", after := #[{ on := 18, ground := Go.Ground.guard }], guard := some (18, true) } : Oper)) (v := ?_) rfl (by kernel_rfl) (by kernel_rfl) (by kernel_rfl) (fun _ _ _ h => h) (Or.inl ⟨by rfl, ?_⟩) trivial ?_
              rotate_left 1
              · (intro w_ hSw_; go_simp; (try with_reducible rfl))
              (try simp only [Act.put, List.setIfInBounds_toArray, List.set_cons_zero, List.set_cons_succ])
              refine wpAnyH_take (i := 21) (oi := ({ dst := some 118, op := Go.Op.move (Go.Operand.tmp 0), type := 9, pos := "law.go:230", after := #[{ on := 18, ground := Go.Ground.guard }], guard := some (18, true) } : Oper)) (v := ?_) rfl (by kernel_rfl) (by kernel_rfl) (by kernel_rfl) (fun _ _ _ h => h) (Or.inl ⟨by rfl, ?_⟩) trivial ?_
              rotate_left 1
              · (intro w_ hSw_; go_simp; (try with_reducible rfl))
              (try simp only [Act.put, List.setIfInBounds_toArray, List.set_cons_zero, List.set_cons_succ])
              refine wpAnyH_ready (rs := [20, 22]) (by kernel_rfl) (by simp) ?_
              refine AllReadyH.cons (o := ({ dst := some 117, op := Go.Op.call { callee := Go.Callee.value (Go.Operand.func 19), args := #[Go.Operand.tmp 116], argTypes := #[9] }, type := 9, pos := "law.go:230", after := #[{ on := 19, ground := Go.Ground.data }, { on := 18, ground := Go.Ground.chain }, { on := 18, ground := Go.Ground.guard }], guard := some (18, true) } : Oper)) rfl (fun K hK => ?_) ?_
              · go_simp
                go_at_call 19
                refine (utf_Mend.calls s M _ HMF.out).mono ?_
                rintro e w9 ⟨rfl, hb9⟩
                (try have hbk9 := HRB.out _ _ hb9)
                have hbw : Below w.heap.size w w9 := (by refine below_step ?_ hb9; repeat (first | (with_reducible first | exact HBW.out | apply below_alloc | apply pw_below_drewN | apply below_drew1) | exact HBW.out | refine below_step ?_ (HFB.out _)))
                clear HBW
                have HBW := Aside0.mk hbw
                clear hb9 hbw
                (try go_wp2_with fail)
                refine hK.out _ _ trivial (fun hHeld => ?_)
                clear hK K hHeld
                (try simp only [Act.put, List.setIfInBounds_toArray, List.set_cons_zero, List.set_cons_succ])
                refine wpAnyH_ready (rs := [22]) (by kernel_rfl) (by simp) ?_
                refine AllReadyH.cons (o := ({ dst := some 119, op := Go.Op.convert 9 27 (Go.Operand.tmp 118), type := 27, pos := "law.go:230", after := #[{ on := 21, ground := Go.Ground.data }, { on := 18, ground := Go.Ground.guard }], guard := some (18, true) } : Oper)) rfl (fun K hK => ?_) ?_
                · go_simp
                  refine hK.out _ _ trivial (fun hHeld => ?_)
                  clear hK K hHeld
                  (try simp only [Act.put, List.setIfInBounds_toArray, List.set_cons_zero, List.set_cons_succ])
                  refine wpAnyH_ready (rs := [23]) (by kernel_rfl) (by simp) ?_
                  refine AllReadyH.cons (o := ({ dst := some 120, op := Go.Op.convert 27 9 (Go.Operand.tmp 119), type := 9, pos := "law.go:230", after := #[{ on := 22, ground := Go.Ground.data }, { on := 18, ground := Go.Ground.guard }], guard := some (18, true) } : Oper)) rfl (fun K hK => ?_) ?_
                  · go_simp
                    refine hK.out _ _ trivial (fun hHeld => ?_)
                    clear hK K hHeld
                    (try simp only [Act.put, List.setIfInBounds_toArray, List.set_cons_zero, List.set_cons_succ])
                    refine wpAnyH_take (i := 24) (oi := ({ dst := some 121, op := Go.Op.binOp Go.BinOp.eql 9 (Go.Operand.tmp 117) (Go.Operand.tmp 120) 9, type := 4, pos := "law.go:230", after := #[{ on := 20, ground := Go.Ground.data }, { on := 23, ground := Go.Ground.data }, { on := 18, ground := Go.Ground.guard }], guard := some (18, true) } : Oper)) (v := ?_) rfl (by kernel_rfl) (by kernel_rfl) (by kernel_rfl) (fun _ _ _ h => h) (Or.inl ⟨by rfl, ?_⟩) trivial ?_
                    rotate_left 1
                    · (intro w_ hSw_; go_simp; (try with_reducible rfl))
                    (try simp only [Act.put, List.setIfInBounds_toArray, List.set_cons_zero, List.set_cons_succ])
                    refine wpAnyH_take (i := 25) (oi := ({ dst := some 122, op := Go.Op.pick (Go.Operand.tmp 115) (Go.Operand.tmp 121) (Go.Operand.const (Go.Value.bool false)), type := 4, pos := "law.go:230", after := #[{ on := 18, ground := Go.Ground.data }, { on := 24, ground := Go.Ground.data }], guard := none } : Oper)) (v := ?_) rfl (by kernel_rfl) (by kernel_rfl) (by kernel_rfl) (fun _ _ _ h => h) (Or.inl ⟨by rfl, ?_⟩) trivial ?_
                    rotate_left 1
                    · (intro w_ hSw_; go_simp; (try with_reducible rfl))
                    (try simp only [Act.put, List.setIfInBounds_toArray, List.set_cons_zero, List.set_cons_succ])
                    refine wpAnyH_take (i := 26) (oi := ({ dst := some 123, op := Go.Op.move (Go.Operand.tmp 122), type := 4, pos := "law.go:230", after := #[{ on := 25, ground := Go.Ground.data }, { on := 20, ground := Go.Ground.chain }], guard := none } : Oper)) (v := ?_) rfl (by kernel_rfl) (by kernel_rfl) (by kernel_rfl) (fun _ _ _ h => h) (Or.inl ⟨by rfl, ?_⟩) trivial ?_
                    rotate_left 1
                    · (intro w_ hSw_; go_simp; (try with_reducible rfl))
                    (try simp only [Act.put, List.setIfInBounds_toArray, List.set_cons_zero, List.set_cons_succ])
                    refine wpAnyH_take (i := 27) (oi := ({ dst := some 124, op := Go.Op.move (Go.Operand.tmp 0), type := 9, pos := "law.go:230", after := #[{ on := 26, ground := Go.Ground.guard }], guard := some (26, true) } : Oper)) (v := ?_) rfl (by kernel_rfl) (by kernel_rfl) (by kernel_rfl) (fun _ _ _ h => h) (Or.inl ⟨by rfl, ?_⟩) trivial ?_
                    rotate_left 1
                    · (intro w_ hSw_; go_simp; (try with_reducible rfl))
                    (try simp only [Act.put, List.setIfInBounds_toArray, List.set_cons_zero, List.set_cons_succ])
                    refine wpAnyH_take (i := 30) (oi := ({ dst := some 127, op := Go.Op.move (Go.Operand.tmp 0), type := 9, pos := "law.go:230", after := #[{ on := 26, ground := Go.Ground.guard }], guard := some (26, true) } : Oper)) (v := ?_) rfl (by kernel_rfl) (by kernel_rfl) (by kernel_rfl) (fun _ _ _ h => h) (Or.inl ⟨by rfl, ?_⟩) trivial ?_
                    rotate_left 1
                    · (intro w_ hSw_; go_simp; (try with_reducible rfl))
                    (try simp only [Act.put, List.setIfInBounds_toArray, List.set_cons_zero, List.set_cons_succ])
                    refine wpAnyH_ready (rs := [28]) (by kernel_rfl) (by simp) ?_
                    refine AllReadyH.cons (o := ({ dst := some 125, op := Go.Op.call { callee := Go.Callee.value (Go.Operand.func 18), args := #[Go.Operand.tmp 124], argTypes := #[9] }, type := 27, pos := "law.go:230", after := #[{ on := 27, ground := Go.Ground.data }, { on := 26, ground := Go.Ground.chain }, { on := 26, ground := Go.Ground.guard }], guard := some (26, true) } : Oper)) rfl (fun K hK => ?_) ?_
                    · go_simp
                      go_at_call 18
                      refine (utf_Runes.calls s R _ HRF.out).mono ?_
                      rintro e w7 ⟨v7, rfl, hR7, hb7⟩
                      obtain ⟨A7, c7, rfl, hc7, hC7⟩ := Kd.R_reads hR7
                      have HC7 := Aside0.mk hC7
                      (try have HROW7 := Aside0.mk (HRC.out _ _ hb7))
                      have hbw : Below w.heap.size w w7 := (by refine below_step ?_ hb7; repeat (first | (with_reducible first | exact HBW.out | apply below_alloc | apply pw_below_drewN | apply below_drew1) | exact HBW.out | refine below_step ?_ (HFB.out _)))
                      clear HBW
                      have HBW := Aside0.mk hbw
                      clear hb7 hbw
                      clear hR7 hC7
                      (try go_wp2_with fail)
                      refine hK.out _ _ trivial (fun hHeld => ?_)
                      clear hK K hHeld
                      (try simp only [Act.put, List.setIfInBounds_toArray, List.set_cons_zero, List.set_cons_succ])
                      refine wpAnyH_ready (rs := [29]) (by kernel_rfl) (by simp) ?_
                      refine AllReadyH.cons (o := ({ dst := some 126, op := Go.Op.call { callee := Go.Callee.value (Go.Operand.func 20), args := #[Go.Operand.tmp 125], argTypes := #[27] }, type := 9, pos := "law.go:230", after := #[{ on := 28, ground := Go.Ground.data }, { on := 28, ground := Go.Ground.chain }, { on := 26, ground := Go.Ground.guard }], guard := some (26, true) } : Oper)) rfl (fun K hK => ?_) ?_
                      · go_simp
                        go_at_call 20
                        refine (utf_FromRunes.calls _ _ R M _ HC7.out hc7 HFF.out).mono ?_
                        rintro e wa ⟨rfl, ⟨nd, rfl⟩⟩
                        (try go_wp2_with fail)
                        refine hK.out _ _ trivial (fun hHeld => ?_)
                        clear hK K hHeld
                        (try simp only [Act.put, List.setIfInBounds_toArray, List.set_cons_zero, List.set_cons_succ])
                        refine wpAnyH_ready (rs := [31]) (by kernel_rfl) (by simp) ?_
                        refine AllReadyH.cons (o := ({ dst := some 128, op := Go.Op.call { callee := Go.Callee.value (Go.Operand.func 19), args := #[Go.Operand.tmp 127], argTypes := #[9] }, type := 9, pos := "law.go:230", after := #[{ on := 30, ground := Go.Ground.data }, { on := 29, ground := Go.Ground.chain }, { on := 26, ground := Go.Ground.guard }], guard := some (26, true) } : Oper)) rfl (fun K hK => ?_) ?_
                        · go_simp
                          go_at_call 19
                          refine (utf_Mend.calls s M _ HMF.out).mono ?_
                          rintro e w9 ⟨rfl, hb9⟩
                          (try have hbk9 := HRB.out _ _ hb9)
                          have hbw : Below w.heap.size w w9 := (by refine below_step ?_ hb9; repeat (first | (with_reducible first | exact HBW.out | apply below_alloc | apply pw_below_drewN | apply below_drew1) | exact HBW.out | refine below_step ?_ (HFB.out _)))
                          clear HBW
                          have HBW := Aside0.mk hbw
                          clear hb9 hbw
                          (try go_wp2_with fail)
                          refine hK.out _ _ trivial (fun hHeld => ?_)
                          clear hK K hHeld
                          (try simp only [Act.put, List.setIfInBounds_toArray, List.set_cons_zero, List.set_cons_succ])
                          refine wpAnyH_take (i := 32) (oi := ({ dst := some 129, op := Go.Op.binOp Go.BinOp.eql 9 (Go.Operand.tmp 126) (Go.Operand.tmp 128) 9, type := 4, pos := "law.go:230", after := #[{ on := 29, ground := Go.Ground.data }, { on := 31, ground := Go.Ground.data }, { on := 26, ground := Go.Ground.guard }], guard := some (26, true) } : Oper)) (v := ?_) rfl (by kernel_rfl) (by kernel_rfl) (by kernel_rfl) (fun _ _ _ h => h) (Or.inl ⟨by rfl, ?_⟩) trivial ?_
                          rotate_left 1
                          · (intro w_ hSw_; go_simp; (try with_reducible rfl))
                          (try simp only [Act.put, List.setIfInBounds_toArray, List.set_cons_zero, List.set_cons_succ])
                          refine wpAnyH_take (i := 33) (oi := ({ dst := some 130, op := Go.Op.pick (Go.Operand.tmp 123) (Go.Operand.tmp 129) (Go.Operand.const (Go.Value.bool false)), type := 4, pos := "law.go:230", after := #[{ on := 26, ground := Go.Ground.data }, { on := 32, ground := Go.Ground.data }], guard := none } : Oper)) (v := ?_) rfl (by kernel_rfl) (by kernel_rfl) (by kernel_rfl) (fun _ _ _ h => h) (Or.inl ⟨by rfl, ?_⟩) trivial ?_
                          rotate_left 1
                          · (intro w_ hSw_; go_simp; (try with_reducible rfl))
                          (try simp only [Act.put, List.setIfInBounds_toArray, List.set_cons_zero, List.set_cons_succ])
                          refine wpAnyH_take (i := 34) (oi := ({ dst := some 2, op := Go.Op.assign (Go.Operand.tmp 130), type := 4, pos := "law.go:230", after := #[{ on := 33, ground := Go.Ground.data }, { on := 31, ground := Go.Ground.chain }, { on := 0, ground := Go.Ground.phase }, { on := 1, ground := Go.Ground.phase }, { on := 2, ground := Go.Ground.phase }, { on := 3, ground := Go.Ground.phase }, { on := 4, ground := Go.Ground.phase }, { on := 5, ground := Go.Ground.phase }, { on := 6, ground := Go.Ground.phase }, { on := 7, ground := Go.Ground.phase }, { on := 8, ground := Go.Ground.phase }, { on := 9, ground := Go.Ground.phase }, { on := 10, ground := Go.Ground.phase }, { on := 11, ground := Go.Ground.phase }, { on := 12, ground := Go.Ground.phase }, { on := 13, ground := Go.Ground.phase }, { on := 14, ground := Go.Ground.phase }, { on := 15, ground := Go.Ground.phase }, { on := 16, ground := Go.Ground.phase }, { on := 17, ground := Go.Ground.phase }, { on := 18, ground := Go.Ground.phase }, { on := 19, ground := Go.Ground.phase }, { on := 20, ground := Go.Ground.phase }, { on := 21, ground := Go.Ground.phase }, { on := 22, ground := Go.Ground.phase }, { on := 23, ground := Go.Ground.phase }, { on := 24, ground := Go.Ground.phase }, { on := 25, ground := Go.Ground.phase }, { on := 26, ground := Go.Ground.phase }, { on := 27, ground := Go.Ground.phase }, { on := 28, ground := Go.Ground.phase }, { on := 29, ground := Go.Ground.phase }, { on := 30, ground := Go.Ground.phase }, { on := 31, ground := Go.Ground.phase }, { on := 32, ground := Go.Ground.phase }, { on := 33, ground := Go.Ground.phase }], guard := none } : Oper)) (v := ?_) rfl (by kernel_rfl) (by kernel_rfl) (by kernel_rfl) (fun _ _ _ h => h) (Or.inl ⟨by rfl, ?_⟩) trivial ?_
                          rotate_left 1
                          · (intro w_ hSw_; go_simp; (try with_reducible rfl))
                          (try simp only [Act.put, List.setIfInBounds_toArray, List.set_cons_zero, List.set_cons_succ])
                          refine wpAnyH_done (by kernel_rfl) ?_ _
                          go_wp2
                          go_ret
                          exact ⟨rfl, (by repeat (first | (with_reducible first | exact HBW.out | apply below_alloc | apply pw_below_drewN | apply below_drew1) | exact HBW.out | refine below_step ?_ (HFB.out _)))⟩
                        exact AllReadyH.nil
                      exact AllReadyH.nil
                    exact AllReadyH.nil
                  exact AllReadyH.nil
                exact AllReadyH.nil
              refine AllReadyH.cons (o := ({ dst := some 119, op := Go.Op.convert 9 27 (Go.Operand.tmp 118), type := 27, pos := "law.go:230", after := #[{ on := 21, ground := Go.Ground.data }, { on := 18, ground := Go.Ground.guard }], guard := some (18, true) } : Oper)) rfl (fun K hK => ?_) ?_
              · go_simp
                refine hK.out _ _ trivial (fun hHeld => ?_)
                clear hK K hHeld
                (try simp only [Act.put, List.setIfInBounds_toArray, List.set_cons_zero, List.set_cons_succ])
                refine wpAnyH_ready (rs := [20, 23]) (by kernel_rfl) (by simp) ?_
                refine AllReadyH.cons (o := ({ dst := some 117, op := Go.Op.call { callee := Go.Callee.value (Go.Operand.func 19), args := #[Go.Operand.tmp 116], argTypes := #[9] }, type := 9, pos := "law.go:230", after := #[{ on := 19, ground := Go.Ground.data }, { on := 18, ground := Go.Ground.chain }, { on := 18, ground := Go.Ground.guard }], guard := some (18, true) } : Oper)) rfl (fun K hK => ?_) ?_
                · go_simp
                  go_at_call 19
                  refine (utf_Mend.calls s M _ HMF.out).mono ?_
                  rintro e w9 ⟨rfl, hb9⟩
                  (try have hbk9 := HRB.out _ _ hb9)
                  have hbw : Below w.heap.size w w9 := (by refine below_step ?_ hb9; repeat (first | (with_reducible first | exact HBW.out | apply below_alloc | apply pw_below_drewN | apply below_drew1) | exact HBW.out | refine below_step ?_ (HFB.out _)))
                  clear HBW
                  have HBW := Aside0.mk hbw
                  clear hb9 hbw
                  (try go_wp2_with fail)
                  refine hK.out _ _ trivial (fun hHeld => ?_)
                  clear hK K hHeld
                  (try simp only [Act.put, List.setIfInBounds_toArray, List.set_cons_zero, List.set_cons_succ])
                  refine wpAnyH_ready (rs := [23]) (by kernel_rfl) (by simp) ?_
                  refine AllReadyH.cons (o := ({ dst := some 120, op := Go.Op.convert 27 9 (Go.Operand.tmp 119), type := 9, pos := "law.go:230", after := #[{ on := 22, ground := Go.Ground.data }, { on := 18, ground := Go.Ground.guard }], guard := some (18, true) } : Oper)) rfl (fun K hK => ?_) ?_
                  · go_simp
                    refine hK.out _ _ trivial (fun hHeld => ?_)
                    clear hK K hHeld
                    (try simp only [Act.put, List.setIfInBounds_toArray, List.set_cons_zero, List.set_cons_succ])
                    refine wpAnyH_take (i := 24) (oi := ({ dst := some 121, op := Go.Op.binOp Go.BinOp.eql 9 (Go.Operand.tmp 117) (Go.Operand.tmp 120) 9, type := 4, pos := "law.go:230", after := #[{ on := 20, ground := Go.Ground.data }, { on := 23, ground := Go.Ground.data }, { on := 18, ground := Go.Ground.guard }], guard := some (18, true) } : Oper)) (v := ?_) rfl (by kernel_rfl) (by kernel_rfl) (by kernel_rfl) (fun _ _ _ h => h) (Or.inl ⟨by rfl, ?_⟩) trivial ?_
                    rotate_left 1
                    · (intro w_ hSw_; go_simp; (try with_reducible rfl))
                    (try simp only [Act.put, List.setIfInBounds_toArray, List.set_cons_zero, List.set_cons_succ])
                    refine wpAnyH_take (i := 25) (oi := ({ dst := some 122, op := Go.Op.pick (Go.Operand.tmp 115) (Go.Operand.tmp 121) (Go.Operand.const (Go.Value.bool false)), type := 4, pos := "law.go:230", after := #[{ on := 18, ground := Go.Ground.data }, { on := 24, ground := Go.Ground.data }], guard := none } : Oper)) (v := ?_) rfl (by kernel_rfl) (by kernel_rfl) (by kernel_rfl) (fun _ _ _ h => h) (Or.inl ⟨by rfl, ?_⟩) trivial ?_
                    rotate_left 1
                    · (intro w_ hSw_; go_simp; (try with_reducible rfl))
                    (try simp only [Act.put, List.setIfInBounds_toArray, List.set_cons_zero, List.set_cons_succ])
                    refine wpAnyH_take (i := 26) (oi := ({ dst := some 123, op := Go.Op.move (Go.Operand.tmp 122), type := 4, pos := "law.go:230", after := #[{ on := 25, ground := Go.Ground.data }, { on := 20, ground := Go.Ground.chain }], guard := none } : Oper)) (v := ?_) rfl (by kernel_rfl) (by kernel_rfl) (by kernel_rfl) (fun _ _ _ h => h) (Or.inl ⟨by rfl, ?_⟩) trivial ?_
                    rotate_left 1
                    · (intro w_ hSw_; go_simp; (try with_reducible rfl))
                    (try simp only [Act.put, List.setIfInBounds_toArray, List.set_cons_zero, List.set_cons_succ])
                    refine wpAnyH_take (i := 27) (oi := ({ dst := some 124, op := Go.Op.move (Go.Operand.tmp 0), type := 9, pos := "law.go:230", after := #[{ on := 26, ground := Go.Ground.guard }], guard := some (26, true) } : Oper)) (v := ?_) rfl (by kernel_rfl) (by kernel_rfl) (by kernel_rfl) (fun _ _ _ h => h) (Or.inl ⟨by rfl, ?_⟩) trivial ?_
                    rotate_left 1
                    · (intro w_ hSw_; go_simp; (try with_reducible rfl))
                    (try simp only [Act.put, List.setIfInBounds_toArray, List.set_cons_zero, List.set_cons_succ])
                    refine wpAnyH_take (i := 30) (oi := ({ dst := some 127, op := Go.Op.move (Go.Operand.tmp 0), type := 9, pos := "law.go:230", after := #[{ on := 26, ground := Go.Ground.guard }], guard := some (26, true) } : Oper)) (v := ?_) rfl (by kernel_rfl) (by kernel_rfl) (by kernel_rfl) (fun _ _ _ h => h) (Or.inl ⟨by rfl, ?_⟩) trivial ?_
                    rotate_left 1
                    · (intro w_ hSw_; go_simp; (try with_reducible rfl))
                    (try simp only [Act.put, List.setIfInBounds_toArray, List.set_cons_zero, List.set_cons_succ])
                    refine wpAnyH_ready (rs := [28]) (by kernel_rfl) (by simp) ?_
                    refine AllReadyH.cons (o := ({ dst := some 125, op := Go.Op.call { callee := Go.Callee.value (Go.Operand.func 18), args := #[Go.Operand.tmp 124], argTypes := #[9] }, type := 27, pos := "law.go:230", after := #[{ on := 27, ground := Go.Ground.data }, { on := 26, ground := Go.Ground.chain }, { on := 26, ground := Go.Ground.guard }], guard := some (26, true) } : Oper)) rfl (fun K hK => ?_) ?_
                    · go_simp
                      go_at_call 18
                      refine (utf_Runes.calls s R _ HRF.out).mono ?_
                      rintro e w7 ⟨v7, rfl, hR7, hb7⟩
                      obtain ⟨A7, c7, rfl, hc7, hC7⟩ := Kd.R_reads hR7
                      have HC7 := Aside0.mk hC7
                      (try have HROW7 := Aside0.mk (HRC.out _ _ hb7))
                      have hbw : Below w.heap.size w w7 := (by refine below_step ?_ hb7; repeat (first | (with_reducible first | exact HBW.out | apply below_alloc | apply pw_below_drewN | apply below_drew1) | exact HBW.out | refine below_step ?_ (HFB.out _)))
                      clear HBW
                      have HBW := Aside0.mk hbw
                      clear hb7 hbw
                      clear hR7 hC7
                      (try go_wp2_with fail)
                      refine hK.out _ _ trivial (fun hHeld => ?_)
                      clear hK K hHeld
                      (try simp only [Act.put, List.setIfInBounds_toArray, List.set_cons_zero, List.set_cons_succ])
                      refine wpAnyH_ready (rs := [29]) (by kernel_rfl) (by simp) ?_
                      refine AllReadyH.cons (o := ({ dst := some 126, op := Go.Op.call { callee := Go.Callee.value (Go.Operand.func 20), args := #[Go.Operand.tmp 125], argTypes := #[27] }, type := 9, pos := "law.go:230", after := #[{ on := 28, ground := Go.Ground.data }, { on := 28, ground := Go.Ground.chain }, { on := 26, ground := Go.Ground.guard }], guard := some (26, true) } : Oper)) rfl (fun K hK => ?_) ?_
                      · go_simp
                        go_at_call 20
                        refine (utf_FromRunes.calls _ _ R M _ HC7.out hc7 HFF.out).mono ?_
                        rintro e wa ⟨rfl, ⟨nd, rfl⟩⟩
                        (try go_wp2_with fail)
                        refine hK.out _ _ trivial (fun hHeld => ?_)
                        clear hK K hHeld
                        (try simp only [Act.put, List.setIfInBounds_toArray, List.set_cons_zero, List.set_cons_succ])
                        refine wpAnyH_ready (rs := [31]) (by kernel_rfl) (by simp) ?_
                        refine AllReadyH.cons (o := ({ dst := some 128, op := Go.Op.call { callee := Go.Callee.value (Go.Operand.func 19), args := #[Go.Operand.tmp 127], argTypes := #[9] }, type := 9, pos := "law.go:230", after := #[{ on := 30, ground := Go.Ground.data }, { on := 29, ground := Go.Ground.chain }, { on := 26, ground := Go.Ground.guard }], guard := some (26, true) } : Oper)) rfl (fun K hK => ?_) ?_
                        · go_simp
                          go_at_call 19
                          refine (utf_Mend.calls s M _ HMF.out).mono ?_
                          rintro e w9 ⟨rfl, hb9⟩
                          (try have hbk9 := HRB.out _ _ hb9)
                          have hbw : Below w.heap.size w w9 := (by refine below_step ?_ hb9; repeat (first | (with_reducible first | exact HBW.out | apply below_alloc | apply pw_below_drewN | apply below_drew1) | exact HBW.out | refine below_step ?_ (HFB.out _)))
                          clear HBW
                          have HBW := Aside0.mk hbw
                          clear hb9 hbw
                          (try go_wp2_with fail)
                          refine hK.out _ _ trivial (fun hHeld => ?_)
                          clear hK K hHeld
                          (try simp only [Act.put, List.setIfInBounds_toArray, List.set_cons_zero, List.set_cons_succ])
                          refine wpAnyH_take (i := 32) (oi := ({ dst := some 129, op := Go.Op.binOp Go.BinOp.eql 9 (Go.Operand.tmp 126) (Go.Operand.tmp 128) 9, type := 4, pos := "law.go:230", after := #[{ on := 29, ground := Go.Ground.data }, { on := 31, ground := Go.Ground.data }, { on := 26, ground := Go.Ground.guard }], guard := some (26, true) } : Oper)) (v := ?_) rfl (by kernel_rfl) (by kernel_rfl) (by kernel_rfl) (fun _ _ _ h => h) (Or.inl ⟨by rfl, ?_⟩) trivial ?_
                          rotate_left 1
                          · (intro w_ hSw_; go_simp; (try with_reducible rfl))
                          (try simp only [Act.put, List.setIfInBounds_toArray, List.set_cons_zero, List.set_cons_succ])
                          refine wpAnyH_take (i := 33) (oi := ({ dst := some 130, op := Go.Op.pick (Go.Operand.tmp 123) (Go.Operand.tmp 129) (Go.Operand.const (Go.Value.bool false)), type := 4, pos := "law.go:230", after := #[{ on := 26, ground := Go.Ground.data }, { on := 32, ground := Go.Ground.data }], guard := none } : Oper)) (v := ?_) rfl (by kernel_rfl) (by kernel_rfl) (by kernel_rfl) (fun _ _ _ h => h) (Or.inl ⟨by rfl, ?_⟩) trivial ?_
                          rotate_left 1
                          · (intro w_ hSw_; go_simp; (try with_reducible rfl))
                          (try simp only [Act.put, List.setIfInBounds_toArray, List.set_cons_zero, List.set_cons_succ])
                          refine wpAnyH_take (i := 34) (oi := ({ dst := some 2, op := Go.Op.assign (Go.Operand.tmp 130), type := 4, pos := "law.go:230", after := #[{ on := 33, ground := Go.Ground.data }, { on := 31, ground := Go.Ground.chain }, { on := 0, ground := Go.Ground.phase }, { on := 1, ground := Go.Ground.phase }, { on := 2, ground := Go.Ground.phase }, { on := 3, ground := Go.Ground.phase }, { on := 4, ground := Go.Ground.phase }, { on := 5, ground := Go.Ground.phase }, { on := 6, ground := Go.Ground.phase }, { on := 7, ground := Go.Ground.phase }, { on := 8, ground := Go.Ground.phase }, { on := 9, ground := Go.Ground.phase }, { on := 10, ground := Go.Ground.phase }, { on := 11, ground := Go.Ground.phase }, { on := 12, ground := Go.Ground.phase }, { on := 13, ground := Go.Ground.phase }, { on := 14, ground := Go.Ground.phase }, { on := 15, ground := Go.Ground.phase }, { on := 16, ground := Go.Ground.phase }, { on := 17, ground := Go.Ground.phase }, { on := 18, ground := Go.Ground.phase }, { on := 19, ground := Go.Ground.phase }, { on := 20, ground := Go.Ground.phase }, { on := 21, ground := Go.Ground.phase }, { on := 22, ground := Go.Ground.phase }, { on := 23, ground := Go.Ground.phase }, { on := 24, ground := Go.Ground.phase }, { on := 25, ground := Go.Ground.phase }, { on := 26, ground := Go.Ground.phase }, { on := 27, ground := Go.Ground.phase }, { on := 28, ground := Go.Ground.phase }, { on := 29, ground := Go.Ground.phase }, { on := 30, ground := Go.Ground.phase }, { on := 31, ground := Go.Ground.phase }, { on := 32, ground := Go.Ground.phase }, { on := 33, ground := Go.Ground.phase }], guard := none } : Oper)) (v := ?_) rfl (by kernel_rfl) (by kernel_rfl) (by kernel_rfl) (fun _ _ _ h => h) (Or.inl ⟨by rfl, ?_⟩) trivial ?_
                          rotate_left 1
                          · (intro w_ hSw_; go_simp; (try with_reducible rfl))
                          (try simp only [Act.put, List.setIfInBounds_toArray, List.set_cons_zero, List.set_cons_succ])
                          refine wpAnyH_done (by kernel_rfl) ?_ _
                          go_wp2
                          go_ret
                          exact ⟨rfl, (by repeat (first | (with_reducible first | exact HBW.out | apply below_alloc | apply pw_below_drewN | apply below_drew1) | exact HBW.out | refine below_step ?_ (HFB.out _)))⟩
                        exact AllReadyH.nil
                      exact AllReadyH.nil
                    exact AllReadyH.nil
                  exact AllReadyH.nil
                refine AllReadyH.cons (o := ({ dst := some 120, op := Go.Op.convert 27 9 (Go.Operand.tmp 119), type := 9, pos := "law.go:230", after := #[{ on := 22, ground := Go.Ground.data }, { on := 18, ground := Go.Ground.guard }], guard := some (18, true) } : Oper)) rfl (fun K hK => ?_) ?_
                · go_simp
                  refine hK.out _ _ trivial (fun hHeld => ?_)
                  clear hK K hHeld
                  (try simp only [Act.put, List.setIfInBounds_toArray, List.set_cons_zero, List.set_cons_succ])
                  refine wpAnyH_ready (rs := [20]) (by kernel_rfl) (by simp) ?_
                  refine AllReadyH.cons (o := ({ dst := some 117, op := Go.Op.call { callee := Go.Callee.value (Go.Operand.func 19), args := #[Go.Operand.tmp 116], argTypes := #[9] }, type := 9, pos := "law.go:230", after := #[{ on := 19, ground := Go.Ground.data }, { on := 18, ground := Go.Ground.chain }, { on := 18, ground := Go.Ground.guard }], guard := some (18, true) } : Oper)) rfl (fun K hK => ?_) ?_
                  · go_simp
                    go_at_call 19
                    refine (utf_Mend.calls s M _ HMF.out).mono ?_
                    rintro e w9 ⟨rfl, hb9⟩
                    (try have hbk9 := HRB.out _ _ hb9)
                    have hbw : Below w.heap.size w w9 := (by refine below_step ?_ hb9; repeat (first | (with_reducible first | exact HBW.out | apply below_alloc | apply pw_below_drewN | apply below_drew1) | exact HBW.out | refine below_step ?_ (HFB.out _)))
                    clear HBW
                    have HBW := Aside0.mk hbw
                    clear hb9 hbw
                    (try go_wp2_with fail)
                    refine hK.out _ _ trivial (fun hHeld => ?_)
                    clear hK K hHeld
                    (try simp only [Act.put, List.setIfInBounds_toArray, List.set_cons_zero, List.set_cons_succ])
                    refine wpAnyH_take (i := 24) (oi := ({ dst := some 121, op := Go.Op.binOp Go.BinOp.eql 9 (Go.Operand.tmp 117) (Go.Operand.tmp 120) 9, type := 4, pos := "law.go:230", after := #[{ on := 20, ground := Go.Ground.data }, { on := 23, ground := Go.Ground.data }, { on := 18, ground := Go.Ground.guard }], guard := some (18, true) } : Oper)) (v := ?_) rfl (by kernel_rfl) (by kernel_rfl) (by kernel_rfl) (fun _ _ _ h => h) (Or.inl ⟨by rfl, ?_⟩) trivial ?_
                    rotate_left 1
                    · (intro w_ hSw_; go_simp; (try with_reducible rfl))
                    (try simp only [Act.put, List.setIfInBounds_toArray, List.set_cons_zero, List.set_cons_succ])
                    refine wpAnyH_take (i := 25) (oi := ({ dst := some 122, op := Go.Op.pick (Go.Operand.tmp 115) (Go.Operand.tmp 121) (Go.Operand.const (Go.Value.bool false)), type := 4, pos := "law.go:230", after := #[{ on := 18, ground := Go.Ground.data }, { on := 24, ground := Go.Ground.data }], guard := none } : Oper)) (v := ?_) rfl (by kernel_rfl) (by kernel_rfl) (by kernel_rfl) (fun _ _ _ h => h) (Or.inl ⟨by rfl, ?_⟩) trivial ?_
                    rotate_left 1
                    · (intro w_ hSw_; go_simp; (try with_reducible rfl))
                    (try simp only [Act.put, List.setIfInBounds_toArray, List.set_cons_zero, List.set_cons_succ])
                    refine wpAnyH_take (i := 26) (oi := ({ dst := some 123, op := Go.Op.move (Go.Operand.tmp 122), type := 4, pos := "law.go:230", after := #[{ on := 25, ground := Go.Ground.data }, { on := 20, ground := Go.Ground.chain }], guard := none } : Oper)) (v := ?_) rfl (by kernel_rfl) (by kernel_rfl) (by kernel_rfl) (fun _ _ _ h => h) (Or.inl ⟨by rfl, ?_⟩) trivial ?_
                    rotate_left 1
                    · (intro w_ hSw_; go_simp; (try with_reducible rfl))
                    (try simp only [Act.put, List.setIfInBounds_toArray, List.set_cons_zero, List.set_cons_succ])
                    refine wpAnyH_take (i := 27) (oi := ({ dst := some 124, op := Go.Op.move (Go.Operand.tmp 0), type := 9, pos := "law.go:230", after := #[{ on := 26, ground := Go.Ground.guard }], guard := some (26, true) } : Oper)) (v := ?_) rfl (by kernel_rfl) (by kernel_rfl) (by kernel_rfl) (fun _ _ _ h => h) (Or.inl ⟨by rfl, ?_⟩) trivial ?_
                    rotate_left 1
                    · (intro w_ hSw_; go_simp; (try with_reducible rfl))
                    (try simp only [Act.put, List.setIfInBounds_toArray, List.set_cons_zero, List.set_cons_succ])
                    refine wpAnyH_take (i := 30) (oi := ({ dst := some 127, op := Go.Op.move (Go.Operand.tmp 0), type := 9, pos := "law.go:230", after := #[{ on := 26, ground := Go.Ground.guard }], guard := some (26, true) } : Oper)) (v := ?_) rfl (by kernel_rfl) (by kernel_rfl) (by kernel_rfl) (fun _ _ _ h => h) (Or.inl ⟨by rfl, ?_⟩) trivial ?_
                    rotate_left 1
                    · (intro w_ hSw_; go_simp; (try with_reducible rfl))
                    (try simp only [Act.put, List.setIfInBounds_toArray, List.set_cons_zero, List.set_cons_succ])
                    refine wpAnyH_ready (rs := [28]) (by kernel_rfl) (by simp) ?_
                    refine AllReadyH.cons (o := ({ dst := some 125, op := Go.Op.call { callee := Go.Callee.value (Go.Operand.func 18), args := #[Go.Operand.tmp 124], argTypes := #[9] }, type := 27, pos := "law.go:230", after := #[{ on := 27, ground := Go.Ground.data }, { on := 26, ground := Go.Ground.chain }, { on := 26, ground := Go.Ground.guard }], guard := some (26, true) } : Oper)) rfl (fun K hK => ?_) ?_
                    · go_simp
                      go_at_call 18
                      refine (utf_Runes.calls s R _ HRF.out).mono ?_
                      rintro e w7 ⟨v7, rfl, hR7, hb7⟩
                      obtain ⟨A7, c7, rfl, hc7, hC7⟩ := Kd.R_reads hR7
                      have HC7 := Aside0.mk hC7
                      (try have HROW7 := Aside0.mk (HRC.out _ _ hb7))
                      have hbw : Below w.heap.size w w7 := (by refine below_step ?_ hb7; repeat (first | (with_reducible first | exact HBW.out | apply below_alloc | apply pw_below_drewN | apply below_drew1) | exact HBW.out | refine below_step ?_ (HFB.out _)))
                      clear HBW
                      have HBW := Aside0.mk hbw
                      clear hb7 hbw
                      clear hR7 hC7
                      (try go_wp2_with fail)
                      refine hK.out _ _ trivial (fun hHeld => ?_)
                      clear hK K hHeld
                      (try simp only [Act.put, List.setIfInBounds_toArray, List.set_cons_zero, List.set_cons_succ])
                      refine wpAnyH_ready (rs := [29]) (by kernel_rfl) (by simp) ?_
                      refine AllReadyH.cons (o := ({ dst := some 126, op := Go.Op.call { callee := Go.Callee.value (Go.Operand.func 20), args := #[Go.Operand.tmp 125], argTypes := #[27] }, type := 9, pos := "law.go:230", after := #[{ on := 28, ground := Go.Ground.data }, { on := 28, ground := Go.Ground.chain }, { on := 26, ground := Go.Ground.guard }], guard := some (26, true) } : Oper)) rfl (fun K hK => ?_) ?_
                      · go_simp
                        go_at_call 20
                        refine (utf_FromRunes.calls _ _ R M _ HC7.out hc7 HFF.out).mono ?_
                        rintro e wa ⟨rfl, ⟨nd, rfl⟩⟩
                        (try go_wp2_with fail)
                        refine hK.out _ _ trivial (fun hHeld => ?_)
                        clear hK K hHeld
                        (try simp only [Act.put, List.setIfInBounds_toArray, List.set_cons_zero, List.set_cons_succ])
                        refine wpAnyH_ready (rs := [31]) (by kernel_rfl) (by simp) ?_
                        refine AllReadyH.cons (o := ({ dst := some 128, op := Go.Op.call { callee := Go.Callee.value (Go.Operand.func 19), args := #[Go.Operand.tmp 127], argTypes := #[9] }, type := 9, pos := "law.go:230", after := #[{ on := 30, ground := Go.Ground.data }, { on := 29, ground := Go.Ground.chain }, { on := 26, ground := Go.Ground.guard }], guard := some (26, true) } : Oper)) rfl (fun K hK => ?_) ?_
                        · go_simp
                          go_at_call 19
                          refine (utf_Mend.calls s M _ HMF.out).mono ?_
                          rintro e w9 ⟨rfl, hb9⟩
                          (try have hbk9 := HRB.out _ _ hb9)
                          have hbw : Below w.heap.size w w9 := (by refine below_step ?_ hb9; repeat (first | (with_reducible first | exact HBW.out | apply below_alloc | apply pw_below_drewN | apply below_drew1) | exact HBW.out | refine below_step ?_ (HFB.out _)))
                          clear HBW
                          have HBW := Aside0.mk hbw
                          clear hb9 hbw
                          (try go_wp2_with fail)
                          refine hK.out _ _ trivial (fun hHeld => ?_)
                          clear hK K hHeld
                          (try simp only [Act.put, List.setIfInBounds_toArray, List.set_cons_zero, List.set_cons_succ])
                          refine wpAnyH_take (i := 32) (oi := ({ dst := some 129, op := Go.Op.binOp Go.BinOp.eql 9 (Go.Operand.tmp 126) (Go.Operand.tmp 128) 9, type := 4, pos := "law.go:230", after := #[{ on := 29, ground := Go.Ground.data }, { on := 31, ground := Go.Ground.data }, { on := 26, ground := Go.Ground.guard }], guard := some (26, true) } : Oper)) (v := ?_) rfl (by kernel_rfl) (by kernel_rfl) (by kernel_rfl) (fun _ _ _ h => h) (Or.inl ⟨by rfl, ?_⟩) trivial ?_
                          rotate_left 1
                          · (intro w_ hSw_; go_simp; (try with_reducible rfl))
                          (try simp only [Act.put, List.setIfInBounds_toArray, List.set_cons_zero, List.set_cons_succ])
                          refine wpAnyH_take (i := 33) (oi := ({ dst := some 130, op := Go.Op.pick (Go.Operand.tmp 123) (Go.Operand.tmp 129) (Go.Operand.const (Go.Value.bool false)), type := 4, pos := "law.go:230", after := #[{ on := 26, ground := Go.Ground.data }, { on := 32, ground := Go.Ground.data }], guard := none } : Oper)) (v := ?_) rfl (by kernel_rfl) (by kernel_rfl) (by kernel_rfl) (fun _ _ _ h => h) (Or.inl ⟨by rfl, ?_⟩) trivial ?_
                          rotate_left 1
                          · (intro w_ hSw_; go_simp; (try with_reducible rfl))
                          (try simp only [Act.put, List.setIfInBounds_toArray, List.set_cons_zero, List.set_cons_succ])
                          refine wpAnyH_take (i := 34) (oi := ({ dst := some 2, op := Go.Op.assign (Go.Operand.tmp 130), type := 4, pos := "law.go:230", after := #[{ on := 33, ground := Go.Ground.data }, { on := 31, ground := Go.Ground.chain }, { on := 0, ground := Go.Ground.phase }, { on := 1, ground := Go.Ground.phase }, { on := 2, ground := Go.Ground.phase }, { on := 3, ground := Go.Ground.phase }, { on := 4, ground := Go.Ground.phase }, { on := 5, ground := Go.Ground.phase }, { on := 6, ground := Go.Ground.phase }, { on := 7, ground := Go.Ground.phase }, { on := 8, ground := Go.Ground.phase }, { on := 9, ground := Go.Ground.phase }, { on := 10, ground := Go.Ground.phase }, { on := 11, ground := Go.Ground.phase }, { on := 12, ground := Go.Ground.phase }, { on := 13, ground := Go.Ground.phase }, { on := 14, ground := Go.Ground.phase }, { on := 15, ground := Go.Ground.phase }, { on := 16, ground := Go.Ground.phase }, { on := 17, ground := Go.Ground.phase }, { on := 18, ground := Go.Ground.phase }, { on := 19, ground := Go.Ground.phase }, { on := 20, ground := Go.Ground.phase }, { on := 21, ground := Go.Ground.phase }, { on := 22, ground := Go.Ground.phase }, { on := 23, ground := Go.Ground.phase }, { on := 24, ground := Go.Ground.phase }, { on := 25, ground := Go.Ground.phase }, { on := 26, ground := Go.Ground.phase }, { on := 27, ground := Go.Ground.phase }, { on := 28, ground := Go.Ground.phase }, { on := 29, ground := Go.Ground.phase }, { on := 30, ground := Go.Ground.phase }, { on := 31, ground := Go.Ground.phase }, { on := 32, ground := Go.Ground.phase }, { on := 33, ground := Go.Ground.phase }], guard := none } : Oper)) (v := ?_) rfl (by kernel_rfl) (by kernel_rfl) (by kernel_rfl) (fun _ _ _ h => h) (Or.inl ⟨by rfl, ?_⟩) trivial ?_
                          rotate_left 1
                          · (intro w_ hSw_; go_simp; (try with_reducible rfl))
                          (try simp only [Act.put, List.setIfInBounds_toArray, List.set_cons_zero, List.set_cons_succ])
                          refine wpAnyH_done (by kernel_rfl) ?_ _
                          go_wp2
                          go_ret
                          exact ⟨rfl, (by repeat (first | (with_reducible first | exact HBW.out | apply below_alloc | apply pw_below_drewN | apply below_drew1) | exact HBW.out | refine below_step ?_ (HFB.out _)))⟩
                        exact AllReadyH.nil
                      exact AllReadyH.nil
                    exact AllReadyH.nil
                  exact AllReadyH.nil
                exact AllReadyH.nil
              exact AllReadyH.nil
            exact AllReadyH.nil
          exact AllReadyH.nil
        exact AllReadyH.nil
      exact AllReadyH.nil

end Go.Proofs.YtaipokmbgcmciaaDoor.Q
