/- The law's plain side (UtfKeepsB): what the printed functions come to; each theorem states its own conditions. -/
import Derived.Test.YtaipokmbgcmciaaPKx0
import Derived.Test.YtaipokmbgcmciaaBAppKeep
import Derived.Test.YtaipokmbgcmciaaQUtfKeepsM
import Derived.Test.YtaipokmbgcmciaaQUtfKeepsN
import Derived.OneCell
import Derived.Laws.MakeOwn
import Derived.StillTailTactics
import Derived.Deep.QuietTactic
import Derived.BigQuiet
namespace Go.Proofs.Ytaipokmbgcmciaa.Q
open Go.RowKit Go.Proofs.YtaipokmbgcmciaaW.PrintWords Go.Proofs.YtaipokmbgcmciaaW.PrintLast Go.Proofs.YtaipokmbgcmciaaW.PrintMore Go.Proofs.Ytaipokmbgcmciaa.PK Go.Proofs.Ytaipokmbgcmciaa.B
set_option linter.unusedVariables false
set_option linter.unusedSimpArgs false
set_option maxHeartbeats 8000000 in
set_option maxRecDepth 100000 in
theorem apartNums_calls (base : Nat) (vs : Nat → Value) (ns : Nat → Nat) (w : World) (hbase : base ≤ w.heap.size) (hI : Nm.Inv1 base 2 vs ns w (fun _ => 0)) (hns : ∀ i, i < 2 → ns i ≤ 16777216) :
    Calls Try.prog 19 #[vs 0, vs 1] w fun e w' => e = .returned (.bool true) ∧ Out base 2 vs w w' := by
  obtain ⟨A0, c0, hv0⟩ := Nm.row_form hI (show 0 < 2 by decide)
  obtain ⟨A1, c1, hv1⟩ := Nm.row_form hI (show 1 < 2 by decide)
  obtain ⟨n0, hn0⟩ : ∃ n0, n0 = ns 0 := ⟨_, rfl⟩
  obtain ⟨n1, hn1⟩ : ∃ n1, n1 = ns 1 := ⟨_, rfl⟩
  rw [← hn0] at hv0
  rw [← hn1] at hv1
  have hl0 : n0 ≤ 16777216 := by rw [hn0]; exact hns 0 (by decide)
  have hl1 : n1 ≤ 16777216 := by rw [hn1]; exact hns 1 (by decide)
  have HL0 := Aside0.mk hl0
  have HL1 := Aside0.mk hl1
  have HN0 := Aside0.mk hn0
  have HN1 := Aside0.mk hn1
  have HV0 := Aside0.mk hv0
  have HV1 := Aside0.mk hv1
  have HI := Aside0.mk hI
  have HBS := Aside0.mk hbase
  have HVL := Aside0.mk (fun k b (hk : k < 2) hb => (Nm.row_lt hI hk b hb).1 : ∀ k b, k < 2 → (vs k).ownBlock = some b → b < w.heap.size)
  obtain ⟨i1, hi1, hzz⟩ := Option.map_eq_some_iff.1 info3
  simp only [Prod.mk.injEq] at hzz
  have HI1_ := Aside0.mk (show Try.prog.info? 3 = some i1 ∧ i1.zero = some (.int .i64 0) ∧ i1.size = 1 ∧ i1.bytes = 8 from ⟨hi1, hzz⟩)
  have hz0 := eq_true (Int.natCast_nonneg 0)
  rw [hv0, hv1]
  clear hI hns hl0 hl1 hn0 hn1 hv0 hv1 hbase hi1 hzz hz0
  go_enter Try.func19, Try.ntmps19
  go_wp2
  go_loopw [5] (fun v5 wr => ∃ j : Nat, v5 = .int .i64 (j : Int) ∧ j ≤ n0 ∧ Aside0 (Nm.Inv1 base 2 vs ns wr (fun k => if k < 0 then ns k else if k = 0 then j else 0)) ∧ Aside0 (Out base 2 vs w wr)) (fun v5 _ => n0 - (intOf v5).toNat)
  case atStart => exact ⟨0, rfl, Nat.zero_le _, ⟨HI.out.congr fun k _ => by simp⟩, ⟨Out.refl _ _ _ _⟩⟩
  case round =>
    obtain ⟨j, rfl, hj, HI2, HO2⟩ := hrel
    have hp1 := eq_true (Int.natCast_nonneg j)
    by_cases hjl : j < n0
    · have hd2 : decide (j < n0) = true := decide_eq_true hjl
      have HJL := Aside0.mk hjl
      have HJN := Aside0.mk (show j < ns 0 by rw [← HN0.out]; exact hjl)
      have hq1 := eq_true (Int.ofNat_lt.2 hjl)
      have hwj := wrap_k hjl HL0.out
      obtain ⟨g, ga, cur, hvg, hgb, hgc, hgn, hgs⟩ := Nm.row_block HI2.out (show 0 < 2 by decide) HJN.out
      have he : (Value.slice A0 n0 c0) = .slice (some ⟨g, 0, none⟩) (ns 0) ga := HV0.out.symm.trans hvg
      injection he with he1 hel he2
      clear hel
      obtain ⟨ad, had⟩ : ∃ ad : Addr, ad = ⟨g, 0, none⟩ := ⟨_, rfl⟩
      rw [← had] at he1
      have HAD := Aside0.mk had
      have HVG := Aside0.mk hvg
      subst he1 he2
      have hcj : wr.cell? (ad.add j) = some (cur[j]?.getD undef) := by rw [had, add_plain, blk_cell hgc]; simp [show j < cur.size by have := HJN.out; omega]
      have hfj : wr.frozen? (ad.add j) = false := by rw [had, add_plain]; exact blk_frozen hgc j
      have HGB := Aside0.mk hgb
      clear hj hjl hvg hgc had hgs hgn hgb
      go_wp2
      exact ⟨⟨j + 1, by rw [hwj]; rfl, HJL.out, ⟨Nm.step0 HI2.out HJN.out HVG.out HAD.out⟩, ⟨by rw [HAD.out, add_plain]; exact HO2.out.put (show 0 < 2 by decide) HVG.out HGB.out j _⟩⟩, meas_k HJL.out hwj⟩
    · have hd2 : decide (j < n0) = false := decide_eq_false hjl
      obtain rfl : j = n0 := Nat.le_antisymm hj (Nat.not_lt.1 hjl)
      have HI3 := Aside0.mk (Nm.to1 HN0.out HI2.out)
      clear hjl hj HI2
      go_wp2
      go_loopw [6] (fun v6 wr => ∃ b : Nat, v6 = .int .i64 (b : Int) ∧ b ≤ n1 ∧ Aside0 (Nm.Inv1 base 2 vs ns wr (fun k => if k < 1 then ns k else if k = 1 then b else 0)) ∧ Aside0 (Out base 2 vs w wr)) (fun v6 _ => n1 - (intOf v6).toNat)
      case atStart => exact ⟨0, rfl, Nat.zero_le _, HI3, HO2⟩
      case round =>
        obtain ⟨b, rfl, hb, HI4, HO4⟩ := hrel
        have hpb := eq_true (Int.natCast_nonneg b)
        by_cases hbl : b < n1
        · have hd3 : decide (b < n1) = true := decide_eq_true hbl
          have HBL := Aside0.mk hbl
          have HBN := Aside0.mk (show b < ns 1 by rw [← HN1.out]; exact hbl)
          have hqb := eq_true (Int.ofNat_lt.2 hbl)
          have hwb := wrap_k hbl HL1.out
          obtain ⟨g, ga, cur, hvg, hgb, hgc, hgn, hgs⟩ := Nm.row_block HI4.out (show 1 < 2 by decide) HBN.out
          have he : (Value.slice A1 n1 c1) = .slice (some ⟨g, 0, none⟩) (ns 1) ga := HV1.out.symm.trans hvg
          injection he with he1 hel he2
          clear hel
          obtain ⟨ad, had⟩ : ∃ ad : Addr, ad = ⟨g, 0, none⟩ := ⟨_, rfl⟩
          rw [← had] at he1
          have HAD := Aside0.mk had
          have HVG := Aside0.mk hvg
          subst he1 he2
          have hcb : wr.cell? (ad.add b) = some (cur[b]?.getD undef) := by rw [had, add_plain, blk_cell hgc]; simp [show b < cur.size by have := HBN.out; omega]
          have hfb : wr.frozen? (ad.add b) = false := by rw [had, add_plain]; exact blk_frozen hgc b
          have HGB := Aside0.mk hgb
          clear hb hbl hvg hgc had hgs hgn hgb
          go_wp2
          exact ⟨⟨b + 1, by rw [hwb]; rfl, HBL.out, ⟨Nm.step1 HI4.out HBN.out HVG.out HAD.out⟩, ⟨by rw [HAD.out, add_plain]; exact HO4.out.put (show 1 < 2 by decide) HVG.out HGB.out b _⟩⟩, meas_k HBL.out hwb⟩
        · have hd3 : decide (b < n1) = false := decide_eq_false hbl
          obtain rfl : b = n1 := Nat.le_antisymm hb (Nat.not_lt.1 hbl)
          have HP := Aside0.mk (Nm.to2 HN1.out HI4.out HO4.out)
          clear hbl hb HI4 HO4 HI3 HO2
          go_wp2
          go_loopw [7, 9] (fun v7 v9 wr => ∃ (c : Nat) (gs : Nat → Value), v7 = gs 0 ∧ v9 = .int .i64 (c : Int) ∧ c ≤ 80 ∧ Aside0 (Nm.P2 base 2 vs ns w 0 c gs wr)) (fun _ v9 _ => 80 - (intOf v9).toNat)
          case atStart => exact ⟨0, vs, HV0.out.symm, rfl, Nat.zero_le _, HP⟩
          case round =>
            obtain ⟨c, gs, rfl, rfl, hc, HP2⟩ := hrel
            by_cases hcl : c < 80
            · have hd4 : decide ((c : Int) < 80) = true := decide_eq_true (by omega)
              have HCL := Aside0.mk hcl
              have hwc := wrap_k hcl (by decide)
              obtain ⟨B, bc, hgf⟩ := HP2.out.inv.form (show 0 < 2 by decide)
              obtain ⟨n, hn⟩ : ∃ n, n = ns 0 + c := ⟨_, rfl⟩
              rw [cnt2_at, ← hn] at hgf
              have HGF := Aside0.mk hgf
              have HN := Aside0.mk hn
              have ho := HP2.out.inv.own (show 0 < 2 by decide)
              rw [cnt2_at, ← hn, hgf] at ho
              have HOW := Aside0.mk ho
              have HNB2 := Aside0.mk (show n + 1 ≤ 16777297 by have h1 := HL0.out; have h2 := HN0.out; omega)
              have HSZ := Aside0.mk (show base ≤ wr.heap.size from Nat.le_trans HBS.out HP2.out.out.kept.1)
              rw [hgf]
              clear hcl hc hgf hn ho
              go_wp2_with (first
                | ((with_reducible refine gate_builtin (b := .append) (xs := #[.tmp 41, .tmp 45]) rfl ?_); at_builtin; refine wpList_append_keep rfl (.tmp 41) (.tmp 45) 33 rfl base 3 i1 (.int .i64 0) 8 Try.underlying33 HI1_.out.1 HI1_.out.2.1 HI1_.out.2.2.1 HI1_.out.2.2.2 rfl (.slice B n bc) n (nums .i64 (Nm.mks 0 n)) rfl (HOW.out.alloc _) ⟨wr.heap.size, 0, none⟩ 1 (.int .i64 (wrap64 (-1 - (n : Int)))) rfl (cell_one_new _ _ _) (by simp [Value.oneCell']) (max_k HNB2.out) (Nm.bytes_k HNB2.out) (Nat.le_trans HSZ.out (by simp)) ?_; intro v7 w7 ho7 hg7 hat7 hk7; have H7 := Aside0.mk (And.intro ho7 (And.intro hg7 (And.intro hat7 hk7))); clear ho7 hg7 hat7 hk7))
              exact ⟨⟨c + 1, upd gs 0 v7, (upd_same _ _ _).symm, by rw [hwc]; rfl, HCL.out, ⟨(HP2.out.below HBS.out (below_alloc (Below.refl _ _) _)).step0 HBS.out HN.out H7.out.1 (by rw [HGF.out]; exact H7.out.2.1) (by rw [HGF.out]; exact H7.out.2.2.1) (by rw [HGF.out]; exact H7.out.2.2.2)⟩⟩, meas_k HCL.out hwc⟩
            · have hd4 : decide ((c : Int) < 80) = false := decide_eq_false (by omega)
              have hc8 : c = 80 := Nat.le_antisymm hc (Nat.not_lt.1 hcl)
              have HP3 := Aside0.mk (show Nm.P2 base 2 vs ns w 1 0 gs wr by have h := HP2.out; rw [hc8] at h; exact h.next)
              obtain ⟨G0, hg0⟩ : ∃ G0, G0 = gs 0 := ⟨_, rfl⟩
              rw [← hg0]
              have HG0 := Aside0.mk hg0
              have HV1b := Aside0.mk ((HP2.out.rest 1 (by decide)).trans HV1.out)
              clear hcl hc hc8 hg0 HP2
              go_wp2
              go_loopw [8, 10] (fun v8 v10 wr => ∃ (c : Nat) (gs : Nat → Value), v8 = gs 1 ∧ v10 = .int .i64 (c : Int) ∧ c ≤ 80 ∧ Aside0 (Nm.P2 base 2 vs ns w 1 c gs wr) ∧ Aside0 (G0 = gs 0)) (fun _ v10 _ => 80 - (intOf v10).toNat)
              case atStart => exact ⟨0, gs, HV1b.out.symm, rfl, Nat.zero_le _, HP3, HG0⟩
              case round =>
                obtain ⟨c, gs, rfl, rfl, hc, HP2, HG1⟩ := hrel
                by_cases hcl : c < 80
                · have hd5 : decide ((c : Int) < 80) = true := decide_eq_true (by omega)
                  have HCL := Aside0.mk hcl
                  have hwc := wrap_k hcl (by decide)
                  obtain ⟨B, bc, hgf⟩ := HP2.out.inv.form (show 1 < 2 by decide)
                  obtain ⟨n, hn⟩ : ∃ n, n = ns 1 + c := ⟨_, rfl⟩
                  rw [cnt2_at, ← hn] at hgf
                  have HGF := Aside0.mk hgf
                  have HN := Aside0.mk hn
                  have ho := HP2.out.inv.own (show 1 < 2 by decide)
                  rw [cnt2_at, ← hn, hgf] at ho
                  have HOW := Aside0.mk ho
                  have HNB2 := Aside0.mk (show n + 1 ≤ 16777297 by have h1 := HL1.out; have h2 := HN1.out; omega)
                  have HSZ := Aside0.mk (show base ≤ wr.heap.size from Nat.le_trans HBS.out HP2.out.out.kept.1)
                  rw [hgf]
                  clear hcl hc hgf hn ho
                  go_wp2_with (first
                    | ((with_reducible refine gate_builtin (b := .append) (xs := #[.tmp 51, .tmp 55]) rfl ?_); at_builtin; refine wpList_append_keep rfl (.tmp 51) (.tmp 55) 33 rfl base 3 i1 (.int .i64 0) 8 Try.underlying33 HI1_.out.1 HI1_.out.2.1 HI1_.out.2.2.1 HI1_.out.2.2.2 rfl (.slice B n bc) n (nums .i64 (Nm.mks 1 n)) rfl (HOW.out.alloc _) ⟨wr.heap.size, 0, none⟩ 1 (.int .i64 (wrap64 (7 + (n : Int)))) rfl (cell_one_new _ _ _) (by simp [Value.oneCell']) (max_k HNB2.out) (Nm.bytes_k HNB2.out) (Nat.le_trans HSZ.out (by simp)) ?_; intro v7 w7 ho7 hg7 hat7 hk7; have H7 := Aside0.mk (And.intro ho7 (And.intro hg7 (And.intro hat7 hk7))); clear ho7 hg7 hat7 hk7))
                  exact ⟨⟨c + 1, upd gs 1 v7, (upd_same _ _ _).symm, by rw [hwc]; rfl, HCL.out, ⟨(HP2.out.below HBS.out (below_alloc (Below.refl _ _) _)).step1 HBS.out HN.out H7.out.1 (by rw [HGF.out]; exact H7.out.2.1) (by rw [HGF.out]; exact H7.out.2.2.1) (by rw [HGF.out]; exact H7.out.2.2.2)⟩, ⟨HG1.out.trans (upd_ne _ _ (by decide)).symm⟩⟩, meas_k HCL.out hwc⟩
                · have hd5 : decide ((c : Int) < 80) = false := decide_eq_false (by omega)
                  have hc8 : c = 80 := Nat.le_antisymm hc (Nat.not_lt.1 hcl)
                  have HP4 := Aside0.mk (show Nm.P2 base 2 vs ns w 2 0 gs wr by have h := HP2.out; rw [hc8] at h; exact h.next)
                  rw [HG1.out]
                  obtain ⟨B0, b0, hf0⟩ := HP4.out.inv.form (show 0 < 2 by decide)
                  obtain ⟨B1, b1, hf1⟩ := HP4.out.inv.form (show 1 < 2 by decide)
                  obtain ⟨m0, hm0⟩ : ∃ m0, m0 = cnt2 ns 2 0 0 := ⟨_, rfl⟩
                  obtain ⟨m1, hm1⟩ : ∃ m1, m1 = cnt2 ns 2 0 1 := ⟨_, rfl⟩
                  rw [← hm0] at hf0
                  rw [← hm1] at hf1
                  have HM0 := Aside0.mk hm0
                  have HM1 := Aside0.mk hm1
                  have HF0 := Aside0.mk hf0
                  have HF1 := Aside0.mk hf1
                  have HK0 := Aside0.mk (show m0 ≤ 16777296 by have h1 := HL0.out; have h2 := HN0.out; rw [hm0]; simp [cnt2]; omega)
                  have HK1 := Aside0.mk (show m1 ≤ 16777296 by have h1 := HL1.out; have h2 := HN1.out; rw [hm1]; simp [cnt2]; omega)
                  rw [hf0, hf1]
                  clear hcl hc hc8 hm0 hm1 hf0 hf1 HP2 HP3
                  obtain ⟨ws, rfl⟩ : ∃ ws : World, ws = wr := ⟨_, rfl⟩
                  go_wp2
                  go_loopw [11] (fun v11 wr => ∃ c : Nat, v11 = .int .i64 (c : Int) ∧ c ≤ m0 ∧ ws = wr) (fun v11 _ => m0 - (intOf v11).toNat)
                  case atStart => exact ⟨0, rfl, Nat.zero_le _, rfl⟩
                  case round =>
                    obtain ⟨c, rfl, hc, rfl⟩ := hrel
                    have hpc := eq_true (Int.natCast_nonneg c)
                    by_cases hcl : c < m0
                    · have hd6 : decide (c < m0) = true := decide_eq_true hcl
                      have HCL := Aside0.mk hcl
                      have hqc := eq_true (Int.ofNat_lt.2 hcl)
                      have hwc : wrap64 ((c : Int) + 1) = (c : Int) + 1 := by have := HK0.out; unfold wrap64; omega
                      obtain ⟨ad, hadB, hce⟩ := HP4.out.cell (show 0 < 2 by decide) HM0.out HF0.out hcl
                      rw [Nm.mk0] at hce
                      subst hadB
                      by_cases hcn : c < j
                      · have hd7 : decide (c < j) = true := decide_eq_true hcn
                        have hqn := eq_true (Int.ofNat_lt.2 hcn)
                        obtain ⟨ae, haeA, hcv⟩ := HP4.out.elder HI.out (show 0 < 2 by decide) HN0.out HV0.out hcn
                        rw [Nm.mk0] at hcv
                        subst haeA
                        clear hc hcl hcn
                        go_wp2
                        exact ⟨⟨c + 1, by rw [hwc]; rfl, HCL.out, by trivial⟩, meas_k HCL.out hwc⟩
                      · have hd7 : decide (c < j) = false := decide_eq_false hcn
                        clear hc hcl hcn
                        go_wp2
                        exact ⟨⟨c + 1, by rw [hwc]; rfl, HCL.out, by trivial⟩, meas_k HCL.out hwc⟩
                    · have hd6 : decide (c < m0) = false := decide_eq_false hcl
                      clear hc hcl
                      go_wp2
                      go_loopw [12] (fun v12 wr => ∃ c : Nat, v12 = .int .i64 (c : Int) ∧ c ≤ m1 ∧ ws = wr) (fun v12 _ => m1 - (intOf v12).toNat)
                      case atStart => exact ⟨0, rfl, Nat.zero_le _, rfl⟩
                      case round =>
                        obtain ⟨d, rfl, hc, rfl⟩ := hrel
                        have hpd := eq_true (Int.natCast_nonneg d)
                        by_cases hcl : d < m1
                        · have hd8 : decide (d < m1) = true := decide_eq_true hcl
                          have HCL := Aside0.mk hcl
                          have hqd := eq_true (Int.ofNat_lt.2 hcl)
                          have hwd : wrap64 ((d : Int) + 1) = (d : Int) + 1 := by have := HK1.out; unfold wrap64; omega
                          obtain ⟨ad, hadB, hce⟩ := HP4.out.cell (show 1 < 2 by decide) HM1.out HF1.out hcl
                          rw [Nm.mk1] at hce
                          subst hadB
                          by_cases hcn : d < b
                          · have hd9 : decide (d < b) = true := decide_eq_true hcn
                            have hqn := eq_true (Int.ofNat_lt.2 hcn)
                            obtain ⟨ae, haeA, hcv⟩ := HP4.out.elder HI.out (show 1 < 2 by decide) HN1.out HV1.out hcn
                            rw [Nm.mk1] at hcv
                            subst haeA
                            clear hc hcl hcn
                            go_wp2
                            exact ⟨⟨d + 1, by rw [hwd]; rfl, HCL.out, by trivial⟩, meas_k HCL.out hwd⟩
                          · have hd9 : decide (d < b) = false := decide_eq_false hcn
                            clear hc hcl hcn
                            go_wp2
                            exact ⟨⟨d + 1, by rw [hwd]; rfl, HCL.out, by trivial⟩, meas_k HCL.out hwd⟩
                        · have hd8 : decide (d < m1) = false := decide_eq_false hcl
                          clear hc hcl
                          go_wp2
                          go_ret
                          exact ⟨rfl, HP4.out.out⟩

end Go.Proofs.Ytaipokmbgcmciaa.Q
