/- The law's plain side (UtfKeepsA): what the printed functions come to; each theorem states its own conditions. -/
import Derived.Test.YtaipokmbgcmciaaPKx0
import Derived.Test.YtaipokmbgcmciaaBAppKeep
import Derived.Test.YtaipokmbgcmciaaQUtfKeepsM
import Derived.OneCell
import Derived.Laws.MakeOwn
import Derived.StillTailTactics
import Derived.Deep.QuietTactic
import Derived.BigQuiet
namespace Go.Proofs.Ytaipokmbgcmciaa.Q
open Go.RowKit Go.Proofs.YtaipokmbgcmciaaW.PrintWords Go.Proofs.YtaipokmbgcmciaaW.PrintLast Go.Proofs.YtaipokmbgcmciaaW.PrintMore Go.Proofs.Ytaipokmbgcmciaa.PK Go.Proofs.Ytaipokmbgcmciaa.B
set_option linter.unusedVariables false
set_option linter.unusedSimpArgs false
set_option maxRecDepth 100000 in
theorem mark_same (i j : Nat) (w : World) : Calls Try.prog 33 #[.int .i64 (i : Int), .int .i64 (j : Int)] w fun e w' => e = .returned (.int .i32 (mkAt i j)) ∧ w' = w := by
  go_enter Try.func33, Try.ntmps33
  go_wp2
  go_ret
  exact ⟨rfl, rfl⟩
theorem mark_eq (i j : Nat) (w : World) : Calls Try.prog 33 #[.int .i64 (i : Int), .int .i64 (j : Int)] w fun e w' => e = .returned (.int .i32 (mkAt i j)) ∧ w = w' := (mark_same i j w).mono fun _ _ h => ⟨h.1, h.2.symm⟩
set_option maxHeartbeats 8000000 in
set_option maxRecDepth 100000 in
theorem apart_calls (la : Addr) (m cl base : Nat) (hm : m ≤ 1000) (vs : Nat → Value) (ns : Nat → Nat) (w : World) (hbase : base ≤ w.heap.size) (hcells : ∀ i, i < m → w.cell? (la.add i) = some (vs i)) (hI : Inv1 base m vs ns w (fun _ => 0))
    (hnb : ∀ i, i < m → (vs i).ownBlock ≠ some la.block) (hns : ∀ i, i < m → ns i ≤ 16777216) :
    Calls Try.prog 18 #[.slice (some la) m cl] w fun e w' => e = .returned (.bool true) ∧ Out base m vs w w' := by
  obtain ⟨i0, hi, hzz⟩ := Option.map_eq_some_iff.1 (show (Try.prog.info? 22).map (fun i => (i.zero, i.size, i.bytes)) = some (some (.slice none 0 0), 1, 24) by kernel_rfl)
  simp only [Prod.mk.injEq] at hzz
  obtain ⟨hz0, hz1, hz2⟩ := hzz
  obtain ⟨MC, hMC, hms⟩ : ∃ MC : Array Value, MC.size = m ∧ ∀ W, (Instr.makeSlice 32 (.int .i64 (m : Int)) (.int .i64 (m : Int))).run Try.prog W = .ok (.slice (some ⟨W.heap.size, 0, none⟩) m m) (W.alloc (.cells MC 22)) := by
    refine ⟨madeCells (Value.slice none 0 0).cells m, ?_, fun W => ?_⟩
    · rw [size_madeCells]
    · have := run_makeSlice W 32 22 i0 _ Try.underlying32 hi hz0 .i64 .i64 (m : Int) (m : Int) (by omega) (by omega) (by rw [hz1]; omega) (by rw [hz2]; omega) (by omega)
      rw [this, hz1, Int.toNat_natCast, Nat.mul_one]
  have HM := Aside0.mk hMC
  have HI := Aside0.mk hI
  have HC := Aside0.mk hcells
  have HNB := Aside0.mk hnb
  have HNS := Aside0.mk hns
  have HBS := Aside0.mk hbase
  have HMM := Aside0.mk hm
  clear hMC hI hcells hnb hns hi hz0 hz1 hz2 hbase hm
  go_enter Try.func18, Try.ntmps18
  go_wp2
  obtain ⟨wG, hwG⟩ : ∃ wG, wG = w.alloc (.cells MC 22) := ⟨_, rfl⟩
  have hbG : wG.heap[w.heap.size]? = some (.cells MC 22 (0, 0)) := by rw [hwG]; exact heap_alloc_new _ _
  have HOG := Aside0.mk (show Out base m vs w wG by rw [hwG]; exact (Out.refl _ _ _ _).on HBS.out (below_alloc (Below.refl _ _) _))
  have HIG := Aside0.mk (show Inv1 base m vs ns wG (fun _ => 0) by rw [hwG]; exact HI.out.below (below_alloc (Below.refl _ _) _))
  rw [← hwG]
  have HBG := Aside0.mk hbG
  clear hwG hbG
  obtain ⟨ga, hga⟩ : ∃ ga : Addr, ga = ⟨w.heap.size, 0, none⟩ := ⟨_, rfl⟩
  rw [← hga]
  have HGA := Aside0.mk hga
  clear hga
  go_loopw [4, 5] (fun vi vj wr => ∃ i : Nat, vi = .int .i64 (i : Int) ∧ i ≤ m ∧ Aside0 (Inv1 base m vs ns wr (fun k => if k < i then ns k else 0)) ∧ Aside0 (Out base m vs w wr) ∧ Aside0 (wr.heap[w.heap.size]? = some (.cells MC 22 (0, 0)))) (fun vi _ _ => m - (intOf vi).toNat)
  case atStart => exact ⟨0, rfl, Nat.zero_le _, ⟨by simpa using HIG.out⟩, HOG, HBG⟩
  case round =>
    obtain ⟨i, rfl, hi, HI1, HO1, HB1⟩ := hrel
    obtain ⟨wo, rfl⟩ : ∃ wo : World, wo = wr := ⟨_, rfl⟩
    by_cases hlt : i < m
    · have hd1 : decide (i < m) = true := decide_eq_true hlt
      have HLT := Aside0.mk hlt
      obtain ⟨A, cc, hv⟩ := row_form HI1.out hlt
      have HV := Aside0.mk hv
      have HNI := Aside0.mk (HNS.out i hlt)
      have HCI := Aside0.mk (by have := HC.out i hlt; rw [hv] at this; exact this : w.cell? (la.add i) = some (.slice A (ns i) cc))
      have HNBI := Aside0.mk (fun k hk => by rw [add_block_k]; exact HNB.out k hk : ∀ k, k < m → (vs k).ownBlock ≠ some (la.add i).block)
      have hp0 := eq_true (Int.natCast_nonneg i)
      have hq0 := eq_true (Int.ofNat_lt.2 hlt)
      have hwi := wrap_k hlt (Nat.le_trans HMM.out (by decide))
      have HBO := Aside0.mk (base_on HI1.out HO1.out HBS.out)
      clear hlt hi hv
      go_wp2
      go_loopw [5] (fun vj wr => ∃ j : Nat, vj = .int .i64 (j : Int) ∧ j ≤ ns i ∧ Aside0 (Inv1 base m vs ns wr (fun k => if k < i then ns k else if k = i then j else 0)) ∧ Aside0 (Out base m vs w wr) ∧ Aside0 (wr.heap[w.heap.size]? = some (.cells MC 22 (0, 0)))) (fun vj _ => ns i - (intOf vj).toNat)
      case atStart => exact ⟨0, rfl, Nat.zero_le _, ⟨inv1_start HI1.out⟩, HO1, HB1⟩
      case round =>
        obtain ⟨j, rfl, hj, HI2, HO2, HB2⟩ := hrel
        have hc2 := HO2.out.cell HCI.out HNBI.out
        by_cases hjl : j < ns i
        · have hd2 : decide (j < ns i) = true := decide_eq_true hjl
          have HJL := Aside0.mk hjl
          have hp1 := eq_true (Int.natCast_nonneg j)
          have hq1 := eq_true (Int.ofNat_lt.2 hjl)
          have hwj := wrap_k hjl HNI.out
          obtain ⟨g, ga, cur, hvg, hgb, hgc, hgn, hgs⟩ := row_block HI2.out HLT.out hjl
          have he : (Value.slice A (ns i) cc) = .slice (some ⟨g, 0, none⟩) (ns i) ga := HV.out.symm.trans hvg
          injection he with he1 _ he2
          obtain ⟨ad, had⟩ : ∃ ad : Addr, ad = ⟨g, 0, none⟩ := ⟨_, rfl⟩
          rw [← had] at he1
          have HAD := Aside0.mk had
          have HVG := Aside0.mk hvg
          subst he1 he2
          have hcj : wr.cell? (ad.add j) = some (cur[j]?.getD undef) := by rw [had, add_plain, blk_cell hgc]; simp [show j < cur.size by omega]
          have hfj : wr.frozen? (ad.add j) = false := by rw [had, add_plain]; exact blk_frozen hgc j
          have HNE := Aside0.mk (other_type hgc HB2.out (by decide))
          have HGB := Aside0.mk hgb
          clear hj hjl hvg hgc had hgs hgn hgb
          go_wp2
          go_still_tail 9, (by kernel_rfl)
          still_call (mark_same i j _)
          repeat still_step
          refine wpStill_nil ?_
          change wpList _ _ _ _ _ wr.drew
          go_wp2
          exact ⟨⟨j + 1, by rw [hwj]; rfl, HJL.out, ⟨inv1_step HI2.out HLT.out HJL.out HVG.out HAD.out⟩, ⟨by rw [HAD.out, add_plain]; exact (HO2.out.put HLT.out HVG.out HGB.out j _).drew⟩, ⟨by rw [HAD.out, add_plain]; exact (Below.heap_setCell wr ⟨g, j, none⟩ _ _ (Ne.symm HNE.out)).trans HB2.out⟩⟩, meas_k HJL.out hwj⟩
        · have hd2 : decide (j < ns i) = false := decide_eq_false hjl
          obtain rfl : j = ns i := Nat.le_antisymm hj (Nat.not_lt.1 hjl)
          clear hjl hj
          go_wp2
          exact ⟨⟨i + 1, by rw [hwi]; rfl, HLT.out, ⟨inv1_next HI2.out⟩, HO2, HB2⟩, meas_k HLT.out hwi⟩
    · have hd1 : decide (i < m) = false := decide_eq_false hlt
      obtain rfl : i = m := Nat.le_antisymm hi (Nat.not_lt.1 hlt)
      have HVL := Aside0.mk (fun k b (hk : k < i) hb => (row_lt HI.out hk b hb).1 : ∀ k b, k < i → (vs k).ownBlock = some b → b < w.heap.size)
      have HP := Aside0.mk (show P2 base i vs ns w 0 0 vs wo from ⟨inv_start (inv1_done HI1.out), HO1.out, fun _ _ => rfl, fun _ _ _ hb => .inl hb, ⟨_, HB1.out, HM.out, fun k hk => by omega⟩⟩)
      obtain ⟨i1, hi1, hzz⟩ := Option.map_eq_some_iff.1 info21
      simp only [Prod.mk.injEq] at hzz
      have HI1_ := Aside0.mk (show Try.prog.info? 21 = some i1 ∧ i1.zero = some (.int .i32 0) ∧ i1.size = 1 ∧ i1.bytes = 4 from ⟨hi1, hzz⟩)
      clear hlt hi hi1 hzz hms HM
      go_wp2
      go_loopw [6, 7, 8] (fun v6 _ _ wr => ∃ (q : Nat) (gs : Nat → Value), v6 = .int .i64 (q : Int) ∧ q ≤ i ∧ Aside0 (P2 base i vs ns w q 0 gs wr) ∧ Aside0 (gs q = vs q)) (fun v6 _ _ _ => i - (intOf v6).toNat)
      case atStart => exact ⟨0, vs, rfl, Nat.zero_le _, HP, ⟨rfl⟩⟩
      case round =>
        obtain ⟨q, gs, rfl, hq, HP1, HGV⟩ := hrel
        obtain ⟨wp, rfl⟩ : ∃ wp : World, wp = wr := ⟨_, rfl⟩
        by_cases hlt : q < i
        · have hd2 : decide (q < i) = true := decide_eq_true hlt
          have HLT := Aside0.mk hlt
          have hcq := HP1.out.out.cell (HC.out q hlt) (fun k hk => by rw [add_block_k]; exact HNB.out k hk)
          obtain ⟨A, cc, hv⟩ := row_form HI.out hlt
          rw [hv] at hcq
          have HV := Aside0.mk hv
          have hp0 := eq_true (Int.natCast_nonneg q)
          have hq0 := eq_true (Int.ofNat_lt.2 hlt)
          have hwq := wrap_k hlt (Nat.le_trans HMM.out (by decide))
          clear hlt hq hv
          go_wp2
          go_loopw [7, 8] (fun v7 v8 wr => ∃ (j : Nat) (gs : Nat → Value), v7 = gs q ∧ v8 = .int .i64 (j : Int) ∧ j ≤ 80 ∧ Aside0 (P2 base i vs ns w q j gs wr)) (fun _ v8 _ => 80 - (intOf v8).toNat)
          case atStart => exact ⟨0, gs, by rw [HGV.out, HV.out], rfl, Nat.zero_le _, HP1⟩
          case round =>
            obtain ⟨j, gs, rfl, rfl, hj, HP2⟩ := hrel
            by_cases hjl : j < 80
            · have hd3 : decide ((j : Int) < 80) = true := decide_eq_true (by omega)
              have HJL := Aside0.mk hjl
              have hwj := wrap_k hjl (by decide)
              obtain ⟨B, bc, hgf⟩ := HP2.out.inv.form HLT.out
              obtain ⟨n, hn⟩ : ∃ n, n = ns q + j := ⟨_, rfl⟩
              rw [cnt2_at, ← hn] at hgf
              have HGF := Aside0.mk hgf
              have HN := Aside0.mk hn
              have ho := HP2.out.inv.own HLT.out
              rw [cnt2_at, ← hn, hgf] at ho
              have HOW := Aside0.mk ho
              have HNB2 := Aside0.mk (show n + 1 ≤ 16777297 by have := HNS.out q HLT.out; omega)
              have HSZ := Aside0.mk (show base ≤ wr.heap.size from Nat.le_trans HBS.out HP2.out.out.kept.1)
              rw [hgf]
              clear hjl hj hgf hn ho
              go_wp2_with (first
                | (go_at_call 33; refine (mark_eq q n _).mono ?_; rintro e w' ⟨rfl, rfl⟩)
                | ((with_reducible refine gate_builtin (b := .append) (xs := #[.tmp 52, .tmp 57]) rfl ?_); at_builtin; refine wpList_append_keep rfl (.tmp 52) (.tmp 57) 22 rfl base 21 i1 (.int .i32 0) 4 Try.underlying22 HI1_.out.1 HI1_.out.2.1 HI1_.out.2.2.1 HI1_.out.2.2.2 rfl (.slice B n bc) n (nums .i32 (mks q n)) rfl (HOW.out.alloc _) ⟨wr.heap.size, 0, none⟩ 1 (.int .i32 (mkAt q n)) rfl (cell_one_new _ _ _) (by simp [Value.oneCell']) (max_k HNB2.out) (bytes_k HNB2.out) (Nat.le_trans HSZ.out (by simp)) ?_; intro v7 w7 ho7 hg7 hat7 hk7; have H7 := Aside0.mk (And.intro ho7 (And.intro hg7 (And.intro hat7 hk7))); clear ho7 hg7 hat7 hk7))
              exact ⟨⟨j + 1, upd gs q v7, (upd_same _ _ _).symm, by rw [hwj]; rfl, HJL.out, ⟨(HP2.out.below HBS.out (below_alloc (Below.refl _ _) _)).step HBS.out HVL.out HLT.out HN.out H7.out.1 (by rw [HGF.out]; exact H7.out.2.1) (by rw [HGF.out]; exact H7.out.2.2.1) (by rw [HGF.out]; exact H7.out.2.2.2)⟩⟩, meas_k HJL.out hwj⟩
            · have hd3 : decide ((j : Int) < 80) = false := decide_eq_false (by omega)
              obtain rfl : j = 80 := Nat.le_antisymm hj (Nat.not_lt.1 hjl)
              obtain ⟨B, bc, hgf⟩ := HP2.out.inv.form HLT.out
              have HGF := Aside0.mk hgf
              obtain ⟨GA, hGh, hGs, _⟩ := HP2.out.row
              have hcG : wr.cell? (ga.add q) = some (GA[q]?.getD undef) := by rw [HGA.out, add_plain, blk_cell hGh]; simp [show q < GA.size by rw [hGs]; exact HLT.out]
              have hfG : wr.frozen? (ga.add q) = false := by rw [HGA.out, add_plain]; exact blk_frozen hGh q
              rw [hgf]
              clear hjl hj hgf hGh hGs
              go_wp2
              exact ⟨⟨q + 1, gs, by rw [hwq]; rfl, HLT.out, ⟨by rw [HGA.out, add_plain, ← HGF.out]; exact HP2.out.next HBS.out HVL.out HLT.out⟩, ⟨HP2.out.rest _ (Nat.lt_succ_self q)⟩⟩, meas_k HLT.out hwq⟩
        · have hd2 : decide (q < i) = false := decide_eq_false hlt
          obtain rfl : q = i := Nat.le_antisymm hq (Nat.not_lt.1 hlt)
          clear hlt hq hd2
          go_wp2
          go_loopw [9, 10] (fun v9 _ wr => ∃ a : Nat, v9 = .int .i64 (a : Int) ∧ a ≤ q ∧ Aside0 (P2 base q vs ns w q 0 gs wr)) (fun v9 _ _ => q - (intOf v9).toNat)
          case atStart => exact ⟨0, rfl, Nat.zero_le _, HP1⟩
          case round =>
            obtain ⟨a, rfl, ha, HP3⟩ := hrel
            obtain ⟨ws, rfl⟩ : ∃ ws : World, ws = wr := ⟨_, rfl⟩
            by_cases hlt : a < q
            · have hd4 : decide (a < q) = true := decide_eq_true hlt
              have HLT := Aside0.mk hlt
              obtain ⟨B, bc, hgf⟩ := HP3.out.inv.form hlt
              obtain ⟨n, hn⟩ : ∃ n, n = cnt2 ns q 0 a := ⟨_, rfl⟩
              have hn8 : n = ns a + 80 := by rw [hn]; unfold cnt2; rw [if_pos hlt]
              rw [← hn] at hgf
              have HGF := Aside0.mk hgf
              have HN := Aside0.mk hn
              have HNN := Aside0.mk hn8
              obtain ⟨A, cc, hv⟩ := row_form HI.out hlt
              have HV := Aside0.mk hv
              have HCI := Aside0.mk (by have := HC.out a hlt; rw [hv] at this; exact this : w.cell? (la.add a) = some (.slice A (ns a) cc))
              have HNI := Aside0.mk (show n ≤ 16777296 by have := HNS.out a hlt; omega)
              have hp0 := eq_true (Int.natCast_nonneg a)
              have hq0 := eq_true (Int.ofNat_lt.2 hlt)
              have hwa := wrap_k hlt (Nat.le_trans HMM.out (by decide))
              clear hlt ha hgf hn hn8 hv
              go_wp2
              go_loopw [10] (fun v10 wr => ∃ b : Nat, v10 = .int .i64 (b : Int) ∧ b ≤ n ∧ Aside0 (P2 base q vs ns w q 0 gs wr)) (fun v10 _ => n - (intOf v10).toNat)
              case atStart => exact ⟨0, rfl, Nat.zero_le _, HP3⟩
              case round =>
                obtain ⟨b, rfl, hb, HP4⟩ := hrel
                have hcG : wr.cell? (ga.add a) = some (.slice B n bc) := by
                  obtain ⟨GA, hGh, _, hk⟩ := HP4.out.row
                  rw [HGA.out, add_plain, blk_cell hGh, hk a HLT.out, HGF.out]
                have hcL := HP4.out.out.cell HCI.out (fun k hk => by rw [add_block_k]; exact HNB.out k hk)
                have hpb := eq_true (Int.natCast_nonneg b)
                by_cases hbl : b < n
                · have hd5 : decide (b < n) = true := decide_eq_true hbl
                  have HBL := Aside0.mk hbl
                  have hqb := eq_true (Int.ofNat_lt.2 hbl)
                  have hwb : wrap64 ((b : Int) + 1) = (b : Int) + 1 := by have := HNI.out; unfold wrap64; omega
                  have ho := HP4.out.inv.own HLT.out
                  rw [← HN.out] at ho
                  obtain ⟨ad, had, hce⟩ : ∃ ad, B = some ad ∧ wr.cell? (ad.add b) = some (.int .i32 (mkAt a b)) := by
                    rcases own_form_k ho with ⟨_, h0⟩ | ⟨g, cap, cur, e, _⟩
                    · omega
                    · have he := HGF.out.symm.trans e
                      injection he with he1 _ _
                      exact ⟨_, he1, ho.cells (g := g) (by rw [e]; rfl) b _ (by simp [nums, mks_get a n b hbl])⟩
                  subst had
                  by_cases hbn : b < ns a
                  · have hd6 : decide (b < ns a) = true := decide_eq_true hbn
                    have hqn := eq_true (Int.ofNat_lt.2 hbn)
                    obtain ⟨ae, hae, hcv⟩ : ∃ ae, A = some ae ∧ wr.cell? (ae.add b) = some (.int .i32 (mkAt a b)) := by
                      obtain ⟨g, cap, cur, e, _⟩ := row_block HI.out HLT.out hbn
                      have he := HV.out.symm.trans e
                      injection he with he1 _ _
                      obtain ⟨f, hf⟩ := HP4.out.inv
                      refine ⟨_, he1, ?_⟩
                      rw [add_plain]
                      exact (hf a HLT.out).reads g b (by rw [e]; rfl) hbn
                    subst hae
                    clear hb hbl hbn ho
                    go_wp2_with (go_quiet ((go_at_call 33; exact Calls.quiet_of_same (mark_same a b _))))
                    exact ⟨⟨b + 1, by rw [hwb]; rfl, HBL.out, ⟨HP4.out.below HBS.out (below_drewN_k (Below.refl _ _) _)⟩⟩, meas_k HBL.out hwb⟩
                  · have hd6 : decide (b < ns a) = false := decide_eq_false hbn
                    clear hb hbl hbn ho
                    go_wp2_with (go_quiet ((go_at_call 33; exact Calls.quiet_of_same (mark_same a b _))))
                    exact ⟨⟨b + 1, by rw [hwb]; rfl, HBL.out, ⟨HP4.out.below HBS.out (below_drewN_k (Below.refl _ _) _)⟩⟩, meas_k HBL.out hwb⟩
                · have hd5 : decide (b < n) = false := decide_eq_false hbl
                  clear hb hbl
                  go_wp2
                  exact ⟨⟨a + 1, by rw [hwa]; rfl, HLT.out, HP4⟩, meas_k HLT.out hwa⟩
            · have hd4 : decide (a < q) = false := decide_eq_false hlt
              clear hlt ha
              go_wp2
              go_ret
              exact ⟨rfl, HP3.out.out⟩

end Go.Proofs.Ytaipokmbgcmciaa.Q
