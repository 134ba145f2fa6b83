/- The law's plain side (HRule): what the printed functions come to; each theorem states its own conditions. -/
import Derived.Test.YtoggmegpodmfnaaGreatDoorPSx01
import Derived.Test.YtoggmegpodmfnaaGreatDoorPSx8
import Derived.Test.YtoggmegpodmfnaaGreatDoorBSetsBand
import Derived.Test.YtoggmegpodmfnaaGreatDoorBSq
import Derived.Test.YtoggmegpodmfnaaGreatDoorQH1
import Derived.Deep.QuietTactic
import Derived.BigQuiet
namespace Go.Proofs.YtoggmegpodmfnaaGreatDoor.Q
open Go.RowKit Go.Proofs.YtoggmegpodmfnaaGreatDoorW.PrintWords Go.Proofs.YtoggmegpodmfnaaGreatDoorW.PrintLast Go.Proofs.YtoggmegpodmfnaaGreatDoorW.PrintMore Go.Proofs.YtoggmegpodmfnaaGreatDoor.PS Go.Proofs.YtoggmegpodmfnaaGreatDoor.B
set_option linter.unusedVariables false
set_option linter.unusedSimpArgs false
def tk (k : Int) (x y : Bool) : Bool := if k = 1 then x || y else if k = 2 then x && y else if k = 3 then x && !y else !x && !y
theorem cuts_of {C : List Int} {L : List (List Rg)} (hs : C.Pairwise (· < ·)) (hm : ∀ x, x ∈ C ↔ x ∈ cutsL L) : Cuts C := by
  have h : ∀ x, x ∈ cutsB 3 → x ∈ C := fun x hx => (hm x).2 (List.mem_append.2 (.inl hx)); have e : cutsB 3 = [0, 55296, 57344, 1114112, 1114240, 1114368] := rfl; rw [e] at h; exact ⟨hs, ⟨h _ (by simp), h _ (by simp)⟩, ⟨h _ (by simp), h _ (by simp)⟩, ⟨h _ (by simp), h _ (by simp)⟩⟩
theorem ends_in {C : List Int} {L : List (List Rg)} (hm : ∀ x, x ∈ C ↔ x ∈ cutsL L) {l : List Rg} (hl : l ∈ L) : ∀ r ∈ l, r.f0 ∈ C ∧ r.f1 + 1 ∈ C := fun r hr => by
  have h : ∀ x, x ∈ [r.f0, r.f1 + 1] → x ∈ C := fun x hx => (hm x).2 (List.mem_append.2 (.inr (List.mem_flatMap.2 ⟨l, hl, List.mem_flatMap.2 ⟨r, hr, hx⟩⟩))); exact ⟨h _ (by simp), h _ (by simp)⟩
def selN (f : Rg → Bool) (C : List Int) (i : Nat) : List Rg := (((pcs C).take i).filter f).foldl joinR []
theorem sel_ok {C : List Int} (hC : Cuts C) (f : Rg → Bool) (i : Nat) : Sound (selN f C i) ∧ (∀ u, mem (selN f C i) u = mem (((pcs C).take i).filter f) u) ∧ (selN f C i).length ≤ i := by
  have hsub : (((pcs C).take i).filter f).Sublist (pcs C) := List.filter_sublist.trans (List.take_sublist _ _); obtain ⟨h1, h2, h3⟩ := joins_ok (((pcs C).take i).filter f) [] ⟨by simp, by simp⟩ (fun p hp => pcs_ok hC p (hsub.subset hp)) ((pcs_asc C hC.asc).sublist hsub) (by simp); refine ⟨h1, fun u => by show mem (List.foldl joinR [] _) u = _; rw [h2]; simp [mem], Nat.le_trans h3 ?_⟩; have := List.length_filter_le f ((pcs C).take i); simp only [List.length_take, List.length_nil] at *; omega
theorem sel_succ {C : List Int} {f : Rg → Bool} {i : Nat} {p : Rg} (hp : (pcs C)[i]? = some p) : selN f C (i + 1) = if f p = true then joinR (selN f C i) p else selN f C i := by
  unfold selN; rw [List.take_add_one, hp]
  by_cases h : f p = true
  (· rw [if_pos h]; simp [h]); (· rw [if_neg h]; simp [h])
theorem sel_mem {C : List Int} (hC : Cuts C) {a b : List Rg} (ha : ∀ r ∈ a, r.f0 ∈ C ∧ r.f1 + 1 ∈ C) (hb : ∀ r ∈ b, r.f0 ∈ C ∧ r.f1 + 1 ∈ C) (k : Int) (u : Int) : mem (selN (fun p => tk k (mem a p.f0) (mem b p.f0)) C (pcs C).length) u = (isU u && tk k (mem a u) (mem b u)) := by
  rw [(sel_ok hC _ _).2.1, List.take_length, Bool.eq_iff_iff, mem_iff, Bool.and_eq_true]; constructor; (· rintro ⟨p, hp, h0, h1⟩; obtain ⟨hp1, hp2⟩ := List.mem_filter.1 hp; refine ⟨okR_unit (pcs_ok hC p hp1) h0 h1, ?_⟩; rw [pcs_same hC.asc ha hp1 h0 h1, pcs_same hC.asc hb hp1 h0 h1]; exact hp2); (· rintro ⟨hu, hk⟩; obtain ⟨p, hp, h0, h1⟩ := pcs_of hC hu; refine ⟨p, List.mem_filter.2 ⟨hp, ?_⟩, h0, h1⟩; rw [pcs_same hC.asc ha hp h0 h1, pcs_same hC.asc hb hp h0 h1] at hk; exact hk)
theorem pcs_len : ∀ C : List Int, (pcs C).length ≤ C.length
  | [] => Nat.le_refl _
  | [a] => Nat.zero_le _
  | a :: b :: r => by
    have := pcs_len (b :: r); unfold pcs
    split <;> simp only [List.length_cons] at * <;> omega
theorem pcs_f0 {C : List Int} (hC : C.Pairwise (· < ·)) : (pcs C).Pairwise (fun a b => a.f0 ≤ b.f0) := by
  refine (pcs_asc C hC).imp_of_mem (fun {a b} ha _ h => ?_); have := (pcs_in C hC a ha).2.2.1; omega
theorem two_C {g : Nat} {A0 A1 : Option Addr} {c0 c1 : Nat} {a b : List Rg} {W : World} (h : W.heap[g]? = some (.cells #[.slice A0 a.length c0, .slice A1 b.length c1] 24 (0, 0)))
    (hr0 : Kd.C k41 W A0 a.length a) (hc0 : a.length ≤ c0) (hr1 : Kd.C k41 W A1 b.length b) (hc1 : b.length ≤ c1) : Kd.C (Kd.slice 41 k41) W (some ⟨g, 0, none⟩) [a, b].length [a, b] := by
  refine ⟨rfl, by simp, fun _ => ⟨⟨g, 0, none⟩, rfl, fun j p hp => ?_⟩⟩
  match j, hp with
  | 0, hp =>
    obtain rfl := Option.some.inj hp; refine ⟨[.slice A0 a.length c0], rfl, ⟨_, _, rfl, hc0, hr0⟩, fun i v hv => ?_⟩
    match i, hv with
    | 0, hv => obtain rfl := Option.some.inj hv; exact cell_of_row W g 0 _ _ _ h
  | 1, hp =>
    obtain rfl := Option.some.inj hp; refine ⟨[.slice A1 b.length c1], rfl, ⟨_, _, rfl, hc1, hr1⟩, fun i v hv => ?_⟩
    match i, hv with
    | 0, hv => obtain rfl := Option.some.inj hv; exact cell_of_row W g 1 _ _ _ h
  | j + 2, hp => simp at hp
set_option maxHeartbeats 8000000 in
set_option maxRecDepth 100000 in
theorem rule_no (kd : Int) (A0 : Option Addr) (c0 : Nat) (a : List Rg) (A1 : Option Addr) (c1 : Nat) (b : List Rg) (w : World) (hl0 : a.length ≤ 8388608) (hl1 : b.length ≤ 8388608) (ha : ∀ r ∈ a, R32 r) (hb : ∀ r ∈ b, R32 r)
    (hr0 : Kd.C k41 w A0 a.length a) (hr1 : Kd.C k41 w A1 b.length b) (hn : ¬ (Sound a ∧ Sound b)) :
    Calls Tryz.prog 47 #[.int .i64 kd, .slice A0 a.length c0, .slice A1 b.length c1] w fun e w' => e = .returned (.tuple #[.slice none 0 0, .int .i64 1]) ∧ Below w.heap.size w w' := by
  have HR0 := Aside0.mk hr0; have HR1 := Aside0.mk hr1; have HL := Aside0.mk (show a.length ≤ 67108864 ∧ b.length ≤ 67108864 by omega); have HA := Aside0.mk (And.intro ha hb); obtain ⟨ra, hra⟩ : ∃ r : Int, r = if Sound a then 0 else 1 := ⟨_, rfl⟩; obtain ⟨rb, hrb⟩ : ∃ r : Int, r = if Sound b then 0 else 1 := ⟨_, rfl⟩; have ca := fun W [hW : BelC w W] => refCheck_run A0 c0 a W HL.out.1 ha (cl hr0 : Kd.C k41 W A0 a.length a); have cb := fun W [hW : BelC w W] => refCheck_run A1 c1 b W HL.out.2 hb (cl hr1 : Kd.C k41 W A1 b.length b); rw [← hra] at ca; rw [← hrb] at cb; have CA := Aside0.mk ca; have CB := Aside0.mk cb
  have hF : (ra != 0) = true ∨ ((ra != 0) = false ∧ (rb != 0) = true) := by
    by_cases h1 : Sound a
    (· rw [if_pos h1] at hra; have h2 : ¬ Sound b := fun h => hn ⟨h1, h⟩; rw [if_neg h2] at hrb; subst hra; subst hrb; exact .inr ⟨by decide, by decide⟩); (· rw [if_neg h1] at hra; subst hra; exact .inl (by decide))
  clear hr0 hr1 hl0 hl1 ha hb hn hra hrb ca cb
  rcases hF with e1 | ⟨e1, e2⟩
  all_goals
    go_enter Tryz.func47, Tryz.ntmps47
    go_wp2_with (first
      | (go_at_call 13; (refine (CA.out w (hW := bc0)).mono ?_); clear CA; rintro e w1 ⟨rfl, hb⟩; have HB1 : BelC w w1 := ⟨hb⟩; clear hb)
      | (go_at_call 13; (refine (CB.out w1 (hW := HB1)).mono ?_); rintro e w2 ⟨rfl, hb⟩; have HB2 : BelC w w2 := bs hb; clear hb))
    go_ret2; exact ⟨rfl, bw⟩
theorem heap_new (w : World) (o : Obj) : (w.alloc o).heap[w.heap.size]? = some o := by
  show (w.heap.push o)[w.heap.size]? = some o
  simp
theorem sound_le {l : List Rg} (h : Sound l) : ∀ r ∈ l, r.f0 ≤ r.f1 := fun r hr => (h.1 r hr).2.2
theorem pieces_two {g : Nat} {A0 A1 : Option Addr} {c0 c1 : Nat} {a b : List Rg} {W : World} (h : W.heap[g]? = some (.cells #[.slice A0 a.length c0, .slice A1 b.length c1] 24 (0, 0)))
    (hr0 : Kd.C k41 W A0 a.length a) (hc0 : a.length ≤ c0) (hr1 : Kd.C k41 W A1 b.length b) (hc1 : b.length ≤ c1) (hl : a.length + b.length ≤ 16777216) (ha : Sound a) (hb : Sound b) :
    Calls Tryz.prog 38 #[.slice (some ⟨g, 0, none⟩) 2 2] W fun e w' => ∃ (A : Option Addr) (c : Nat) (C : List Int), e = .returned (.slice A (pcs C).length c) ∧ (pcs C).length ≤ c ∧ Kd.C k63 w' A (pcs C).length ((pcs C).map toP) ∧ Cuts C ∧ (∀ r ∈ a, r.f0 ∈ C ∧ r.f1 + 1 ∈ C) ∧ (∀ r ∈ b, r.f0 ∈ C ∧ r.f1 + 1 ∈ C) ∧ (pcs C).length ≤ 50331648 ∧ Below W.heap.size W w' := by
  refine (pieces_run (some ⟨g, 0, none⟩) 2 [a, b] W (by simp) (by simp [totL]; omega) (fun l hl => ?_) (two_C h hr0 hc0 hr1 hc1) (Nat.le_refl 2)).mono ?_
  · simp only [List.mem_cons, List.not_mem_nil, or_false] at hl
    rcases hl with rfl | rfl
    (· exact ha.r32); (· exact hb.r32)
  · rintro e w' ⟨v, C, rfl, ho, hs, hm, hln, hB⟩; obtain ⟨A, c, rfl, hc, hC⟩ := Kd.R_reads ho; rw [List.length_map] at *; exact ⟨A, c, C, rfl, hc, hC, cuts_of hs hm, ends_in hm (by simp), ends_in hm (by simp), Nat.le_trans (pcs_len C) hln, hB⟩
theorem piece_at {W : World} {A : Option Addr} {n : Nat} {ps : List Rg} (h : Kd.C k63 W A n (ps.map toP)) {i : Nat} {p : Rg} (hp : ps[i]? = some p) (hn : n = ps.length) : ∃ ad, A = some ad ∧ W.cell? (ad.add (i * 2)) = some (.int .i64 p.f0) ∧ W.cell? ⟨(ad.add (i * 2)).block, (ad.add (i * 2)).off + 1, none⟩ = some (.int .i64 p.f1) := by
  have hi := (List.getElem?_eq_some_iff.1 hp).1; obtain ⟨ad, e, h0, h1⟩ := at_T63 h (i : Int) (Int.natCast_nonneg i) (by omega)
  have e2 : rd_T63 (ps.map toP) (i : Int) = toP p := by unfold rd_T63; rw [Int.toNat_natCast, List.getD_eq_getElem?_getD, List.getElem?_map, hp]; rfl
  rw [Int.toNat_natCast, e2] at h0 h1; exact ⟨ad, e, h0, h1⟩
theorem bool_at {W : World} {A : Option Addr} {n : Nat} {ps : List Rg} {g : Rg → Bool} (h : Kd.C Kd.bool W A n (ps.map g)) {i : Nat} {p : Rg} (hp : ps[i]? = some p) (hn : n = ps.length) : ∃ ad, A = some ad ∧ W.cell? (ad.add i) = some (.bool (g p)) := by
  have hi := (List.getElem?_eq_some_iff.1 hp).1; obtain ⟨ad, e, h0⟩ := Kd.at_bool h (i : Int) (Int.natCast_nonneg i) (by omega)
  have e2 : rdOf false (ps.map g) (i : Int) = g p := by unfold rdOf; rw [Int.toNat_natCast, List.getD_eq_getElem?_getD, List.getElem?_map, hp]; rfl
  rw [Int.toNat_natCast, e2] at h0; exact ⟨ad, e, h0⟩
theorem below_al {w W : World} {o : Obj} (h : Below (w.alloc o).heap.size (w.alloc o) W) : BelC w W := bs h
set_option maxHeartbeats 8000000 in
set_option maxRecDepth 100000 in
theorem rule_yes (kd : Int) (hkd : kd = 1 ∨ kd = 2 ∨ kd = 3 ∨ kd = 4) (A0 : Option Addr) (c0 : Nat) (a : List Rg) (A1 : Option Addr) (c1 : Nat) (b : List Rg) (w : World) (hl0 : a.length ≤ 8388608) (hl1 : b.length ≤ 8388608)
    (hr0 : Kd.C k41 w A0 a.length a) (hc0 : a.length ≤ c0) (hr1 : Kd.C k41 w A1 b.length b) (hc1 : b.length ≤ c1) (ha : Sound a) (hb : Sound b) :
    Calls Tryz.prog 47 #[.int .i64 kd, .slice A0 a.length c0, .slice A1 b.length c1] w fun e w' => ∃ (v : Value) (R : List Rg), e = .returned (.tuple #[v, .int .i64 0]) ∧ Kd.R k41 41 w' w.heap.size (fun _ => True) v R ∧ Sound R ∧ (∀ u, mem R u = (isU u && tk kd (mem a u) (mem b u))) ∧ Below w.heap.size w w' := by
  have HR0 := Aside0.mk hr0; have HR1 := Aside0.mk hr1; have HL := Aside0.mk (And.intro hl0 hl1); have HC := Aside0.mk (And.intro hc0 hc1); have HA := Aside0.mk ha; have HBs := Aside0.mk hb; have HKD := Aside0.mk hkd; have ca := fun W [hW : BelC w W] => refCheck_run A0 c0 a W (by omega) ha.r32 (cl hr0 : Kd.C k41 W A0 a.length a); have cb := fun W [hW : BelC w W] => refCheck_run A1 c1 b W (by omega) hb.r32 (cl hr1 : Kd.C k41 W A1 b.length b); rw [if_pos ha] at ca; rw [if_pos hb] at cb; have CA := Aside0.mk ca; have CB := Aside0.mk cb; clear hr0 hr1 hl0 hl1 ha hb hc0 hc1 ca cb hkd; go_enter Tryz.func47, Tryz.ntmps47
  go_wp2_with (first
    | (go_at_call 13; (refine (CA.out w (hW := bc0)).mono ?_); clear CA; rintro e w1 ⟨rfl, hb⟩; have HB1 : BelC w w1 := ⟨hb⟩; clear hb)
    | (go_at_call 13; (refine (CB.out w1 (hW := HB1)).mono ?_); clear CB; rintro e w2 ⟨rfl, hb⟩; have HB2 : BelC w w2 := bs hb; clear hb)
    | (go_at_call 38; (with_reducible refine (pieces_two (heap_new w2 _) (cl HR0.out) HC.out.1 (cl HR1.out) HC.out.2 (by have := HL.out; omega) HA.out HBs.out).mono ?_); rintro e w3 ⟨A9, c9, C, rfl, hc9, hC9, hcu, hea, heb, hln, hb⟩; have HB23 : BelC w2 w3 := below_al hb; have HB3 : BelC w w3 := bs HB23.out; have H9 := Aside0.mk (And.intro hc9 hC9); have HCU := Aside0.mk hcu; have HEN := Aside0.mk (And.intro hea heb); have HLN := Aside0.mk hln; clear hb hcu hea heb hln hc9 hC9)
    | (go_at_call 39; (with_reducible refine (inside_run A0 c0 a A9 c9 (pcs C) w3 (by have := HL.out; omega) (by have := HLN.out; omega) HA.out.r32 (sound_le HA.out) (pcs_f0 HCU.out.asc) (cl HR0.out) HC.out.1 H9.out.2 H9.out.1).mono ?_); rintro e w4 ⟨v4, rfl, h4, hb⟩; have HB34 : BelC w3 w4 := ⟨hb⟩; have HB4 : BelC w w4 := bs hb; obtain ⟨A4, c4, rfl, hc4, hC4⟩ := Kd.R_reads h4; rw [List.length_map] at *; have H4 := Aside0.mk hC4; clear hb hc4 hC4 h4)
    | (go_at_call 39; (with_reducible refine (inside_run A1 c1 b A9 c9 (pcs C) w4 (by have := HL.out; omega) (by have := HLN.out; omega) HBs.out.r32 (sound_le HBs.out) (pcs_f0 HCU.out.asc) (cl HR1.out) HC.out.2 (cl H9.out.2) H9.out.1).mono ?_); rintro e w5 ⟨v5, rfl, h5, hb⟩; have HB45 : BelC w4 w5 := ⟨hb⟩; have HB5 : BelC w w5 := bs hb; have HB35 : BelC w3 w5 := bs hb; obtain ⟨A5, c5, rfl, hc5, hC5⟩ := Kd.R_reads h5; rw [List.length_map] at *; have H5 := Aside0.mk hC5; clear hb hc5 hC5 h5)
    )
  go_loopw [8, 12] (fun v8 v12 wr => ∃ i : Nat, v12 = .int .i64 (i : Int) ∧ i ≤ (pcs C).length ∧ Aside0 (Kd.R k41 41 wr w5.heap.size (fun _ => True) v8 (selN (fun p => tk kd (mem a p.f0) (mem b p.f0)) C i)) ∧ BelC w5 wr) (fun _ v12 _ => (pcs C).length - (intOf v12).toNat)
  case atStart => exact ⟨0, rfl, Nat.zero_le _, ⟨Kd.R_nil _ _ _ _ _⟩, inferInstance⟩
  case round =>
    obtain ⟨i, rfl, hi, HS, HBr⟩ := hrel; obtain ⟨w6, rfl⟩ : ∃ x, x = wr := ⟨_, rfl⟩; have hlb := HLN.out
    by_cases hlt : i < (pcs C).length
    · have d1 : decide (i < (pcs C).length) = true := decide_eq_true hlt
      obtain ⟨p, hp⟩ : ∃ x, (pcs C)[i]? = some x := ⟨_, List.getElem?_eq_getElem hlt⟩; have hok := pcs_ok HCU.out p (List.mem_of_getElem? hp); have hsel := sel_ok HCU.out (fun p => tk kd (mem a p.f0) (mem b p.f0)) i; have hsuc := sel_succ (f := fun p => tk kd (mem a p.f0) (mem b p.f0)) hp; have HB3r : BelC w3 w6 := ⟨below_step HB35.out HBr.out⟩; have HB4r : BelC w4 w6 := ⟨below_step HB45.out HBr.out⟩; have HBwr : BelC w w6 := ⟨below_step HB5.out HBr.out⟩; obtain ⟨a9, e9, hp0, hp1⟩ := piece_at (cl H9.out.2 : Kd.C k63 w6 A9 (pcs C).length ((pcs C).map toP)) hp rfl; obtain ⟨a4, e4, hx⟩ := bool_at (cl H4.out : Kd.C Kd.bool w6 A4 (pcs C).length ((pcs C).map fun p => mem a p.f0)) hp rfl; obtain ⟨a5, e5, hy⟩ := bool_at (cl H5.out : Kd.C Kd.bool w6 A5 (pcs C).length ((pcs C).map fun p => mem b p.f0)) hp rfl; subst e9 e4 e5; obtain ⟨S, hS⟩ : ∃ S, S = selN (fun p => tk kd (mem a p.f0) (mem b p.f0)) C i := ⟨_, rfl⟩; rw [← hS] at hsel hsuc HS; have HSO := Aside0.mk (show (∀ r ∈ S, R32 r) ∧ R32 p ∧ S.length ≤ 67108864 from ⟨hsel.1.r32, okR_r32 hok, by have := hsel.2.2; omega⟩); have HLT := Aside0.mk hlt; have HWW := Aside0.mk (w64 (x := (i : Int) + 1) (m := i + 1) (by omega) (by omega)); have pi0 := eq_true (Int.natCast_nonneg i); have qi0 := eq_true (show (i : Int) < ((pcs C).length : Int) by omega); obtain ⟨x, hxe⟩ : ∃ x, x = mem a p.f0 := ⟨_, rfl⟩; obtain ⟨y, hye⟩ : ∃ y, y = mem b p.f0 := ⟨_, rfl⟩; rw [← hxe] at hx; rw [← hye] at hy; have HSU := Aside0.mk (show selN (fun p => tk kd (mem a p.f0) (mem b p.f0)) C (i + 1) = if tk kd x y = true then joinR S p else S by rw [hxe, hye]; exact hsuc)
      have HXY := Aside0.mk (And.intro hxe hye); obtain ⟨A8, c8, e8⟩ := Kd.R_slice HS.out; have HS8 := Aside0.mk (HS.out); clear hS hsel hsuc hlt hlb hi hok hp hxe hye HS; subst e8
      rcases HKD.out with hk | hk | hk | hk <;> cases x <;> cases y
      all_goals
        subst hk
        go_wp2_with (go_at_call 40; (with_reducible refine (join_run w5 _ _ S p (rl HS8.out) HSO.out.1 HSO.out.2.1 HSO.out.2.2).mono ?_); rintro e w9 ⟨v9, rfl, h9, hb⟩; have HB9 : BelC w5 w9 := hb; have H9' := Aside0.mk h9; clear hb h9)
      all_goals
        refine ⟨⟨i + 1, by rw [HWW.out], HLT.out, ⟨?_⟩, inferInstance⟩, by rw [HWW.out]; exact measLo HLT.out (s := 1) (Nat.le_refl _) rfl⟩
        first
        | (rw [HSU.out.trans (if_pos (by decide))]; exact H9'.out)
        | (rw [HSU.out.trans (if_neg (by decide))]; exact rl HS8.out)
    · have d1 : decide (i < (pcs C).length) = false := decide_eq_false hlt
      have HI := Aside0.mk (show i = (pcs C).length by omega); clear hlt hlb hi
      go_wp2
      go_ret2; have h := HS.out; rw [HI.out] at h; exact ⟨_, _, by first | rfl | simp, Kd.R_lower h HB5.out.size, (sel_ok HCU.out _ _).1, fun u => sel_mem HCU.out HEN.out.1 HEN.out.2 kd u, below_step HB5.out HBr.out⟩
end Go.Proofs.YtoggmegpodmfnaaGreatDoor.Q
namespace Go.Proofs.YtoggmegpodmfnaaGreatDoor.Q
open Go.RowKit Go.Proofs.YtoggmegpodmfnaaGreatDoorW.PrintWords Go.Proofs.YtoggmegpodmfnaaGreatDoorW.PrintLast Go.Proofs.YtoggmegpodmfnaaGreatDoorW.PrintMore Go.Proofs.YtoggmegpodmfnaaGreatDoor.PS Go.Proofs.YtoggmegpodmfnaaGreatDoor.B
set_option linter.unusedVariables false
set_option linter.unusedSimpArgs false
theorem one_C {g : Nat} {A0 : Option Addr} {c0 : Nat} {a : List Rg} {W : World} (h : W.heap[g]? = some (.cells #[.slice A0 a.length c0] 24 (0, 0)))
    (hr0 : Kd.C k41 W A0 a.length a) (hc0 : a.length ≤ c0) : Kd.C (Kd.slice 41 k41) W (some ⟨g, 0, none⟩) [a].length [a] := by
  refine ⟨rfl, by simp, fun _ => ⟨⟨g, 0, none⟩, rfl, fun j p hp => ?_⟩⟩
  match j, hp with
  | 0, hp =>
    obtain rfl := Option.some.inj hp; refine ⟨[.slice A0 a.length c0], rfl, ⟨_, _, rfl, hc0, hr0⟩, fun i v hv => ?_⟩
    match i, hv with
    | 0, hv => obtain rfl := Option.some.inj hv; exact cell_of_row W g 0 _ _ _ h
  | j + 1, hp => simp at hp
theorem pieces_one {g : Nat} {A0 : Option Addr} {c0 : Nat} {a : List Rg} {W : World} (h : W.heap[g]? = some (.cells #[.slice A0 a.length c0] 24 (0, 0)))
    (hr0 : Kd.C k41 W A0 a.length a) (hc0 : a.length ≤ c0) (hl : a.length ≤ 16777216) (ha : ∀ r ∈ a, R32 r) :
    Calls Tryz.prog 38 #[.slice (some ⟨g, 0, none⟩) 1 1] W fun e w' => ∃ (A : Option Addr) (c : Nat) (C : List Int), e = .returned (.slice A (pcs C).length c) ∧ (pcs C).length ≤ c ∧ Kd.C k63 w' A (pcs C).length ((pcs C).map toP) ∧ Cuts C ∧ (∀ r ∈ a, r.f0 ∈ C ∧ r.f1 + 1 ∈ C) ∧ (pcs C).length ≤ 50331648 ∧ Below W.heap.size W w' := by
  refine (pieces_run (some ⟨g, 0, none⟩) 1 [a] W (by simp) (by simp [totL]; omega) (fun l hl => ?_) (one_C h hr0 hc0) (Nat.le_refl 1)).mono ?_
  · simp only [List.mem_cons, List.not_mem_nil, or_false] at hl
    rcases hl with rfl
    exact ha
  · rintro e w' ⟨v, C, rfl, ho, hs, hm, hln, hB⟩; obtain ⟨A, c, rfl, hc, hC⟩ := Kd.R_reads ho; rw [List.length_map] at *; exact ⟨A, c, C, rfl, hc, hC, cuts_of hs hm, ends_in hm (by simp), Nat.le_trans (pcs_len C) hln, hB⟩
theorem sel_mem1 {C : List Int} (hC : Cuts C) {a : List Rg} (ha : ∀ r ∈ a, r.f0 ∈ C ∧ r.f1 + 1 ∈ C) (u : Int) : mem (selN (fun p => mem a p.f0) C (pcs C).length) u = (isU u && mem a u) := by
  have h := sel_mem hC ha (b := []) (by simp) 1 u
  have e : (fun p : Rg => tk 1 (mem a p.f0) (mem [] p.f0)) = fun p => mem a p.f0 := by funext p; simp [tk, mem]
  have e2 : tk 1 (mem a u) (mem [] u) = mem a u := by simp [tk, mem]
  rw [e, e2] at h; exact h
set_option maxHeartbeats 8000000 in
set_option maxRecDepth 100000 in
theorem refMake_run (A0 : Option Addr) (c0 : Nat) (a : List Rg) (w : World) (hl : a.length ≤ 16777216) (hr : ∀ r ∈ a, R32 r) (hr0 : Kd.C k41 w A0 a.length a) (hc0 : a.length ≤ c0) :
    Calls Tryz.prog 9 #[.slice A0 a.length c0] w fun e w' => ∃ (v : Value) (R : List Rg) (n : Int), e = .returned (.tuple #[v, .int .i64 n]) ∧ Kd.R k41 41 w' w.heap.size (fun _ => True) v R ∧
      ((n = 2 ∧ R = [] ∧ ∃ r ∈ a, r.f1 < r.f0) ∨ (n = 0 ∧ (∀ r ∈ a, r.f0 ≤ r.f1) ∧ Sound R ∧ ∀ u, mem R u = (isU u && mem a u))) ∧ Below w.heap.size w w' := by
  have HR0 := Aside0.mk hr0; have HL := Aside0.mk hl; have HC := Aside0.mk hc0; have HR := Aside0.mk hr; clear hr0 hl hr hc0; go_enter Tryz.func9, Tryz.ntmps9
  go_wp2
  go_loopw [4] (fun v4 wr => ∃ i : Nat, v4 = .int .i64 (i : Int) ∧ i ≤ a.length ∧ Aside0 (∀ r ∈ a.take i, r.f0 ≤ r.f1) ∧ BelC w wr) (fun v4 _ => a.length - (intOf v4).toNat)
  case atStart => exact ⟨0, rfl, Nat.zero_le _, ⟨by simp⟩, inferInstance⟩
  case round =>
    obtain ⟨i, rfl, hi, HI, HB⟩ := hrel; obtain ⟨w2, rfl⟩ : ∃ x, x = wr := ⟨_, rfl⟩; have hlb := HL.out
    by_cases hlt : i < a.length
    · have d1 : decide (i < a.length) = true := decide_eq_true hlt
      obtain ⟨x, hx⟩ : ∃ x, a[i]? = some x := ⟨_, List.getElem?_eq_getElem hlt⟩; obtain ⟨a1, e1, h0, h1⟩ := at_T41 (cl HR0.out : Kd.C k41 w2 A0 a.length a) (i : Int) (Int.natCast_nonneg i) (by omega)
      have hrd : rd_T41 a (i : Int) = x := by unfold rd_T41; rw [Int.toNat_natCast, List.getD_eq_getElem?_getD, hx]; rfl
      rw [hrd, Int.toNat_natCast] at h0 h1; subst e1; have p1 := eq_true (Int.natCast_nonneg i); have q1 := eq_true (show (i : Int) < (a.length : Int) by omega); have HLT := Aside0.mk hlt; have HX := Aside0.mk hx; have HWW := Aside0.mk (w64 (x := (i : Int) + 1) (m := i + 1) (by omega) (by omega)); clear hrd hx hlt hlb hi
      by_cases hb : x.f1 < x.f0
      · have e1 : decide (x.f1 < x.f0) = true := decide_eq_true hb
        have HN := Aside0.mk (show ∃ r ∈ a, r.f1 < r.f0 from ⟨x, List.mem_of_getElem? HX.out, hb⟩); clear hb
        go_wp2
        repeat (go_quiet (fail); try go_wp2)
        go_ret2; exact ⟨_, [], 2, by first | rfl | simp, Kd.R_nil _ _ _ _ _, .inl ⟨rfl, rfl, HN.out⟩, bw⟩
      · have e1 : decide (x.f1 < x.f0) = false := decide_eq_false hb
        have HN := Aside0.mk (show ∀ r ∈ a.take (i + 1), r.f0 ≤ r.f1 from fun r hr => by
          rw [List.take_add_one, HX.out] at hr
          rcases List.mem_append.1 hr with h | h
          · exact HI.out r h
          · obtain rfl : r = x := by simpa using h
            omega)
        clear hb
        go_wp2
        repeat (go_quiet (fail); try go_wp2)
        exact ⟨⟨i + 1, by rw [HWW.out], HLT.out, HN, inferInstance⟩, by rw [HWW.out]; exact measLo HLT.out (s := 1) (Nat.le_refl _) rfl⟩
    · have d1 : decide (i < a.length) = false := decide_eq_false hlt
      have HLE := Aside0.mk (show ∀ r ∈ a, r.f0 ≤ r.f1 from by
        have h := HI.out; rw [List.take_of_length_le (by omega)] at h
        exact h)
      clear hlt hlb hi HI
      go_wp2_with (first
        | (go_at_call 38; (with_reducible refine (pieces_one (heap_new w2 _) (cl HR0.out) HC.out HL.out HR.out).mono ?_); rintro e w3 ⟨A9, c9, C, rfl, hc9, hC9, hcu, hea, hln, hb⟩; have HB23 : BelC w2 w3 := below_al hb; have HB3 : BelC w w3 := bs HB23.out; have H9 := Aside0.mk (And.intro hc9 hC9); have HCU := Aside0.mk hcu; have HEN := Aside0.mk hea; have HLN := Aside0.mk hln; clear hb hcu hea hln hc9 hC9)
        | (go_at_call 39; (with_reducible refine (inside_run A0 c0 a A9 c9 (pcs C) w3 (by have := HL.out; omega) (by have := HLN.out; omega) HR.out HLE.out (pcs_f0 HCU.out.asc) (cl HR0.out) HC.out H9.out.2 H9.out.1).mono ?_); rintro e w4 ⟨v4, rfl, h4, hb⟩; have HB34 : BelC w3 w4 := ⟨hb⟩; have HB4 : BelC w w4 := bs hb; obtain ⟨A4, c4, rfl, hc4, hC4⟩ := Kd.R_reads h4; rw [List.length_map] at *; have H4 := Aside0.mk hC4; clear hb hc4 hC4 h4))
      go_loopw [5, 8] (fun v5 v8 wr => ∃ i : Nat, v8 = .int .i64 (i : Int) ∧ i ≤ (pcs C).length ∧ Aside0 (Kd.R k41 41 wr w4.heap.size (fun _ => True) v5 (selN (fun p => mem a p.f0) C i)) ∧ BelC w4 wr) (fun _ v8 _ => (pcs C).length - (intOf v8).toNat)
      case atStart => exact ⟨0, rfl, Nat.zero_le _, ⟨Kd.R_nil _ _ _ _ _⟩, inferInstance⟩
      case round =>
        obtain ⟨i, rfl, hi, HS, HBr⟩ := hrel; obtain ⟨w6, rfl⟩ : ∃ x, x = wr := ⟨_, rfl⟩; have hlb := HLN.out
        by_cases hlt : i < (pcs C).length
        · have d1 : decide (i < (pcs C).length) = true := decide_eq_true hlt
          obtain ⟨p, hp⟩ : ∃ x, (pcs C)[i]? = some x := ⟨_, List.getElem?_eq_getElem hlt⟩; have hok := pcs_ok HCU.out p (List.mem_of_getElem? hp); have hsel := sel_ok HCU.out (fun p => mem a p.f0) i; have hsuc := sel_succ (f := fun p => mem a p.f0) hp; have HB3r : BelC w3 w6 := ⟨below_step HB34.out HBr.out⟩; have HBwr : BelC w w6 := ⟨below_step HB4.out HBr.out⟩; obtain ⟨a9, e9, hp0, hp1⟩ := piece_at (cl H9.out.2 : Kd.C k63 w6 A9 (pcs C).length ((pcs C).map toP)) hp rfl; obtain ⟨a4, e4, hx⟩ := bool_at (cl H4.out : Kd.C Kd.bool w6 A4 (pcs C).length ((pcs C).map fun p => mem a p.f0)) hp rfl; subst e9 e4; obtain ⟨S, hS⟩ : ∃ S, S = selN (fun p => mem a p.f0) C i := ⟨_, rfl⟩; rw [← hS] at hsel hsuc HS; have HSO := Aside0.mk (show (∀ r ∈ S, R32 r) ∧ R32 p ∧ S.length ≤ 67108864 from ⟨hsel.1.r32, okR_r32 hok, by have := hsel.2.2; omega⟩); have HLT := Aside0.mk hlt; have HWW := Aside0.mk (w64 (x := (i : Int) + 1) (m := i + 1) (by omega) (by omega)); have pi0 := eq_true (Int.natCast_nonneg i); have qi0 := eq_true (show (i : Int) < ((pcs C).length : Int) by omega); obtain ⟨x, hxe⟩ : ∃ x, x = mem a p.f0 := ⟨_, rfl⟩; rw [← hxe] at hx; have HSU := Aside0.mk (show selN (fun p => mem a p.f0) C (i + 1) = if x = true then joinR S p else S by rw [hxe]; exact hsuc); obtain ⟨A8, c8, e8⟩ := Kd.R_slice HS.out; have HS8 := Aside0.mk (HS.out); clear hS hsel hsuc hlt hlb hi hok hp hxe HS; subst e8
          cases x
          all_goals
            go_wp2_with (go_at_call 40; (with_reducible refine (join_run w4 _ _ S p (rl HS8.out) HSO.out.1 HSO.out.2.1 HSO.out.2.2).mono ?_); rintro e w9 ⟨v9, rfl, h9, hb⟩; have HB9 : BelC w4 w9 := hb; have H9' := Aside0.mk h9; clear hb h9)
            refine ⟨⟨i + 1, by rw [HWW.out], HLT.out, ⟨?_⟩, inferInstance⟩, by rw [HWW.out]; exact measLo HLT.out (s := 1) (Nat.le_refl _) rfl⟩
            first
            | (rw [HSU.out.trans (if_pos (by decide))]; exact H9'.out)
            | (rw [HSU.out.trans (if_neg (by decide))]; exact rl HS8.out)
        · have d1 : decide (i < (pcs C).length) = false := decide_eq_false hlt
          have HI := Aside0.mk (show i = (pcs C).length by omega); clear hlt hlb hi
          go_wp2
          go_ret2; have h := HS.out; rw [HI.out] at h; exact ⟨_, _, 0, by first | rfl | simp, Kd.R_lower h HB4.out.size, .inr ⟨rfl, HLE.out, (sel_ok HCU.out _ _).1, fun u => sel_mem1 HCU.out HEN.out u⟩, below_step HB4.out HBr.out⟩
end Go.Proofs.YtoggmegpodmfnaaGreatDoor.Q
namespace Go.Proofs.YtoggmegpodmfnaaGreatDoor.Q
open Go.RowKit Go.Proofs.YtoggmegpodmfnaaGreatDoorW.PrintWords Go.Proofs.YtoggmegpodmfnaaGreatDoorW.PrintLast Go.Proofs.YtoggmegpodmfnaaGreatDoorW.PrintMore Go.Proofs.YtoggmegpodmfnaaGreatDoor.PS Go.Proofs.YtoggmegpodmfnaaGreatDoor.B
set_option linter.unusedVariables false
set_option linter.unusedSimpArgs false
structure CutI (κ : Nat → Int) (m K i : Nat) (N G : List Int) (n : Int) : Prop where
  nl : N.length = K
  gl : G.length = m
  n0 : 0 ≤ n
  ni : n ≤ i
  tab : ∀ k : Nat, k < K → (rd N k = 0 ∧ ∀ j, j < i → κ j ≠ k) ∨ (∃ j, j < i ∧ κ j = k ∧ rd N k = rd G j + 1)
  num : Num (fun a b => κ a = κ b) i (fun j => rd G j) n
theorem rd_set {l : List Int} {i : Nat} {v : Int} (j : Nat) (h : i < l.length) : rd (l.set i v) (j : Int) = if j = i then v else rd l (j : Int) := by
  unfold rd; rw [Int.toNat_natCast, List.getD_eq_getElem?_getD, List.getD_eq_getElem?_getD, List.getElem?_set]
  by_cases e : j = i
  (· subst e; simp [h]); (· rw [if_neg (fun h => e h.symm), if_neg e])
theorem cutI_zero (κ : Nat → Int) (m K : Nat) : CutI κ m K 0 (List.replicate K 0) (List.replicate m 0) 0 :=
  ⟨by simp, by simp, Int.le_refl _, Int.le_refl _, fun k hk => .inl ⟨by unfold rd; simp [hk], fun j hj => by omega⟩, num_zero _ _⟩
theorem cutI_new {κ : Nat → Int} {m K i k : Nat} {N G : List Int} {n : Int} (h : CutI κ m K i N G n) (hi : i < m) (hk : k < K) (e : κ i = k) (h0 : rd N k = 0) : CutI κ m K (i + 1) (N.set k (n + 1)) (G.set i n) (n + 1) := by
  have hk' : k < N.length := by rw [h.nl]; exact hk
  have hi' : i < G.length := by rw [h.gl]; exact hi
  have hn : ∀ j, j < i → κ j ≠ k := by
    rcases h.tab k hk with ⟨_, h2⟩ | ⟨j, hj, _, h3⟩
    (· exact h2); (· have := h.num.lt j hj; omega)
  refine ⟨by simp [h.nl], by simp [h.gl], by have := h.n0; omega, by have := h.ni; omega, fun k' hk2 => ?_, ?_⟩
  · rw [rd_set k' hk']
    by_cases e2 : k' = k
    · subst e2; rw [if_pos rfl]; exact .inr ⟨i, by omega, e, by rw [rd_set i hi', if_pos rfl]⟩
    · rw [if_neg e2]
      rcases h.tab k' hk2 with ⟨h1, h2⟩ | ⟨j, hj, h2, h3⟩
      · refine .inl ⟨h1, fun j hj => ?_⟩
        by_cases e3 : j = i
        (· subst e3; omega); (· exact h2 j (by omega))
      · exact .inr ⟨j, by omega, h2, by rw [rd_set j hi', if_neg (by omega)]; exact h3⟩
  · refine num_new (num_congr h.num (fun j hj => by rw [rd_set j hi', if_neg (by omega)])) h.n0 (fun j hj => by rw [e]; exact hn j hj) (by rw [rd_set i hi', if_pos rfl])
theorem cutI_old {κ : Nat → Int} {m K i k : Nat} {N G : List Int} {n : Int} (h : CutI κ m K i N G n) (hi : i < m) (hk : k < K) (e : κ i = k) (h0 : rd N k ≠ 0) : CutI κ m K (i + 1) N (G.set i (rd N k - 1)) n := by
  have hi' : i < G.length := by rw [h.gl]; exact hi
  obtain ⟨q, hq, hqk, hqv⟩ : ∃ j, j < i ∧ κ j = k ∧ rd N k = rd G j + 1 := by
    rcases h.tab k hk with ⟨h1, _⟩ | h1
    (· exact absurd h1 h0); (· exact h1)
  refine ⟨h.nl, by simp [h.gl], h.n0, by have := h.ni; omega, fun k' hk2 => ?_, ?_⟩
  · by_cases e2 : k' = k
    · subst e2; exact .inr ⟨q, by omega, hqk, by rw [rd_set q hi', if_neg (by omega)]; exact hqv⟩
    · rcases h.tab k' hk2 with ⟨h1, h2⟩ | ⟨j, hj, h2, h3⟩
      · refine .inl ⟨h1, fun j hj => ?_⟩
        by_cases e3 : j = i
        (· subst e3; omega); (· exact h2 j (by omega))
      · exact .inr ⟨j, by omega, h2, by rw [rd_set j hi', if_neg (by omega)]; exact h3⟩
  · refine num_old (num_congr h.num (fun j hj => by rw [rd_set j hi', if_neg (by omega)])) hq (by rw [hqk, e]) ?_; rw [rd_set i hi', if_pos rfl, rd_set q hi', if_neg (by omega)]; omega
theorem cutI_val {κ : Nat → Int} {m K i : Nat} {N G : List Int} {n : Int} (h : CutI κ m K i N G n) {k : Nat} (hk : k < K) : 0 ≤ rd N k ∧ rd N k ≤ n := by
  rcases h.tab k hk with ⟨h1, _⟩ | ⟨j, hj, _, h3⟩
  (· have := h.n0; omega); (· have := h.num.lt j hj; omega)
theorem add_blk (g k : Nat) : (⟨g, 0, none⟩ : Addr).add k = ⟨g, k, none⟩ := by by_cases h : k = 0 <;> simp [Addr.add, h]
theorem int_at {e base n cap g : Nat} {W : World} {ok : Nat → Prop} {xs : List Int} (h : Kd.R (Kd.int .i64) e W base ok (.slice (some ⟨g, 0, none⟩) n cap) xs) {k : Nat} (hk : k < xs.length) : W.cell? ⟨g, k, none⟩ = some (.int .i64 (rd xs (k : Int))) := by
  obtain ⟨a8, e8', hx8⟩ := Kd.at_int (Kd.R_reads' h).2.2 (k : Int) (Int.natCast_nonneg k) (by omega)
  cases e8'
  rw [Int.toNat_natCast, add_blk] at hx8; exact hx8
theorem elem_int {e base n cap g : Nat} {W : World} {ok : Nat → Prop} {xs : List Int} (h : Kd.R (Kd.int .i64) e W base ok (.slice (some ⟨g, 0, none⟩) n cap) xs) {k : Nat} (hk : k < n) : ∃ c : List Value, c.length = 1 ∧ ∀ j u, c[j]? = some u → W.cell? ⟨g, (k : Int).toNat * 1 + j, none⟩ = some u := by
  obtain ⟨c, hcl, _, hcc, _⟩ := Kd.R_elem h 0 (k : Int) (Int.natCast_nonneg k) (by omega); exact ⟨c, hcl, hcc⟩
theorem size3_ : (Tryz.prog.info? 3).map (·.size) = some 1 := by kernel_rfl
theorem int_at_set {e base n cap g : Nat} {W : World} {ok : Nat → Prop} {xs : List Int} {k : Nat} {v : Int} (h : Kd.R (Kd.int .i64) e W base ok (.slice (some ⟨g, 0, none⟩) n cap) (xs.set (k : Int).toNat v)) (hk : k < xs.length) : W.cell? ⟨g, k, none⟩ = some (.int .i64 v) := by
  have h2 := int_at h (k := k) (by rw [List.length_set]; exact hk); rw [Int.toNat_natCast, rd_set k hk, if_pos rfl] at h2; exact h2
def kap (F : List Int) (B : List Bool) (j : Nat) : Int := 2 * rd F j + (if rdOf false B j = true then 1 else 0)
set_option maxHeartbeats 8000000 in
set_option maxRecDepth 100000 in
theorem cut_run (m cnt : Nat) (A0 : Option Addr) (c0 : Nat) (F : List Int) (A1 : Option Addr) (c1 : Nat) (B : List Bool) (w : World) (hm : m ≤ 67108864) (hcnt : cnt ≤ 67108864) (hF : ∀ j : Nat, j < m → 0 ≤ rd F j ∧ rd F j < cnt)
    (hr0 : Kd.C (Kd.int .i64) w A0 m F) (hr1 : Kd.C Kd.bool w A1 m B) :
    Calls Tryz.prog 49 #[.slice A0 m c0, .int .i64 (cnt : Int), .slice A1 m c1] w fun e w' => ∃ (v : Value) (G : List Int) (n : Int), e = .returned (.tuple #[v, .int .i64 n]) ∧ Kd.R (Kd.int .i64) 3 w' w.heap.size (fun _ => True) v G ∧ G.length = m ∧
      0 ≤ n ∧ n ≤ m ∧ Num (fun a b => kap F B a = kap F B b) m (fun j => rd G j) n ∧ Below w.heap.size w w' := by
  obtain ⟨κ, hκ⟩ : ∃ κ, κ = kap F B := ⟨_, rfl⟩; rw [← hκ]; have HK := Aside0.mk hκ; have HR0 := Aside0.mk hr0; have HR1 := Aside0.mk hr1; have HL := Aside0.mk (And.intro hm hcnt); have HF := Aside0.mk hF; obtain ⟨K, hK⟩ : ∃ K : Nat, K = 2 * cnt := ⟨_, rfl⟩; have HKK := Aside0.mk hK; have hkw : IntKind.i64.wrap (2 * (cnt : Int)) = (K : Int) := (i64_w _).trans (w64 (by omega) (by omega)); clear hr0 hr1 hm hcnt hF hκ hK; go_enter Tryz.func49, Tryz.ntmps49
  go_wp2_with (first
    | ((with_reducible refine gate_dst (N := 15) rfl ?_); refine Kd.R_make (Kd.int .i64) (w0 := w) w.heap.size 3 rfl (N := 15) rfl 83 _ _ rfl (K : Int) rfl rfl Tryz.underlying83 (.int .i64 0) 8 info3_ rfl (by decide) (by omega) 0 (ok := fun _ => True) (okp := fun _ => False) rfl (fun _ hk => hk.elim) trivial (Int.natCast_nonneg _) (by rw [Int.toNat_natCast]; have := HL.out; have := HKK.out; omega) bw bz ?_; intro v8 w3 ho hb hg hnew; have HR8 := Aside0.mk ho; have HB3 : BelC w w3 := ⟨hb⟩; clear ho hb hg hnew)
    | ((with_reducible refine gate_dst (N := 18) rfl ?_); refine Kd.R_make (Kd.int .i64) (w0 := w) w.heap.size 3 rfl (N := 18) rfl 83 _ _ rfl (m : Int) rfl rfl Tryz.underlying83 (.int .i64 0) 8 info3_ rfl (by decide) (by omega) 0 (ok := fun k => True ∧ some k ≠ v8.ownBlock) (okp := fun _ => False) rfl (fun _ hk => hk.elim) ⟨trivial, fun e => absurd (Kd.R_lt HR8.out _ e.symm) (Nat.lt_irrefl _)⟩ (Int.natCast_nonneg _) (by rw [Int.toNat_natCast]; have := HL.out; omega) bw bz ?_; intro v10 w4 ho hb hg hnew; have HR10 := Aside0.mk ho; have HB4 : BelC w w4 := ⟨hb⟩; have HG4 := Aside0.mk (And.intro hg hnew); clear ho hb hg hnew))
  have HA8 := Aside0.mk (Kd.R_after (v := .slice none 0 0) (Kd.R_mono HR8.out (fun k hk => ⟨hk, by simp [Value.ownBlock]⟩)) HG4.out.1 (.inr HG4.out.2) : Kd.R (Kd.int .i64) 3 w4 w.heap.size (fun k => True ∧ some k ≠ v10.ownBlock) v8 _)
  go_loopw [9, 11] (fun v9 v11 wr => ∃ (i : Nat) (n : Int) (N G : List Int), v9 = .int .i64 n ∧ v11 = .int .i64 (i : Int) ∧ Aside0 (i ≤ m ∧ CutI κ m K i N G n) ∧ Aside0 (Kd.R (Kd.int .i64) 3 wr w.heap.size (fun k => True ∧ some k ≠ v10.ownBlock) v8 N) ∧ Aside0 (Kd.R (Kd.int .i64) 3 wr w.heap.size (fun k => True ∧ some k ≠ v8.ownBlock) v10 G) ∧ BelC w wr) (fun _ v11 _ => m - (intOf v11).toNat)
  case atStart => exact ⟨0, 0, _, _, rfl, rfl, ⟨Nat.zero_le _, cutI_zero κ m K⟩, ⟨by have h := HA8.out; rw [Int.toNat_natCast] at h; exact h⟩, ⟨by have h := HR10.out; rw [Int.toNat_natCast] at h; exact h⟩, inferInstance⟩
  case round =>
    obtain ⟨i, n, N, G, rfl, rfl, HI, H8, H10, HB⟩ := hrel; obtain ⟨w5, rfl⟩ : ∃ x, x = wr := ⟨_, rfl⟩; have hlb := HL.out
    by_cases hlt : i < m
    · have d1 : decide (i < m) = true := decide_eq_true hlt
      have hci := HI.out.2; have hFi := HF.out i hlt; obtain ⟨a0, e0, hf⟩ := Kd.at_int (cl HR0.out : Kd.C (Kd.int .i64) w5 A0 m F) (i : Int) (Int.natCast_nonneg i) (by omega); obtain ⟨a1, e1, hb⟩ := Kd.at_bool (cl HR1.out : Kd.C Kd.bool w5 A1 m B) (i : Int) (Int.natCast_nonneg i) (by omega); rw [Int.toNat_natCast] at hf hb; subst e0 e1; obtain ⟨f, hfe⟩ : ∃ f : Nat, rd F i = (f : Int) := ⟨(rd F i).toNat, by omega⟩; obtain ⟨b, hbe⟩ : ∃ b, rdOf false B (i : Int) = b := ⟨_, rfl⟩; rw [hfe] at hf hFi; rw [hbe] at hb; obtain ⟨k, hk⟩ : ∃ k : Nat, k = 2 * f + (if b = true then 1 else 0) := ⟨_, rfl⟩; have hKb := HKK.out
      have hkK : k < K := by rw [hk, HKK.out]; split <;> omega
      have hkap : κ i = (k : Int) := by rw [HK.out, hk]; unfold kap; rw [hfe, hbe]; split <;> omega
      obtain ⟨k0, hk0⟩ : ∃ k0 : Nat, k0 = 2 * f := ⟨_, rfl⟩; have hw1 : IntKind.i64.wrap (2 * (f : Int)) = (k0 : Int) := (i64_w _).trans (w64 (by omega) (by omega)); have hw2 : b = true → IntKind.i64.wrap ((k0 : Int) + 1) = (k : Int) := fun h => (i64_w _).trans (w64 (by rw [hk, h]; simp; omega) (by omega))
      have hw3 : b = false → k = k0 := fun h => by rw [hk, h]; simp; omega
      obtain ⟨g8, q8, e8, _, _⟩ := Kd.R_form H8.out (by rw [hci.nl]; omega); obtain ⟨g10, q10, e10, _, _⟩ := Kd.R_form H10.out (by rw [hci.gl]; omega); rw [hci.nl] at e8; rw [hci.gl] at e10; have hv := cutI_val hci hkK; obtain ⟨x, hx⟩ : ∃ x, x = rd N k := ⟨_, rfl⟩; have HX := Aside0.mk hx; have hni := hci.ni; have hn0 := hci.n0; obtain ⟨n1, hn1e⟩ : ∃ n1, n1 = n + 1 := ⟨_, rfl⟩; obtain ⟨x2, hx2e⟩ : ∃ x2, x2 = x - 1 := ⟨_, rfl⟩; have hn1 : IntKind.i64.wrap (n + 1) = n1 := (i64_w _).trans ((w64i (by omega)).trans hn1e.symm); have hn2 : IntKind.i64.wrap (n1 - 1) = n := (i64_w _).trans ((w64i (by omega)).trans (by omega)); have hx2 : IntKind.i64.wrap (x - 1) = x2 := (i64_w _).trans ((w64i (by omega)).trans hx2e.symm); have HNX := Aside0.mk (And.intro hn1e hx2e); have h8 := H8.out; have h10 := H10.out; rw [e8] at h8 h10; rw [e10] at h8 h10; have hx8 := int_at h8 (k := k) (by rw [hci.nl]; exact hkK); rw [← hx] at hx8; have H8' := Aside0.mk h8; have H10' := Aside0.mk h10; have HCI := Aside0.mk hci; have HKA := Aside0.mk (And.intro hkK hkap); have HLT := Aside0.mk hlt; have HWW := Aside0.mk (w64 (x := (i : Int) + 1) (m := i + 1) (by omega) (by omega)); have pi0 := eq_true (Int.natCast_nonneg i); have qi0 := eq_true (show (i : Int) < (m : Int) by omega); have pk0 := eq_true (Int.natCast_nonneg k); have qk0 := eq_true (show (k : Int) < (K : Int) by omega); clear hKb hlt hlb hci hFi hfe hbe hk hkK hkap hk0 hv hx hni hn0 h8 h10 HI H8 H10 hn1e hx2e; subst e8 e10
      cases b
      case' false => obtain rfl := hw3 rfl; clear hw2 hw3
      case' true => have hw2 := hw2 rfl; clear hw3
      all_goals
        by_cases hx0 : x = 0
        · have c1 : (x == 0) = true := by simp [hx0]
          have HX0 := Aside0.mk hx0; have HE8 := Aside0.mk (elem_int H8'.out HKA.out.1); clear hx0 hx2; obtain ⟨cc, hcl⟩ := HE8.out; have HCL := Aside0.mk hcl; clear hcl HE8
          go_wp2_with (first | ((with_reducible refine gate_store (p := 46) rfl ?_); refine Kd.R_store (Kd.int .i64) (w0 := w) w.heap.size rfl rfl 3 (.tmp 46) (.tmp 45) rfl 3 (k : Int) 0 N n1 (.int .i64 n1) [.int .i64 n1] cc (fun k => True ∧ some k ≠ (.slice (some ⟨g10, 0, none⟩) m q10 : Value).ownBlock) (fun _ => False) (o' := k) rfl (by rw [Int.toNat_natCast]; exact (Nat.mul_one k).symm) rfl rfl size3_ (by simp [Value.oneCell']) H8'.out (Int.natCast_nonneg k) (by have := HKA.out.1; omega) HCL.out.1 HCL.out.2 (Nat.le_refl 1) (by have h := HCL.out.1; rw [List.take_zero, List.drop_eq_nil_of_le (by show cc.length ≤ 1; exact Nat.le_of_eq h)]; rfl) (fun _ hk => hk.elim) bw ?_; intro w6 ho hb hg; have HB6 : BelC w w6 := ⟨hb⟩; have H8n := Aside0.mk ho; have H10n := Aside0.mk (Kd.R_after (v := .slice (some ⟨g8, 0, none⟩) K q8) H10'.out hg (.inl rfl)); have hx9 := int_at_set ho (by rw [HCI.out.nl]; exact HKA.out.1); have HE10 := Aside0.mk (elem_int H10n.out HLT.out); obtain ⟨cd, hcd⟩ := HE10.out; have HCD := Aside0.mk hcd; clear ho hb hg hx8 hcd HE10) | ((with_reducible refine gate_store (p := 54) rfl ?_); refine Kd.R_store (Kd.int .i64) (w0 := w) w.heap.size rfl rfl 3 (.tmp 54) (.tmp 53) rfl 3 (i : Int) 0 G n (.int .i64 n) [.int .i64 n] cd (fun k => True ∧ some k ≠ (.slice (some ⟨g8, 0, none⟩) K q8 : Value).ownBlock) (fun _ => False) (o' := i) rfl (by rw [Int.toNat_natCast]; exact (Nat.mul_one i).symm) rfl rfl size3_ (by simp [Value.oneCell']) H10n.out (Int.natCast_nonneg i) (by have := HLT.out; omega) HCD.out.1 HCD.out.2 (Nat.le_refl 1) (by have h := HCD.out.1; rw [List.take_zero, List.drop_eq_nil_of_le (by show cd.length ≤ 1; exact Nat.le_of_eq h)]; rfl) (fun _ hk => hk.elim) bw ?_; intro w7 ho hb hg; have HB7 : BelC w w7 := ⟨hb⟩; have H10f := Aside0.mk ho; have H8f := Aside0.mk (Kd.R_after (v := .slice (some ⟨g10, 0, none⟩) m q10) H8n.out hg (.inl rfl)); clear ho hb hg))
          repeat (go_quiet (fail); try go_wp2_with (first | ((with_reducible refine gate_store (p := 46) rfl ?_); refine Kd.R_store (Kd.int .i64) (w0 := w) w.heap.size rfl rfl 3 (.tmp 46) (.tmp 45) rfl 3 (k : Int) 0 N n1 (.int .i64 n1) [.int .i64 n1] cc (fun k => True ∧ some k ≠ (.slice (some ⟨g10, 0, none⟩) m q10 : Value).ownBlock) (fun _ => False) (o' := k) rfl (by rw [Int.toNat_natCast]; exact (Nat.mul_one k).symm) rfl rfl size3_ (by simp [Value.oneCell']) H8'.out (Int.natCast_nonneg k) (by have := HKA.out.1; omega) HCL.out.1 HCL.out.2 (Nat.le_refl 1) (by have h := HCL.out.1; rw [List.take_zero, List.drop_eq_nil_of_le (by show cc.length ≤ 1; exact Nat.le_of_eq h)]; rfl) (fun _ hk => hk.elim) bw ?_; intro w6 ho hb hg; have HB6 : BelC w w6 := ⟨hb⟩; have H8n := Aside0.mk ho; have H10n := Aside0.mk (Kd.R_after (v := .slice (some ⟨g8, 0, none⟩) K q8) H10'.out hg (.inl rfl)); have hx9 := int_at_set ho (by rw [HCI.out.nl]; exact HKA.out.1); have HE10 := Aside0.mk (elem_int H10n.out HLT.out); obtain ⟨cd, hcd⟩ := HE10.out; have HCD := Aside0.mk hcd; clear ho hb hg hx8 hcd HE10) | ((with_reducible refine gate_store (p := 54) rfl ?_); refine Kd.R_store (Kd.int .i64) (w0 := w) w.heap.size rfl rfl 3 (.tmp 54) (.tmp 53) rfl 3 (i : Int) 0 G n (.int .i64 n) [.int .i64 n] cd (fun k => True ∧ some k ≠ (.slice (some ⟨g8, 0, none⟩) K q8 : Value).ownBlock) (fun _ => False) (o' := i) rfl (by rw [Int.toNat_natCast]; exact (Nat.mul_one i).symm) rfl rfl size3_ (by simp [Value.oneCell']) H10n.out (Int.natCast_nonneg i) (by have := HLT.out; omega) HCD.out.1 HCD.out.2 (Nat.le_refl 1) (by have h := HCD.out.1; rw [List.take_zero, List.drop_eq_nil_of_le (by show cd.length ≤ 1; exact Nat.le_of_eq h)]; rfl) (fun _ hk => hk.elim) bw ?_; intro w7 ho hb hg; have HB7 : BelC w w7 := ⟨hb⟩; have H10f := Aside0.mk ho; have H8f := Aside0.mk (Kd.R_after (v := .slice (some ⟨g10, 0, none⟩) m q10) H8n.out hg (.inl rfl)); clear ho hb hg)))
          refine ⟨⟨i + 1, n1, _, _, rfl, by rw [HWW.out], ⟨HLT.out, ?_⟩, H8f, H10f, inferInstance⟩, by rw [HWW.out]; exact measLo HLT.out (s := 1) (Nat.le_refl _) rfl⟩; have h := cutI_new HCI.out HLT.out HKA.out.1 HKA.out.2 (HX.out.symm.trans HX0.out); rw [Int.toNat_natCast, Int.toNat_natCast, HNX.out.1]; exact h
        · have c1 : (x == 0) = false := ne_beq hx0
          have HX0 := Aside0.mk hx0; have HE10 := Aside0.mk (elem_int H10'.out HLT.out); obtain ⟨cd, hcd⟩ := HE10.out; have HCD := Aside0.mk hcd; clear hx0 hn1 hn2 hcd HE10
          go_wp2_with ((with_reducible refine gate_store (p := 54) rfl ?_); refine Kd.R_store (Kd.int .i64) (w0 := w) w.heap.size rfl rfl 3 (.tmp 54) (.tmp 53) rfl 3 (i : Int) 0 G x2 (.int .i64 x2) [.int .i64 x2] cd (fun k => True ∧ some k ≠ (.slice (some ⟨g8, 0, none⟩) K q8 : Value).ownBlock) (fun _ => False) (o' := i) rfl (by rw [Int.toNat_natCast]; exact (Nat.mul_one i).symm) rfl rfl size3_ (by simp [Value.oneCell']) H10'.out (Int.natCast_nonneg i) (by have := HLT.out; omega) HCD.out.1 HCD.out.2 (Nat.le_refl 1) (by have h := HCD.out.1; rw [List.take_zero, List.drop_eq_nil_of_le (by show cd.length ≤ 1; exact Nat.le_of_eq h)]; rfl) (fun _ hk => hk.elim) bw ?_; intro w7 ho hb hg; have HB7 : BelC w w7 := ⟨hb⟩; have H10f := Aside0.mk ho; have H8f := Aside0.mk (Kd.R_after (v := .slice (some ⟨g10, 0, none⟩) m q10) H8'.out hg (.inl rfl)); clear ho hb hg)
          repeat (go_quiet (fail); try go_wp2_with ((with_reducible refine gate_store (p := 54) rfl ?_); refine Kd.R_store (Kd.int .i64) (w0 := w) w.heap.size rfl rfl 3 (.tmp 54) (.tmp 53) rfl 3 (i : Int) 0 G x2 (.int .i64 x2) [.int .i64 x2] cd (fun k => True ∧ some k ≠ (.slice (some ⟨g8, 0, none⟩) K q8 : Value).ownBlock) (fun _ => False) (o' := i) rfl (by rw [Int.toNat_natCast]; exact (Nat.mul_one i).symm) rfl rfl size3_ (by simp [Value.oneCell']) H10'.out (Int.natCast_nonneg i) (by have := HLT.out; omega) HCD.out.1 HCD.out.2 (Nat.le_refl 1) (by have h := HCD.out.1; rw [List.take_zero, List.drop_eq_nil_of_le (by show cd.length ≤ 1; exact Nat.le_of_eq h)]; rfl) (fun _ hk => hk.elim) bw ?_; intro w7 ho hb hg; have HB7 : BelC w w7 := ⟨hb⟩; have H10f := Aside0.mk ho; have H8f := Aside0.mk (Kd.R_after (v := .slice (some ⟨g10, 0, none⟩) m q10) H8'.out hg (.inl rfl)); clear ho hb hg))
          refine ⟨⟨i + 1, n, _, _, rfl, by rw [HWW.out], ⟨HLT.out, ?_⟩, H8f, H10f, inferInstance⟩, by rw [HWW.out]; exact measLo HLT.out (s := 1) (Nat.le_refl _) rfl⟩; have h := cutI_old HCI.out HLT.out HKA.out.1 HKA.out.2 (by rw [← HX.out]; exact HX0.out); rw [Int.toNat_natCast, HNX.out.2, HX.out]; exact h
    · have d1 : decide (i < m) = false := decide_eq_false hlt
      have HE := Aside0.mk (show i = m by have := HI.out.1; omega); clear hlt hlb
      go_wp2
      go_ret2; have h := HI.out.2; rw [HE.out] at h; exact ⟨_, G, n, by first | rfl | simp, Kd.R_mono H10.out (fun _ _ => trivial), h.gl, h.n0, h.ni, h.num, bw⟩
end Go.Proofs.YtoggmegpodmfnaaGreatDoor.Q
namespace Go.Proofs.YtoggmegpodmfnaaGreatDoor.Q
open Go.RowKit Go.Proofs.YtoggmegpodmfnaaGreatDoorW.PrintWords Go.Proofs.YtoggmegpodmfnaaGreatDoorW.PrintLast Go.Proofs.YtoggmegpodmfnaaGreatDoorW.PrintMore Go.Proofs.YtoggmegpodmfnaaGreatDoor.PS Go.Proofs.YtoggmegpodmfnaaGreatDoor.B
set_option linter.unusedVariables false
set_option linter.unusedSimpArgs false
theorem info21_ : (Tryz.prog.info? 21).map (fun i => (i.zero, i.size, i.bytes)) = some (some (.int .i32 0), 1, 4) := by kernel_rfl
def uoff (l : List Rg) (i : Nat) : Nat := (units (l.take i)).length
theorem uoff_succ {l : List Rg} {i : Nat} {x : Rg} (h : l[i]? = some x) : uoff l (i + 1) = uoff l i + (x.f1 - x.f0 + 1).toNat := by
  unfold uoff; rw [List.take_add_one, h]
  simp [units, uR]
theorem uoff_end (l : List Rg) : uoff l l.length = (units l).length := by unfold uoff; rw [List.take_length]
theorem units_at {l : List Rg} {i : Nat} {x : Rg} (h : l[i]? = some x) {j : Nat} (hj : j < (x.f1 - x.f0 + 1).toNat) : (units l)[uoff l i + j]? = some (x.f0 + (j : Int)) := by
  have e : units l = units (l.take i) ++ (uR x ++ units (l.drop (i + 1))) := by
    obtain ⟨hi, e⟩ := List.getElem?_eq_some_iff.1 h
    conv => lhs; rw [← List.take_append_drop i l, List.drop_eq_getElem_cons hi, e]
    simp [units]
  rw [e, List.getElem?_append_right (by unfold uoff; omega)]
  have : uoff l i + j - (units (l.take i)).length = j := by unfold uoff; omega
  rw [this, List.getElem?_append_left (by unfold uR; rw [List.length_map, List.length_range]; exact hj)]
  simp [uR, hj]
theorem take_snoc {U : List Int} {c : Nat} {u : Int} (h : U[c]? = some u) : U.take c ++ [u] = U.take (c + 1) := by rw [List.take_add_one, h]; rfl
set_option maxHeartbeats 8000000 in
set_option maxRecDepth 100000 in
theorem refFirst_run (A0 : Option Addr) (c0 : Nat) (l : List Rg) (n : Int) (w : World) (hl : l.length ≤ 67108864) (hr : ∀ r ∈ l, R32 r) (hU : Sound l → (units l).length ≤ 67108864) (hr0 : Kd.C k41 w A0 l.length l) :
    Calls Tryz.prog 23 #[.slice A0 l.length c0, .int .i64 n] w fun e w' => ∃ (v : Value) (R : List Int), e = .returned v ∧ Kd.R (Kd.int .i32) 21 w' w.heap.size (fun _ => True) v R ∧
      (¬ Sound l → R = []) ∧ (Sound l → R = (units l).take (max 1 n.toNat)) ∧ Below w.heap.size w w' := by
  have HR0 := Aside0.mk hr0; have HL := Aside0.mk hl; have cc := refCheck_run A0 c0 l w hl hr hr0
  by_cases hs : Sound l
  · rw [if_pos hs] at cc
    have HS := Aside0.mk hs; obtain ⟨U, hUe⟩ : ∃ U, U = units l := ⟨_, rfl⟩; have HU := Aside0.mk (show U = units l ∧ U.length ≤ 67108864 from ⟨hUe, by rw [hUe]; exact hU hs⟩); have HPOST := Aside0.mk (show ∀ S : List Int, S = U.take (max 1 n.toNat) → (¬ Sound l → S = []) ∧ (Sound l → S = (units l).take (max 1 n.toNat)) from fun S h => ⟨fun h2 => absurd hs h2, fun _ => by rw [← hUe]; exact h⟩); have CC := Aside0.mk cc; clear hr0 hl hr hU hs hUe cc; go_enter Tryz.func23, Tryz.ntmps23
    go_wp2_with (go_at_call 13; (with_reducible refine CC.out.mono ?_); rintro e w1 ⟨rfl, hb⟩; have HB1 : BelC w w1 := ⟨hb⟩; clear hb)
    go_loopw [5, 6] (fun v5 v6 wr => ∃ (i : Nat) (S : List Int), v6 = .int .i64 (i : Int) ∧ i ≤ l.length ∧ Aside0 (S = U.take (uoff l i) ∧ (uoff l i = 0 ∨ (uoff l i : Int) < n)) ∧ Aside0 (Kd.R (Kd.int .i32) 21 wr w.heap.size (fun _ => True) v5 S) ∧ BelC w wr) (fun _ v6 _ => l.length - (intOf v6).toNat)
    case atStart => exact ⟨0, [], rfl, Nat.zero_le _, ⟨by simp [uoff, units], .inl (by simp [uoff, units])⟩, ⟨Kd.R_nil _ _ _ _ _⟩, inferInstance⟩
    case round =>
      obtain ⟨i, S, rfl, hi, HI, HR, HB⟩ := hrel; obtain ⟨w2, rfl⟩ : ∃ x, x = wr := ⟨_, rfl⟩; have hlb := HL.out
      by_cases hlt : i < l.length
      · have d1 : decide (i < l.length) = true := decide_eq_true hlt
        obtain ⟨x, hx⟩ : ∃ x, l[i]? = some x := ⟨_, List.getElem?_eq_getElem hlt⟩; obtain ⟨a1, e1, h0, h1⟩ := at_T41 HR0.out (i : Int) (Int.natCast_nonneg i) (by omega); subst e1
        have hrd : rd_T41 l (i : Int) = x := by unfold rd_T41; rw [Int.toNat_natCast, List.getD_eq_getElem?_getD, hx]; rfl
        rw [hrd, Int.toNat_natCast] at h0 h1; have HC := Aside0.mk (fun (W : World) (hW : BelC w W) => And.intro ((hW.out.cell (World.block_lt_of_cell? w _ h0)).trans h0) ((hW.out.cell (World.block_lt_of_cell? w _ h1)).trans h1) : ∀ W : World, BelC w W → W.cell? (a1.add (i * 2)) = some (.int .i32 x.f0) ∧ W.cell? ⟨(a1.add (i * 2)).block, (a1.add (i * 2)).off + 1, none⟩ = some (.int .i32 x.f1)); have hok := HS.out.1 x (List.mem_of_getElem? hx); have hx0 := (isU_iff _).1 (okR_unit hok (Int.le_refl _) hok.2.2); have hx1 := (isU_iff _).1 (okR_unit hok hok.2.2 (Int.le_refl _)); have HX := Aside0.mk (show x.f0 ≤ x.f1 ∧ 0 ≤ x.f0 ∧ x.f1 ≤ 1114367 from ⟨hok.2.2, by omega, by omega⟩); have HXX := Aside0.mk hx; have hp0 := (HC.out w2 HB).1; have p1 := eq_true (Int.natCast_nonneg i); have q1 := eq_true (show (i : Int) < (l.length : Int) by omega); have HLT := Aside0.mk hlt; have HWW := Aside0.mk (w64 (x := (i : Int) + 1) (m := i + 1) (by omega) (by omega)); clear h0 h1 hrd hx hok hx0 hx1 hlt hlb hi
        go_wp2
        go_loopw [5, 7] (fun v5 v7 wr => ∃ (u : Int) (S : List Int), v7 = .int .i32 u ∧ Aside0 (x.f0 ≤ u ∧ u ≤ x.f1 + 1) ∧ Aside0 (S = U.take (uoff l i + (u - x.f0).toNat) ∧ (uoff l i + (u - x.f0).toNat = 0 ∨ ((uoff l i + (u - x.f0).toNat : Nat) : Int) < n)) ∧ Aside0 (Kd.R (Kd.int .i32) 21 wr w.heap.size (fun _ => True) v5 S) ∧ BelC w wr) (fun _ v7 _ => (x.f1 + 1 - intOf v7).toNat)
        case atStart => exact ⟨x.f0, S, rfl, ⟨by have := HX.out; omega⟩, ⟨by rw [Int.sub_self]; exact HI.out⟩, HR, inferInstance⟩
        case round =>
          obtain ⟨u, S1, rfl, HUU, HI1, HR1, HB1'⟩ := hrel; obtain ⟨w3, rfl⟩ : ∃ x, x = wr := ⟨_, rfl⟩; have hp1 := (HC.out w3 HB1').2; have hu := HUU.out; have hx := HX.out
          by_cases hle : u ≤ x.f1
          · have d2 : decide (u ≤ x.f1) = true := decide_eq_true hle
            obtain ⟨c, hc⟩ : ∃ c, c = uoff l i + (u - x.f0).toNat := ⟨_, rfl⟩
            have hat : U[c]? = some u := by
              rw [HU.out.1, hc, units_at HXX.out (by omega)]
              congr 1; omega
            have hcl : c < U.length := (List.getElem?_eq_some_iff.1 hat).1; have hI := HI1.out; rw [← hc] at hI; obtain ⟨S2, hS2⟩ : ∃ S2, S2 = S1 ++ [u] := ⟨_, rfl⟩
            have hS3 : S2 = U.take (c + 1) := by rw [hS2, hI.1, take_snoc hat]
            have hln : S2.length = c + 1 := by rw [hS3, List.length_take]; omega
            have HS2 := Aside0.mk (show S2 = S1 ++ [u] ∧ S2 = U.take (c + 1) ∧ S2.length = c + 1 ∧ S1.length ≤ 67108864 ∧ c = uoff l i + (u - x.f0).toNat ∧ (c = 0 ∨ (c : Int) < n) from ⟨hS2, hS3, hln, by have h := hln; rw [hS2, List.length_append] at h; have := HU.out.2; simp at h; omega, hc, hI.2⟩); have hw := (i32_w (u + 1)).trans (w32 (x := u + 1) (by unfold I32; omega)); have hu0 := (i32_w u).trans (w32 (x := u) (by unfold I32; omega)); have HMS := Aside0.mk (show x.f0 ≤ u ∧ u ≤ x.f1 from ⟨hu.1, hle⟩); clear hat hcl hI hS2 hS3 hc hu hx hle
            by_cases hn : n ≤ (S2.length : Int)
            · have d3 : decide (n ≤ (S2.length : Int)) = true := decide_eq_true hn
              have HN := Aside0.mk (show S2 = U.take (max 1 n.toNat) from by
                have h := HS2.out
                have e : max 1 n.toNat = c + 1 := by omega
                rw [e]; exact h.2.1)
              clear hn hln
              go_wp2_with ((with_reducible refine gate_builtin (b := .append) (xs := #[.tmp 31, .tmp 33]) rfl ?_); at_builtin; refine Kd.R_append (Kd.int .i32) (w0 := w) w.heap.size rfl (.tmp 31) (.tmp 33) 26 21 (.int .i32 0) 4 rfl Tryz.underlying26 info21_ rfl (by decide) (by omega) u5 S1 u [.int .i32 u] (fun _ => True) (fun _ => False) rfl rfl rfl (fun _ hk => hk.elim) (fun _ _ => trivial) (rl HR1.out) bw bz (by have := HS2.out; omega) ?_; intro v9 w9 ho hb hg hat; rw [← HS2.out.1] at ho; obtain ⟨A9, c9, e9⟩ := Kd.R_slice ho; subst e9; have HR9 := Aside0.mk ho; have HB9 : BelC w w9 := ⟨hb⟩; clear ho hb hg hat)
              go_ret; exact ⟨_, S2, by first | rfl | simp, HR9.out, (HPOST.out S2 HN.out).1, (HPOST.out S2 HN.out).2, bw⟩
            · have d3 : decide (n ≤ (S2.length : Int)) = false := decide_eq_false hn
              have HN := Aside0.mk (show (c : Int) + 1 < n by have h := HS2.out; omega); clear hn hln
              go_wp2_with ((with_reducible refine gate_builtin (b := .append) (xs := #[.tmp 31, .tmp 33]) rfl ?_); at_builtin; refine Kd.R_append (Kd.int .i32) (w0 := w) w.heap.size rfl (.tmp 31) (.tmp 33) 26 21 (.int .i32 0) 4 rfl Tryz.underlying26 info21_ rfl (by decide) (by omega) u5 S1 u [.int .i32 u] (fun _ => True) (fun _ => False) rfl rfl rfl (fun _ hk => hk.elim) (fun _ _ => trivial) (rl HR1.out) bw bz (by have := HS2.out; omega) ?_; intro v9 w9 ho hb hg hat; rw [← HS2.out.1] at ho; obtain ⟨A9, c9, e9⟩ := Kd.R_slice ho; subst e9; have HR9 := Aside0.mk ho; have HB9 : BelC w w9 := ⟨hb⟩; clear ho hb hg hat)
              have e : uoff l i + (u + 1 - x.f0).toNat = c + 1 := by have := HMS.out; have := HS2.out; omega
              refine ⟨⟨u + 1, S2, by first | rfl | rw [hw], ⟨by have := HMS.out; omega⟩, ⟨by rw [e]; exact HS2.out.2.1, .inr (by rw [e]; have := HN.out; omega)⟩, HR9, inferInstance⟩, ?_⟩; have := HMS.out
              try rw [hw]
              simp only [intOf]; omega
          · have d2 : decide (u ≤ x.f1) = false := decide_eq_false hle
            have HE := Aside0.mk (show uoff l i + (u - x.f0).toNat = uoff l (i + 1) by rw [uoff_succ HXX.out]; congr 2; omega); have HI2 := Aside0.mk (show S1 = U.take (uoff l (i + 1)) ∧ (uoff l (i + 1) = 0 ∨ (uoff l (i + 1) : Int) < n) from by rw [← HE.out]; exact HI1.out); clear hle hu hx
            go_wp2
            exact ⟨⟨i + 1, S1, by rw [HWW.out], HLT.out, HI2, HR1, inferInstance⟩, by rw [HWW.out]; exact measLo HLT.out (s := 1) (Nat.le_refl _) rfl⟩
      · have d1 : decide (i < l.length) = false := decide_eq_false hlt
        have HE := Aside0.mk (show uoff l i = U.length by rw [show i = l.length by omega, uoff_end, HU.out.1])
        have HN := Aside0.mk (show S = U.take (max 1 n.toNat) from by
          have h := HI.out; rw [HE.out] at h
          rw [h.1, List.take_length, List.take_of_length_le (by omega)])
        clear hlt hlb hi
        go_wp2
        go_ret; exact ⟨_, S, by first | rfl | simp, HR.out, (HPOST.out S HN.out).1, (HPOST.out S HN.out).2, bw⟩
  · rw [if_neg hs] at cc
    have HS := Aside0.mk hs; have CC := Aside0.mk cc; clear hr0 hl hr hU hs cc; go_enter Tryz.func23, Tryz.ntmps23
    go_wp2_with (go_at_call 13; (with_reducible refine CC.out.mono ?_); rintro e w1 ⟨rfl, hb⟩; have HB1 : BelC w w1 := ⟨hb⟩; clear hb)
    go_ret; exact ⟨_, [], by first | rfl | simp, Kd.R_nil _ _ _ _ _, fun _ => rfl, fun h => absurd h HS.out, bw⟩
end Go.Proofs.YtoggmegpodmfnaaGreatDoor.Q
namespace Go.Proofs.YtoggmegpodmfnaaGreatDoor.Q
open Go.RowKit Go.Proofs.YtoggmegpodmfnaaGreatDoorW.PrintWords Go.Proofs.YtoggmegpodmfnaaGreatDoorW.PrintLast Go.Proofs.YtoggmegpodmfnaaGreatDoorW.PrintMore Go.Proofs.YtoggmegpodmfnaaGreatDoor.PS Go.Proofs.YtoggmegpodmfnaaGreatDoor.B
set_option linter.unusedVariables false
set_option linter.unusedSimpArgs false
theorem bwl {W W2 : World} {base : Nat} [h : BelC W W2] (hb : base ≤ W.heap.size) : Below base W W2 := ⟨h.out.os, h.out.tape, h.out.output, h.out.size, fun i hi => h.out.block i (Nat.lt_of_lt_of_le hi hb)⟩
theorem bzl {W W2 : World} {base : Nat} [h : BelC W W2] (hb : base ≤ W.heap.size) : base ≤ W2.heap.size := Nat.le_trans hb h.out.size
set_option maxHeartbeats 8000000 in
set_option maxRecDepth 100000 in
theorem join_kept (W : World) (base : Nat) (hbs : base ≤ W.heap.size) (ok : Nat → Prop) (v : Value) (s : List Rg) (p : Rg) (hR : Kd.R k41 41 W base ok v s) (hs : ∀ r ∈ s, R32 r) (hp : R32 p) (hl : s.length ≤ 67108864) :
    Calls Tryz.prog 40 #[v, .agg #[.int .i64 p.f0, .int .i64 p.f1]] W fun e w' => ∃ v' : Value, e = .returned v' ∧ Kd.R k41 41 w' base (fun k => ok k ∨ W.heap.size ≤ k) v' (joinR s p) ∧ W.grownBy w' v.ownBlock ∧ Below base W w' := by
  replace hR := Kd.R_mono (ok' := fun k => ok k ∨ W.heap.size ≤ k) hR (fun k hk => .inl hk); have HBS := Aside0.mk hbs; clear hbs; have HR := Aside0.mk hR; have HL := Aside0.mk hl; have h0 := w32 hp.1; have h1 := w32 hp.2; have h0w : IntKind.i32.wrap p.f0 = p.f0 := (i32_w _).trans h0; have h1w : IntKind.i32.wrap p.f1 = p.f1 := (i32_w _).trans h1
  rcases snoc_cases s with rfl | ⟨o, x, rfl⟩
  · have e1 : joinR [] p = [] ++ [p] := rfl
    obtain ⟨A, c, rfl⟩ := Kd.R_slice hR; clear hR hs hp hl h0 h1; go_enter Tryz.func40, Tryz.ntmps40
    go_wp2_with ((with_reducible refine gate_dst (N := 3) rfl ?_); refine box_event ?hg (N := 3) ?hd (cs := #[.int .i64 p.f0, .int .i64 p.f1]) (t := 63) ?hr ?_; (case hd => rfl); (case hg => rfl); (case hr => first | (go_simp; done) | (go_simp; rfl)); intro gb hg w9 hbox hb; have HB3 : BelC W w9 := ⟨hb⟩;  have HBX := Aside0.mk hbox; have hc0 : w9.cell? ⟨gb, 0, none⟩ = some (.int .i64 p.f0) := (blk_cell hbox 0).trans rfl; have hc1 : w9.cell? ⟨gb, 1, none⟩ = some (.int .i64 p.f1) := (blk_cell hbox 1).trans rfl; clear hb hbox hg)
    repeat (go_quiet (fail); try go_wp2_with ((with_reducible refine gate_builtin (b := .append) (xs := #[.tmp 32, .tmp 40]) rfl ?_); at_builtin; refine Kd.R_append k41 (w0 := W) base rfl (.tmp 32) (.tmp 40) 24 41 (.agg #[.int .i32 0, .int .i32 0]) 8 rfl Tryz.underlying24 info41_ rfl (by decide) (by omega) (.slice A 0 c) [] p [.int .i32 p.f0, .int .i32 p.f1] (fun k => ok k ∨ W.heap.size ≤ k) (fun _ => False) rfl rfl (k41_mkM _ _ _ p) (fun _ hk => hk.elim) (fun k hk => .inr (Nat.le_trans bz hk)) (rl (rl HR.out : Kd.R k41 41 w9 base (fun k => ok k ∨ W.heap.size ≤ k) _ [])) (bwl HBS.out) (bzl HBS.out) (by simp) ?_; intro v9 w10 ho hb hg hat; have HR9 := Aside0.mk ho; have HB9 := Aside0.mk hb; have HG9 := Aside0.mk (World.grownBy.trans (grown_of_below (bw : Below W.heap.size W _) _) hg); clear ho hb hg hat))
    go_ret; exact ⟨_, by first | rfl | simp, HR9.out, HG9.out, HB9.out⟩
  · have hx := hs x (by simp)
    have hx1 := w64i (x := x.f1) (by have := hx.2; unfold I32 at this; omega); have hx2 := w64i (x := x.f1 + 1) (by have := hx.2; unfold I32 at this; omega); have hx1w : IntKind.i64.wrap x.f1 = x.f1 := (i64_w _).trans hx1; have hx2w : IntKind.i64.wrap (x.f1 + 1) = x.f1 + 1 := (i64_w _).trans hx2; obtain ⟨g, cap, rfl, _, _⟩ := Kd.R_form hR (by simp); obtain ⟨m, hm⟩ : ∃ m, m = o.length := ⟨_, rfl⟩
    have hlen : (o ++ [x]).length = m + 1 := by rw [hm]; simp
    have hrd : (o ++ [x]).getD m z41 = x := by rw [hm]; simp
    obtain ⟨c, hcl, hcM, hcc, hcf⟩ := Kd.R_elem HR.out z41 (m : Int) (Int.natCast_nonneg m) (by rw [hlen]; omega); rw [Int.toNat_natCast, hrd] at hcM; rw [Int.toNat_natCast] at hcc; obtain rfl := k41_openM hcM; have hy0 : W.cell? ⟨g, m * 2, none⟩ = some (.int .i32 x.f0) := hcc 0 _ rfl; have hy1 : W.cell? ⟨g, m * 2 + 1, none⟩ = some (.int .i32 x.f1) := hcc 1 _ rfl; obtain ⟨n, hn⟩ : ∃ n, n = m + 1 := ⟨_, rfl⟩; have hm1 := w64 (x := ((n : Int) - 1)) (m := m) (by omega) (by omega); have hm1w : IntKind.i64.wrap ((n : Int) - 1) = (m : Int) := (i64_w _).trans hm1; have d1 : decide (0 < n) = true := decide_eq_true (by omega); have p1 := eq_true (Int.natCast_nonneg m); have q1 := eq_true (show (m : Int) < (n : Int) by omega); have HM := Aside0.mk (show (o ++ [x]).length = n ∧ n = m + 1 ∧ m = o.length from ⟨by rw [hlen, hn], hn, hm⟩); have HCC := Aside0.mk (fun j u hu => hcc j u hu : ∀ j u, [Value.int .i32 x.f0, .int .i32 x.f1][j]? = some u → W.cell? ⟨g, m * 2 + j, none⟩ = some u); rw [hlen, ← hn] at HR ⊢; have e2 := joinR_snoc o x p
    by_cases he : x.f1 + 1 = p.f0
    · have eb : (x.f1 + 1 == p.f0) = true := by simp [he]
      rw [if_pos he] at e2; have HE := Aside0.mk e2; clear hR hs hp hl h0 h1 hx hx1 hx2 hlen hrd hm hn hcc hcf hy0 hy1 he e2 hm1 hcM hcl; go_enter Tryz.func40, Tryz.ntmps40
      go_wp2_with ((with_reducible refine gate_dst (N := 3) rfl ?_); refine box_event ?hg (N := 3) ?hd (cs := #[.int .i64 p.f0, .int .i64 p.f1]) (t := 63) ?hr ?_; (case hd => rfl); (case hg => rfl); (case hr => first | (go_simp; done) | (go_simp; rfl)); intro gb hg w9 hbox hb; have HB3 : BelC W w9 := ⟨hb⟩;  have HBX := Aside0.mk hbox; have hc0 : w9.cell? ⟨gb, 0, none⟩ = some (.int .i64 p.f0) := (blk_cell hbox 0).trans rfl; have hc1 : w9.cell? ⟨gb, 1, none⟩ = some (.int .i64 p.f1) := (blk_cell hbox 1).trans rfl; clear hb hbox hg; have HR4 := Aside0.mk (rl HR.out : Kd.R k41 41 w9 base (fun k => ok k ∨ W.heap.size ≤ k) (.slice (some ⟨g, 0, none⟩) n cap) (o ++ [x])); have HCC4 := Aside0.mk (fun j u hu => (HB3.out.cell (World.block_lt_of_cell? W _ (HCC.out j u hu))).trans (HCC.out j u hu) : ∀ j u, [Value.int .i32 x.f0, .int .i32 x.f1][j]? = some u → w9.cell? ⟨g, m * 2 + j, none⟩ = some u); have hy0 : w9.cell? ⟨g, m * 2, none⟩ = some (.int .i32 x.f0) := HCC4.out 0 _ rfl; have hy1 : w9.cell? ⟨g, m * 2 + 1, none⟩ = some (.int .i32 x.f1) := HCC4.out 1 _ rfl)
      repeat (go_quiet (fail); try go_wp2_with ((with_reducible refine gate_store (p := 30) rfl ?_); refine Kd.R_store k41 (w0 := W) base rfl rfl 21 (.tmp 30) (.tmp 28) rfl 41 (m : Int) 1 (o ++ [x]) (⟨x.f0, p.f1⟩ : Rg) (.int .i32 p.f1) [.int .i32 p.f1] [.int .i32 x.f0, .int .i32 x.f1] (fun k => ok k ∨ W.heap.size ≤ k) (fun _ => False) (o' := m * 2 + 1) rfl (by rw [Int.toNat_natCast]; rfl) rfl rfl size21 (by simp [Value.oneCell']) HR4.out (Int.natCast_nonneg m) (by have := HM.out; omega) rfl (fun j u hu => (HCC4.out j u hu)) (Nat.le_refl 2) (k41_mkM _ _ _ (⟨x.f0, p.f1⟩ : Rg)) (fun _ hk => hk.elim) (bwl HBS.out) ?_; intro w10 ho hb hg; have HR9 := Aside0.mk ho; have HB9 := Aside0.mk hb; have HG9 := Aside0.mk (World.grownBy.trans (grown_of_below (bw : Below W.heap.size W _) _) hg); clear ho hb hg))
      go_ret; refine ⟨_, by first | rfl | simp, ?_, HG9.out, HB9.out⟩; have h := HR9.out; rw [HE.out]; rw [Int.toNat_natCast, HM.out.2.2] at h
      simpa using h
    · have eb : (x.f1 + 1 == p.f0) = false := ne_beq he
      rw [if_neg he] at e2; have HE := Aside0.mk e2; clear hR hs hp hl h0 h1 hx hx1 hx2 hlen hrd hm hn hcc hcf hy0 hy1 he e2 hm1 hcM hcl; go_enter Tryz.func40, Tryz.ntmps40
      go_wp2_with ((with_reducible refine gate_dst (N := 3) rfl ?_); refine box_event ?hg (N := 3) ?hd (cs := #[.int .i64 p.f0, .int .i64 p.f1]) (t := 63) ?hr ?_; (case hd => rfl); (case hg => rfl); (case hr => first | (go_simp; done) | (go_simp; rfl)); intro gb hg w9 hbox hb; have HB3 : BelC W w9 := ⟨hb⟩;  have HBX := Aside0.mk hbox; have hc0 : w9.cell? ⟨gb, 0, none⟩ = some (.int .i64 p.f0) := (blk_cell hbox 0).trans rfl; have hc1 : w9.cell? ⟨gb, 1, none⟩ = some (.int .i64 p.f1) := (blk_cell hbox 1).trans rfl; clear hb hbox hg; have HR4 := Aside0.mk (rl HR.out : Kd.R k41 41 w9 base (fun k => ok k ∨ W.heap.size ≤ k) (.slice (some ⟨g, 0, none⟩) n cap) (o ++ [x])); have HCC4 := Aside0.mk (fun j u hu => (HB3.out.cell (World.block_lt_of_cell? W _ (HCC.out j u hu))).trans (HCC.out j u hu) : ∀ j u, [Value.int .i32 x.f0, .int .i32 x.f1][j]? = some u → w9.cell? ⟨g, m * 2 + j, none⟩ = some u); have hy0 : w9.cell? ⟨g, m * 2, none⟩ = some (.int .i32 x.f0) := HCC4.out 0 _ rfl; have hy1 : w9.cell? ⟨g, m * 2 + 1, none⟩ = some (.int .i32 x.f1) := HCC4.out 1 _ rfl)
      repeat (go_quiet (fail); try go_wp2_with ((with_reducible refine gate_builtin (b := .append) (xs := #[.tmp 32, .tmp 40]) rfl ?_); at_builtin; refine Kd.R_append k41 (w0 := W) base rfl (.tmp 32) (.tmp 40) 24 41 (.agg #[.int .i32 0, .int .i32 0]) 8 rfl Tryz.underlying24 info41_ rfl (by decide) (by omega) (.slice (some ⟨g, 0, none⟩) n cap) (o ++ [x]) p [.int .i32 p.f0, .int .i32 p.f1] (fun k => ok k ∨ W.heap.size ≤ k) (fun _ => False) rfl rfl (k41_mkM _ _ _ p) (fun _ hk => hk.elim) (fun k hk => .inr (Nat.le_trans bz hk)) (rl HR4.out) (bwl HBS.out) (bzl HBS.out) (by have := HM.out; have := HL.out; omega) ?_; intro v9 w10 ho hb hg hat; have HR9 := Aside0.mk ho; have HB9 := Aside0.mk hb; have HG9 := Aside0.mk (World.grownBy.trans (grown_of_below (bw : Below W.heap.size W _) _) hg); clear ho hb hg hat))
      go_ret; refine ⟨_, by first | rfl | simp, ?_, HG9.out, HB9.out⟩; rw [HE.out]
      simpa using HR9.out
end Go.Proofs.YtoggmegpodmfnaaGreatDoor.Q
namespace Go.Proofs.YtoggmegpodmfnaaGreatDoor.Q
open Go.RowKit Go.Proofs.YtoggmegpodmfnaaGreatDoorW.PrintWords Go.Proofs.YtoggmegpodmfnaaGreatDoorW.PrintLast Go.Proofs.YtoggmegpodmfnaaGreatDoorW.PrintMore Go.Proofs.YtoggmegpodmfnaaGreatDoor.PS Go.Proofs.YtoggmegpodmfnaaGreatDoor.B
set_option linter.unusedVariables false
set_option linter.unusedSimpArgs false
structure Ruled (kd : Int) (a b R : List Rg) (n : Int) : Prop where
  no : ¬ (Sound a ∧ Sound b) → n = 1 ∧ R = []
  yes : Sound a → Sound b → n = 0 ∧ Sound R ∧ ∀ u, mem R u = (isU u && tk kd (mem a u) (mem b u))
theorem rule_run (kd : Int) (hkd : kd = 1 ∨ kd = 2 ∨ kd = 3 ∨ kd = 4) (A0 : Option Addr) (c0 : Nat) (a : List Rg) (A1 : Option Addr) (c1 : Nat) (b : List Rg) (w : World) (hl0 : a.length ≤ 8388608) (hl1 : b.length ≤ 8388608) (ha : ∀ r ∈ a, R32 r) (hb : ∀ r ∈ b, R32 r)
    (hr0 : Kd.C k41 w A0 a.length a) (hc0 : a.length ≤ c0) (hr1 : Kd.C k41 w A1 b.length b) (hc1 : b.length ≤ c1) :
    Calls Tryz.prog 47 #[.int .i64 kd, .slice A0 a.length c0, .slice A1 b.length c1] w fun e w' => ∃ (v : Value) (R : List Rg) (n : Int), e = .returned (.tuple #[v, .int .i64 n]) ∧ Kd.R k41 41 w' w.heap.size (fun _ => True) v R ∧ Ruled kd a b R n ∧ Below w.heap.size w w' := by
  by_cases h : Sound a ∧ Sound b
  (· refine (rule_yes kd hkd A0 c0 a A1 c1 b w hl0 hl1 hr0 hc0 hr1 hc1 h.1 h.2).mono ?_; rintro e w' ⟨v, R, he, h1, h2, h3, h4⟩; exact ⟨v, R, 0, he, h1, ⟨fun hn => absurd h hn, fun _ _ => ⟨rfl, h2, h3⟩⟩, h4⟩); (· refine (rule_no kd A0 c0 a A1 c1 b w hl0 hl1 ha hb hr0 hr1 h).mono ?_; rintro e w' ⟨he, h4⟩; exact ⟨_, [], 1, he, Kd.R_nil _ _ _ _ _, ⟨fun _ => ⟨rfl, rfl⟩, fun h1 h2 => absurd ⟨h1, h2⟩ h⟩, h4⟩)
set_option maxHeartbeats 8000000 in
set_option maxRecDepth 100000 in
theorem refOr_run (A0 : Option Addr) (c0 : Nat) (a : List Rg) (A1 : Option Addr) (c1 : Nat) (b : List Rg) (w : World) (hl0 : a.length ≤ 8388608) (hl1 : b.length ≤ 8388608) (ha : ∀ r ∈ a, R32 r) (hb : ∀ r ∈ b, R32 r)
    (hr0 : Kd.C k41 w A0 a.length a) (hc0 : a.length ≤ c0) (hr1 : Kd.C k41 w A1 b.length b) (hc1 : b.length ≤ c1) :
    Calls Tryz.prog 14 #[.slice A0 a.length c0, .slice A1 b.length c1] w fun e w' => ∃ (v : Value) (R : List Rg) (n : Int), e = .returned (.tuple #[v, .int .i64 n]) ∧ Kd.R k41 41 w' w.heap.size (fun _ => True) v R ∧ Ruled 1 a b R n ∧ Below w.heap.size w w' := by
  have CC := Aside0.mk (rule_run 1 (by decide) A0 c0 a A1 c1 b w hl0 hl1 ha hb hr0 hc0 hr1 hc1); clear hl0 hl1 ha hb hr0 hc0 hr1 hc1; go_enter Tryz.func14, Tryz.ntmps14
  go_wp2_with (go_at_call 47; (with_reducible refine CC.out.mono ?_); rintro e w1 ⟨v1, R, n, rfl, ho, hu, hb⟩; have HB1 : BelC w w1 := ⟨hb⟩; have HO := Aside0.mk ho; have HRU := Aside0.mk hu; clear hb ho hu)
  go_ret2; exact ⟨_, R, n, by first | rfl | simp, HO.out, HRU.out, bw⟩
set_option maxHeartbeats 8000000 in
set_option maxRecDepth 100000 in
theorem refAnd_run (A0 : Option Addr) (c0 : Nat) (a : List Rg) (A1 : Option Addr) (c1 : Nat) (b : List Rg) (w : World) (hl0 : a.length ≤ 8388608) (hl1 : b.length ≤ 8388608) (ha : ∀ r ∈ a, R32 r) (hb : ∀ r ∈ b, R32 r)
    (hr0 : Kd.C k41 w A0 a.length a) (hc0 : a.length ≤ c0) (hr1 : Kd.C k41 w A1 b.length b) (hc1 : b.length ≤ c1) :
    Calls Tryz.prog 15 #[.slice A0 a.length c0, .slice A1 b.length c1] w fun e w' => ∃ (v : Value) (R : List Rg) (n : Int), e = .returned (.tuple #[v, .int .i64 n]) ∧ Kd.R k41 41 w' w.heap.size (fun _ => True) v R ∧ Ruled 2 a b R n ∧ Below w.heap.size w w' := by
  have CC := Aside0.mk (rule_run 2 (by decide) A0 c0 a A1 c1 b w hl0 hl1 ha hb hr0 hc0 hr1 hc1); clear hl0 hl1 ha hb hr0 hc0 hr1 hc1; go_enter Tryz.func15, Tryz.ntmps15
  go_wp2_with (go_at_call 47; (with_reducible refine CC.out.mono ?_); rintro e w1 ⟨v1, R, n, rfl, ho, hu, hb⟩; have HB1 : BelC w w1 := ⟨hb⟩; have HO := Aside0.mk ho; have HRU := Aside0.mk hu; clear hb ho hu)
  go_ret2; exact ⟨_, R, n, by first | rfl | simp, HO.out, HRU.out, bw⟩
set_option maxHeartbeats 8000000 in
set_option maxRecDepth 100000 in
theorem refMinus_run (A0 : Option Addr) (c0 : Nat) (a : List Rg) (A1 : Option Addr) (c1 : Nat) (b : List Rg) (w : World) (hl0 : a.length ≤ 8388608) (hl1 : b.length ≤ 8388608) (ha : ∀ r ∈ a, R32 r) (hb : ∀ r ∈ b, R32 r)
    (hr0 : Kd.C k41 w A0 a.length a) (hc0 : a.length ≤ c0) (hr1 : Kd.C k41 w A1 b.length b) (hc1 : b.length ≤ c1) :
    Calls Tryz.prog 16 #[.slice A0 a.length c0, .slice A1 b.length c1] w fun e w' => ∃ (v : Value) (R : List Rg) (n : Int), e = .returned (.tuple #[v, .int .i64 n]) ∧ Kd.R k41 41 w' w.heap.size (fun _ => True) v R ∧ Ruled 3 a b R n ∧ Below w.heap.size w w' := by
  have CC := Aside0.mk (rule_run 3 (by decide) A0 c0 a A1 c1 b w hl0 hl1 ha hb hr0 hc0 hr1 hc1); clear hl0 hl1 ha hb hr0 hc0 hr1 hc1; go_enter Tryz.func16, Tryz.ntmps16
  go_wp2_with (go_at_call 47; (with_reducible refine CC.out.mono ?_); rintro e w1 ⟨v1, R, n, rfl, ho, hu, hb⟩; have HB1 : BelC w w1 := ⟨hb⟩; have HO := Aside0.mk ho; have HRU := Aside0.mk hu; clear hb ho hu)
  go_ret2; exact ⟨_, R, n, by first | rfl | simp, HO.out, HRU.out, bw⟩
theorem rule_nil (A0 : Option Addr) (c0 : Nat) (a : List Rg) (w : World) (hl0 : a.length ≤ 8388608) (ha : ∀ r ∈ a, R32 r) (hr0 : Kd.C k41 w A0 a.length a) (hc0 : a.length ≤ c0) :
    Calls Tryz.prog 47 #[.int .i64 4, .slice A0 a.length c0, .slice none 0 0] w fun e w' => ∃ (v : Value) (R : List Rg) (n : Int), e = .returned (.tuple #[v, .int .i64 n]) ∧ Kd.R k41 41 w' w.heap.size (fun _ => True) v R ∧ Ruled 4 a [] R n ∧ Below w.heap.size w w' :=
  rule_run 4 (by decide) A0 c0 a none 0 [] w hl0 (by simp) ha (by simp) hr0 hc0 (Kd.R_reads' (Kd.R_nil k41 41 w w.heap.size (fun _ => True))).2.2 (Nat.le_refl 0)
def rawR : Rg := ⟨1114240, 1114367⟩
theorem one_row {g : Nat} {x : Rg} {W : World} (h : W.heap[g]? = some (.cells #[.int .i32 x.f0, .int .i32 x.f1] 41 (0, 0))) : Kd.C k41 W (some ⟨g, 0, none⟩) [x].length [x] := by
  refine ⟨rfl, by simp, fun _ => ⟨⟨g, 0, none⟩, rfl, fun j p hp => ?_⟩⟩
  match j, hp with
  | 0, hp =>
    obtain rfl := Option.some.inj hp; refine ⟨[.int .i32 x.f0, .int .i32 x.f1], rfl, Kd.K_of_M _ (k41_mkM W 0 (fun _ => True) x), fun i v hv => ?_⟩
    match i, hv with
    | 0, hv => obtain rfl := Option.some.inj hv; exact cell_of_row W g 0 _ _ _ h
    | 1, hv => obtain rfl := Option.some.inj hv; exact cell_of_row W g 1 _ _ _ h
    | i + 2, hv => simp at hv
  | j + 1, hp => simp at hp
theorem rule_raw (A0 : Option Addr) (c0 : Nat) (a : List Rg) (w : World) (g : Nat) (hg : w.heap[g]? = some (.cells #[.int .i32 1114240, .int .i32 1114367] 41 (0, 0))) (hl0 : a.length ≤ 8388608) (ha : ∀ r ∈ a, R32 r) (hr0 : Kd.C k41 w A0 a.length a) (hc0 : a.length ≤ c0) :
    Calls Tryz.prog 47 #[.int .i64 4, .slice A0 a.length c0, .slice (some ⟨g, 0, none⟩) 1 1] w fun e w' => ∃ (v : Value) (R : List Rg) (n : Int), e = .returned (.tuple #[v, .int .i64 n]) ∧ Kd.R k41 41 w' w.heap.size (fun _ => True) v R ∧ Ruled 4 a [rawR] R n ∧ Below w.heap.size w w' :=
  rule_run 4 (by decide) A0 c0 a (some ⟨g, 0, none⟩) 1 [rawR] w hl0 (by simp) ha (by simp [rawR, R32, I32]) hr0 hc0 (one_row (x := rawR) hg) (Nat.le_refl 1)
set_option maxHeartbeats 8000000 in
set_option maxRecDepth 100000 in
theorem refNot_run (A0 : Option Addr) (c0 : Nat) (a : List Rg) (w : World) (hl0 : a.length ≤ 8388608) (ha : ∀ r ∈ a, R32 r) (hr0 : Kd.C k41 w A0 a.length a) (hc0 : a.length ≤ c0) :
    Calls Tryz.prog 17 #[.slice A0 a.length c0] w fun e w' => ∃ (v : Value) (R : List Rg) (n : Int), e = .returned (.tuple #[v, .int .i64 n]) ∧ Kd.R k41 41 w' w.heap.size (fun _ => True) v R ∧ Ruled 4 a [] R n ∧ Below w.heap.size w w' := by
  have CC := Aside0.mk (rule_nil A0 c0 a w hl0 ha hr0 hc0); clear hl0 ha hr0 hc0; go_enter Tryz.func17, Tryz.ntmps17
  go_wp2_with (go_at_call 47; (with_reducible refine CC.out.mono ?_); rintro e w1 ⟨v1, R, n, rfl, ho, hu, hb⟩; have HB1 : BelC w w1 := ⟨hb⟩; have HO := Aside0.mk ho; have HRU := Aside0.mk hu; clear hb ho hu)
  go_ret2; exact ⟨_, R, n, by first | rfl | simp, HO.out, HRU.out, bw⟩
set_option maxHeartbeats 8000000 in
set_option maxRecDepth 100000 in
theorem refNotRunes_run (A0 : Option Addr) (c0 : Nat) (a : List Rg) (w : World) (hl0 : a.length ≤ 8388608) (ha : ∀ r ∈ a, R32 r) (hr0 : Kd.C k41 w A0 a.length a) (hc0 : a.length ≤ c0) :
    Calls Tryz.prog 18 #[.slice A0 a.length c0] w fun e w' => ∃ (v : Value) (R : List Rg) (n : Int), e = .returned (.tuple #[v, .int .i64 n]) ∧ Kd.R k41 41 w' w.heap.size (fun _ => True) v R ∧ Ruled 4 a [rawR] R n ∧ Below w.heap.size w w' := by
  have CC := Aside0.mk (rule_raw A0 c0 a (w.alloc (.cells #[.int .i32 1114240, .int .i32 1114367] 41 (0, 0))) w.heap.size (heap_new w _) hl0 ha (cl hr0) hc0); clear hl0 ha hr0 hc0; go_enter Tryz.func18, Tryz.ntmps18
  go_wp2_with (go_at_call 47; fail)
  go_at_call 47
  with_reducible refine CC.out.mono ?_
  rintro e w1 ⟨v1, R, n, rfl, ho, hu, hb⟩; have HB1 : BelC w w1 := below_al hb; have HO := Aside0.mk (Kd.R_lower ho (bz (w := w))); have HRU := Aside0.mk hu; clear hb ho hu
  go_wp2
  go_ret2; exact ⟨_, R, n, by first | rfl | simp, HO.out, HRU.out, bw⟩
end Go.Proofs.YtoggmegpodmfnaaGreatDoor.Q
namespace Go.Proofs.YtoggmegpodmfnaaGreatDoor.Q
open Go.RowKit Go.Proofs.YtoggmegpodmfnaaGreatDoorW.PrintWords Go.Proofs.YtoggmegpodmfnaaGreatDoorW.PrintLast Go.Proofs.YtoggmegpodmfnaaGreatDoorW.PrintMore Go.Proofs.YtoggmegpodmfnaaGreatDoor.PS Go.Proofs.YtoggmegpodmfnaaGreatDoor.B
set_option linter.unusedVariables false
set_option linter.unusedSimpArgs false
theorem num_iff {E E' : Nat → Nat → Prop} {m : Nat} {f : Nat → Int} {n : Int} (h : Num E m f n) (he : ∀ i j, i < m → j < m → (E i j ↔ E' i j)) : Num E' m f n :=
  ⟨fun i j hi hj => (h.eqv i j hi hj).trans (he i j hi hj), h.lt, h.fst, h.all⟩
def keyL (L : List (List Rg)) (x : Int) : List Bool := L.map fun l => mem l x
def pcAt (C : List Int) (j : Nat) : Int := ((pcs C).getD j ⟨0, 0⟩).f0
def NumL (L : List (List Rg)) (C : List Int) (i : Nat) (F : List Int) (n : Int) : Prop := Num (fun a b => keyL (L.take i) (pcAt C a) = keyL (L.take i) (pcAt C b)) (pcs C).length (fun j => rd F j) n
theorem keyL_succ {L : List (List Rg)} {i : Nat} {l : List Rg} (h : L[i]? = some l) (x : Int) : keyL (L.take (i + 1)) x = keyL (L.take i) x ++ [mem l x] := by
  unfold keyL; rw [List.take_add_one, h]; simp
theorem pcs_ne {C : List Int} (hC : Cuts C) : 0 < (pcs C).length := by
  obtain ⟨p, hp, _⟩ := pcs_of hC (x := 0) (by rw [isU_iff]; omega); exact List.length_pos_of_mem hp
theorem numL_zero (L : List (List Rg)) {C : List Int} (hC : Cuts C) : NumL L C 0 (List.replicate (pcs C).length 0) 1 := by
  have e : ∀ j : Nat, j < (pcs C).length → rd (List.replicate (pcs C).length 0) (j : Int) = 0 := fun j hj => by unfold rd; simp [hj]
  refine ⟨fun a b ha hb => ?_, fun a ha => ?_, fun a ha c h0 hc => ?_, fun c h0 hc => ⟨0, pcs_ne hC, ?_⟩⟩
  · show rd _ _ = rd _ _ ↔ _
    rw [e a ha, e b hb]
    simp [keyL]
  (· show 0 ≤ rd _ _ ∧ rd _ _ < 1; rw [e a ha]; omega); (· have hc : c < rd _ _ := hc; rw [e a ha] at hc; omega); (· show rd _ _ = c; rw [e 0 (pcs_ne hC)]; omega)
theorem rdOf_map {C : List Int} {g : Rg → Bool} {j : Nat} (hj : j < (pcs C).length) : rdOf false ((pcs C).map g) (j : Int) = g ((pcs C).getD j ⟨0, 0⟩) := by
  unfold rdOf; rw [Int.toNat_natCast, List.getD_eq_getElem?_getD, List.getElem?_map, List.getElem?_eq_getElem hj, List.getD_eq_getElem?_getD, List.getElem?_eq_getElem hj]; rfl
theorem numL_succ {L : List (List Rg)} {C : List Int} {i : Nat} {F G : List Int} {n n' : Int} {l : List Rg} (hl : L[i]? = some l) (hF : NumL L C i F n)
    (hG : Num (fun a b => kap F ((pcs C).map fun p => mem l p.f0) a = kap F ((pcs C).map fun p => mem l p.f0) b) (pcs C).length (fun j => rd G j) n') : NumL L C (i + 1) G n' := by
  refine num_iff hG (fun a b ha hb => ?_); have h := hF.eqv a b ha hb; rw [keyL_succ hl, keyL_succ hl]; unfold kap; rw [rdOf_map ha, rdOf_map hb]
  have e : ∀ (x y : Bool) (u v : Int), (2 * u + (if x = true then 1 else 0) = 2 * v + (if y = true then 1 else 0)) ↔ (u = v ∧ x = y) := fun x y u v => by
    cases x <;> cases y <;> simp <;> omega
  rw [e]; have h : (rd F a = rd F b) ↔ _ := h; rw [h]; constructor; (· rintro ⟨h1, h2⟩; rw [h1]; unfold pcAt; rw [h2]); (· intro h3; obtain ⟨h1, h2⟩ := List.append_inj' h3 rfl; exact ⟨h1, by simpa [pcAt] using h2⟩)
theorem info24_ : (Tryz.prog.info? 24).map (fun i => (i.zero, i.size, i.bytes)) = some (some (.slice none 0 0), 1, 24) := by kernel_rfl
theorem slice_zero (W : World) (base : Nat) (ok : Nat → Prop) : (Kd.slice 41 k41).M W base ok [] (Value.slice none 0 0).cells.toList := ⟨_, rfl, Kd.R_nil _ _ _ _ _⟩
theorem cls_zero (ps : List Rg) (f : Nat → Int) (n : Nat) : cls ps f 0 n = List.replicate n [] := by
  unfold cls gp
  simp [List.map_const']
theorem cls_succ {ps : List Rg} {f : Nat → Int} {j n c : Nat} {p : Rg} (hp : ps[j]? = some p) (hf : f j = (c : Int)) (hc : c < n) : cls ps f (j + 1) n = (cls ps f j n).set c (joinR ((cls ps f j n).getD c []) p) := by
  have hl : ∀ m, (cls ps f m n).length = n := fun m => by unfold cls; simp
  have hg : ∀ m k, k < n → (cls ps f m n)[k]? = some ((gp ps f (k : Int) m).foldl joinR []) := fun m k hk => by
    unfold cls; rw [List.getElem?_map, List.getElem?_range hk]; rfl
  refine List.ext_getElem? (fun k => ?_)
  by_cases hk : k < n
  · rw [hg _ k hk, List.getElem?_set, hl, List.getD_eq_getElem?_getD, hg j c hc, gp_succ]
    have hpd : ps.getD j ⟨0, 0⟩ = p := by rw [List.getD_eq_getElem?_getD, hp]; rfl
    by_cases e : c = k
    · subst e
      rw [if_pos rfl, if_pos hf, hpd]
      simp [hc]
    · rw [if_neg e, if_neg (by omega), hg j k hk]
  · rw [List.getElem?_eq_none (by rw [hl]; omega), List.getElem?_eq_none (by rw [List.length_set, hl]; omega)]
theorem key_pcs {L : List (List Rg)} {C : List Int} (hC : Cuts C) (he : ∀ l ∈ L, ∀ r ∈ l, r.f0 ∈ C ∧ r.f1 + 1 ∈ C) : ∀ p ∈ pcs C, ∀ x, p.f0 ≤ x → x ≤ p.f1 → keyL L x = keyL L p.f0 := fun p hp x h0 h1 => by
  unfold keyL; exact List.map_congr_left (fun l hl => pcs_same hC.asc (he l hl) hp h0 h1)
theorem numL_cls {L : List (List Rg)} {C : List Int} {F : List Int} {n : Nat} (h : NumL L C L.length F n) : Num (fun i j => keyL L ((pcs C).getD i ⟨0, 0⟩).f0 = keyL L ((pcs C).getD j ⟨0, 0⟩).f0) (pcs C).length (fun j => rd F j) n := by
  have h2 := h; unfold NumL at h2; rw [List.take_length] at h2; exact h2
theorem len_tot {L : List (List Rg)} {l : List Rg} (h : l ∈ L) : l.length ≤ totL L := by
  induction L with
  | nil => simp at h
  | cons x L ih =>
    simp only [totL, List.map_cons, List.sum_cons] at ih ⊢
    rcases List.mem_cons.1 h with e | h
    (· subst e; omega); (· have := ih h; omega)
theorem bzl' {W W2 : World} (h : BelC W W2) : W.heap.size ≤ W2.heap.size := h.out.size
theorem one_val {α : Type} {d : Kd α} {e base : Nat} {w : World} {ok : Nat → Prop} {v : Value} {xs : List α} (h : Kd.R d e w base ok v xs) : ∀ q ∈ [v], q.oneCell' = true := fun q hq => by
  obtain rfl : q = v := by simpa using hq
  exact (Kd.R_val h).2
theorem hole_cell {α : Type} {d : Kd α} {e g n cap base : Nat} {W : World} {ok oki : Nat → Prop} {xs : List α} {i : Nat} {u : Value} (h : Kd.H d e W base ok (.slice (some ⟨g, 0, none⟩) n cap) xs (i : Int) oki [u]) (hd : d.sz = 1) (hi : i < n) : W.cell? ⟨g, i, none⟩ = some u := by
  obtain ⟨_, _, _, _, _, hcc, _⟩ := Kd.H_raw h (Int.natCast_nonneg i) (by omega); have := hcc 0 u rfl; rw [Int.toNat_natCast, hd, Nat.mul_one, Nat.add_zero] at this; exact this
theorem cells17 {W : World} {aF a9 : Addr} {m f g n cap j : Nat} {F C : List Int} {p : Rg} {oki : Nat → Prop} {T : List (List Rg)} {vi : Value} {base : Nat} (hF : Kd.C (Kd.int .i64) W (some aF) m F) (h9 : Kd.C k63 W (some a9) m ((pcs C).map toP)) (hm : m = (pcs C).length) (hp : (pcs C)[j]? = some p) (hf : rd F j = (f : Int)) (hj : j < m)
    (hH : Kd.H (Kd.slice 41 k41) 24 W base (fun _ => True) (.slice (some ⟨g, 0, none⟩) n cap) T (f : Int) oki [vi]) (hfn : 0 ≤ (f : Int) ∧ (f : Int) < n) :
    W.cell? (aF.add j) = some (.int .i64 f) ∧ W.cell? ⟨g, f, none⟩ = some vi ∧ W.cell? (a9.add (j * 2)) = some (.int .i64 p.f0) ∧ W.cell? ⟨(a9.add (j * 2)).block, (a9.add (j * 2)).off + 1, none⟩ = some (.int .i64 p.f1) := by
  obtain ⟨a, e, h0⟩ := Kd.at_int hF (j : Int) (Int.natCast_nonneg j) (by omega)
  cases e
  rw [Int.toNat_natCast, hf] at h0; obtain ⟨b, e, h1, h2⟩ := piece_at h9 hp hm
  cases e
  exact ⟨h0, hole_cell hH rfl (by omega), h1, h2⟩
theorem cls_at {C : List Int} (hC : Cuts C) (f : Nat → Int) {m n c : Nat} (hm : m ≤ (pcs C).length) (hc : c < n) : Sound ((cls (pcs C) f m n).getD c []) ∧ ((cls (pcs C) f m n).getD c []).length ≤ m := by
  have e : (cls (pcs C) f m n).getD c [] = (gp (pcs C) f (c : Int) m).foldl joinR [] := by
    unfold cls; rw [List.getD_eq_getElem?_getD, List.getElem?_map, List.getElem?_range hc]; rfl
  have hl : (gp (pcs C) f (c : Int) m).length ≤ m := by
    unfold gp; rw [List.length_map]; exact Nat.le_trans (List.length_filter_le _ _) (by simp)
  obtain ⟨h1, _, h3⟩ := joins_ok (gp (pcs C) f (c : Int) m) [] ⟨by simp, List.Pairwise.nil⟩ (fun p hp => by
    obtain ⟨j, _, _, hj⟩ := (gp_in hm).1 hp
    exact pcs_ok hC p (List.mem_of_getElem? hj)) (gp_asc (pcs_asc C hC.asc) f c m hm) (by simp)
  rw [e]; exact ⟨h1, by simp only [List.length_nil, Nat.zero_add] at h3; omega⟩
section
variable {P : Program} {ops : Array Oper} {o : Oper} {a : Act} {Q : Exit → Act → World → Prop} {Kc : Act → World → Prop} {α : Type}
theorem H_store_step (d : Kd α) {w0 W : World} (base : Nat) (hw : Region.wanted o (yielded ops a.tmps) = true) (hN : o.dst = none) (t : TypeId) (p x : Operand) (ho : o.op = .store t p x) (e : TypeId) {g n cap o' : Nat} (i : Int) (j : Nat) (xs : List α) (x' : α) (u : Value) (seg c : List Value) (ok oki okp : Nat → Prop)
    (haddr : a.eval p = .pointer (some ⟨g, o', none⟩)) (hoff : o' = i.toNat * d.sz + j) (hx : a.eval x = u) (hu : u.cells.toList = seg) (ht : (P.info? t).map (·.size) = some seg.length) (hone : ∀ q ∈ seg, q.oneCell' = true)
    (HO : Kd.H d e W base ok (.slice (some ⟨g, 0, none⟩) n cap) xs i oki c) (h0 : 0 ≤ i) (hi : i < n)
    (hj : j + seg.length ≤ d.sz) (hM : d.M W base okp x' (c.take j ++ seg ++ c.drop (j + seg.length))) (hokp : ∀ k, okp k → oki k) (HB : Below base w0 W)
    (h : ∀ w1, Kd.S d e w1 base ok (.slice (some ⟨g, 0, none⟩) n cap) (xs.set i.toNat x') → Below base w0 w1 → W.grownBy w1 (some g) → Kc (a.put o.dst undef) w1) :
    if Region.wanted o (yielded ops a.tmps) = true then Oper.wp P o a W Kc Q else Kc (a.put o.dst undef) W := by
  subst hoff; obtain ⟨hH2, hg⟩ := Kd.H_seg HO h0 hi hj hone
  have hbg : base ≤ g := by
    obtain ⟨_, f, hR⟩ := HO; exact Kd.R_base hR g (by simp [Value.ownBlock])
  have hng : ∀ k, oki k → k ≠ g := by
    intro k hk he; subst he; obtain ⟨_, f, hR⟩ := HO; exact (hR.1 k (by simp [Value.ownBlock])).2 hk
  obtain ⟨rows, hrl, hraw, _, _, _, _⟩ := Kd.H_raw HO h0 hi; have hnx : n = rows.length := (Kd.R_reads' hraw).1; obtain ⟨_, inner, hown, hr⟩ := hraw
  have hil : i.toNat < n := by omega
  have hB : Below base w0 (W.setCells g (i.toNat * d.sz + j) seg) := HB.trans ⟨hg.os, hg.tape, hg.output, hg.size, fun k hk => by
    have hlt : k < W.heap.size ∨ W.heap.size ≤ k := Nat.lt_or_ge _ _
    rcases hlt with hlt | hge
    · exact hg.block k hlt (fun he => by injection he with he; omega)
    · exact setCells_far seg _ k (by omega)⟩
  have hrun : (Instr.storeAt t (.pointer (some ⟨g, i.toNat * d.sz + j, none⟩)) u).run P W = .ok () (W.setCells g (i.toNat * d.sz + j) seg) := by
    rcases hown.2 with ⟨hv, _⟩ | ⟨g', cap', cur, hv, hb, hh, hnc, hcm, hcs, _⟩
    · cases hv
    injection hv with ha _ hc; injection ha with ha; injection ha with hg'; subst hg'; subst hc; refine run_store_run t u seg hh hu ht ?_ hone
    have h2 : i.toNat * d.sz + d.sz ≤ n * d.sz := by rw [← Nat.succ_mul]; exact Nat.mul_le_mul_right _ hil
    have h3 : n * d.sz ≤ cap * d.sz := Nat.mul_le_mul_right _ (by omega)
    have hcs' : cap * d.sz = cur.size := by
      first | exact hcs.symm | exact hcs
    omega
  rw [if_pos hw]; unfold Oper.wp execOp; simp only [ho, haddr, hx, Sem.run_bind, Sem.run_pure, Result.andThen_ok, hrun]; show Kc (a.put o.dst undef) _; exact h _ (Kd.H_back hH2 (Kd.M_step hM (fun k hk hlt => hg.block k hlt (fun he => hng k (hokp k hk) (by injection he)))) hokp) hB hg
end
def p17_T : Bool × List (List Nat × List Nat) := (true, [([], []), ([], []), ([], []), ([1, 2], [1, 2]), ([3], [3]), ([], []), ([], []), ([], []), ([6, 7], [6, 7]), ([8], [8]), ([5, 9], [5, 9]), ([10], [10]), ([], []), ([], []), ([12, 13], [12, 13]), ([14], [14]), ([11, 15], [11, 15]), ([0, 4, 0, 1, 2, 3, 4, 5, 6, 7, 8, 9, 10, 11, 12, 13, 14, 15, 16], [0, 4]), ([17, 16, 16, 0, 1, 2, 3, 4, 5, 6, 7, 8, 9, 10, 11, 12, 13, 14, 15, 16], [16, 17])])
def p17_B : List Nat := [0, 0, 0, 6, 14, 0, 0, 0, 192, 448, 992, 2016, 0, 0, 12288, 28672, 65504, 31, 262143]
theorem p17_tab : rtab .any (opsOf Tryz.f22 17) = p17_T := by kernel_rfl
theorem p17_bits : waitsOk p17_T.2 p17_B = true := by kernel_rfl
theorem numL_lt {L : List (List Rg)} {C : List Int} {i : Nat} {F : List Int} {n : Nat} (h : NumL L C i F n) : ∀ j : Nat, j < (pcs C).length → 0 ≤ rd F j ∧ rd F j < n := h.lt
set_option maxHeartbeats 8000000 in
set_option maxRecDepth 100000 in
theorem refParts_run (A0 : Option Addr) (c0 : Nat) (L : List (List Rg)) (w : World) (hl : L.length ≤ 16777216) (ht : totL L ≤ 16777216) (hr : ∀ l ∈ L, ∀ r ∈ l, R32 r) (hr0 : Kd.C (Kd.slice 41 k41) w A0 L.length L) (hc0 : L.length ≤ c0) :
    Calls Tryz.prog 22 #[.slice A0 L.length c0] w fun e w' => ∃ (v : Value) (R : List (List Rg)) (n : Int), e = .returned (.tuple #[v, .int .i64 n]) ∧ Kd.S (Kd.slice 41 k41) 24 w' w.heap.size (fun _ => True) v R ∧
      ((n = 1 ∧ R = [] ∧ ∃ l ∈ L, ¬ Sound l) ∨ (n = 0 ∧ (∀ l ∈ L, Sound l) ∧ Classes (keyL L) R)) ∧ Below w.heap.size w w' := by
  have HR0 := Aside0.mk hr0; have HL := Aside0.mk (And.intro hl ht); have HC := Aside0.mk hc0; have HR := Aside0.mk hr; clear hr0 hl ht hr hc0; go_enter Tryz.func22, Tryz.ntmps22
  go_wp2
  go_loopw [4] (fun v4 wr => ∃ i : Nat, v4 = .int .i64 (i : Int) ∧ i ≤ L.length ∧ Aside0 (∀ l ∈ L.take i, Sound l) ∧ BelC w wr) (fun v4 _ => L.length - (intOf v4).toNat)
  case atStart => exact ⟨0, rfl, Nat.zero_le _, ⟨by simp⟩, inferInstance⟩
  case round =>
    obtain ⟨i, rfl, hi, HI, HB⟩ := hrel; obtain ⟨w2, rfl⟩ : ∃ x, x = wr := ⟨_, rfl⟩; have hlb := HL.out.1
    by_cases hlt : i < L.length
    · have d1 : decide (i < L.length) = true := decide_eq_true hlt
      obtain ⟨l, hl⟩ : ∃ l, L[i]? = some l := ⟨_, List.getElem?_eq_getElem hlt⟩; obtain ⟨aL, A2, c2, eL, h1, h2, h3⟩ := atLL (cl HR0.out : Kd.C (Kd.slice 41 k41) w2 A0 L.length L) i hlt hl; subst eL; have hm := List.mem_of_getElem? hl; have hln := len_tot hm; have CC := Aside0.mk (refCheck_run A2 c2 l w2 (by have := HL.out.2; omega) (HR.out l hm) h3); have p1 := eq_true (Int.natCast_nonneg i); have q1 := eq_true (show (i : Int) < (L.length : Int) by omega); have HLT := Aside0.mk hlt; have HX := Aside0.mk hl; have HWW := Aside0.mk (w64 (x := (i : Int) + 1) (m := i + 1) (by omega) (by omega)); clear hl hlt hlb hi hm hln h2 h3
      by_cases hs : Sound l
      · rw [if_pos hs] at CC
        have HN := Aside0.mk (show ∀ r ∈ L.take (i + 1), Sound r from fun r hr => by
          rw [List.take_add_one, HX.out] at hr
          rcases List.mem_append.1 hr with h | h
          · exact HI.out r h
          · obtain rfl : r = l := by simpa using h
            exact hs)
        clear hs
        go_wp2_with (go_at_call 13; (with_reducible refine CC.out.mono ?_); rintro e w3 ⟨rfl, hb⟩; have HB3 : BelC w w3 := bs hb; clear hb h1)
        exact ⟨⟨i + 1, by rw [HWW.out], HLT.out, HN, inferInstance⟩, by rw [HWW.out]; exact measLo HLT.out (s := 1) (Nat.le_refl _) rfl⟩
      · rw [if_neg hs] at CC
        have HN := Aside0.mk (show ∃ r ∈ L, ¬ Sound r from ⟨l, List.mem_of_getElem? HX.out, hs⟩); clear hs
        go_wp2_with (go_at_call 13; (with_reducible refine CC.out.mono ?_); rintro e w3 ⟨rfl, hb⟩; have HB3 : BelC w w3 := bs hb; clear hb h1)
        go_ret2; exact ⟨_, [], 1, by first | rfl | simp, Kd.S_nil _ _ _ _ _, .inl ⟨rfl, rfl, HN.out⟩, bw⟩
    · have d1 : decide (i < L.length) = false := decide_eq_false hlt
      have HS := Aside0.mk (show ∀ l ∈ L, Sound l from by
        have h := HI.out; rw [List.take_of_length_le (by omega)] at h
        exact h)
      clear hlt hlb hi HI
      go_wp2_with (first
        | (go_at_call 38; (with_reducible refine (pieces_run A0 c0 L w2 HL.out.1 HL.out.2 HR.out (cl HR0.out) HC.out).mono ?_); rintro e w3 ⟨v9, C, rfl, ho, hcs, hcm, hln, hb⟩; have HB3 : BelC w w3 := bs hb; obtain ⟨A9, c9, rfl, hc9, hC9⟩ := Kd.R_reads ho; rw [List.length_map] at *; have H9 := Aside0.mk (And.intro hc9 hC9); have HCU := Aside0.mk (cuts_of hcs hcm); have HEN := Aside0.mk (fun (l : List Rg) (h : l ∈ L) => ends_in hcm h); have HLN := Aside0.mk (Nat.le_trans (pcs_len C) hln); clear ho hcs hcm hln hb hc9 hC9)
        | ((with_reducible refine gate_dst (N := 27) rfl ?_); refine Kd.R_make (Kd.int .i64) (w0 := w3) w3.heap.size 3 rfl (N := 27) rfl 83 _ _ rfl ((pcs C).length : Int) rfl rfl Tryz.underlying83 (.int .i64 0) 8 info3_ rfl (by decide) (by omega) 0 (ok := fun _ => True) (okp := fun _ => False) rfl (fun _ hk => hk.elim) trivial (Int.natCast_nonneg _) (by rw [Int.toNat_natCast]; have := HLN.out; omega) bw bz ?_; intro v6 w4 ho hb hg hnew; have HB34 : BelC w3 w4 := ⟨hb⟩; have HB4 : BelC w w4 := bs (below_step HB34.out (Below.refl _ _)); obtain ⟨A6, c6, rfl, hc6, hC6⟩ := Kd.R_reads ho; rw [Int.toNat_natCast, List.length_replicate] at *; have H6 := Aside0.mk hC6; clear ho hb hg hnew hc6 hC6))
      obtain ⟨m, hm⟩ : ∃ m, m = (pcs C).length := ⟨_, rfl⟩; have HM := Aside0.mk hm; have HZ := Aside0.mk (numL_zero L HCU.out); rw [← hm] at H9 HLN H6 HZ ⊢; clear hm
      go_loopw [6, 7, 8] (fun v6 v7 v8 wr => ∃ (k n : Nat) (F : List Int) (A : Option Addr) (c : Nat), v6 = .slice A m c ∧ v7 = .int .i64 (n : Int) ∧ v8 = .int .i64 (k : Int) ∧ Aside0 (k ≤ L.length ∧ NumL L C k F n ∧ n ≤ 67108864) ∧ Aside0 (Kd.C (Kd.int .i64) wr A m F) ∧ BelC w4 wr) (fun _ _ v8 _ => L.length - (intOf v8).toNat)
      case atStart => exact ⟨0, 1, _, A6, c6, rfl, rfl, rfl, ⟨Nat.zero_le _, HZ.out, by omega⟩, H6, inferInstance⟩
      case round =>
        obtain ⟨k, n, F, AF, cF, rfl, rfl, rfl, HK, HF, HBr⟩ := hrel; obtain ⟨w5, rfl⟩ : ∃ x, x = wr := ⟨_, rfl⟩; have HBw5 : BelC w w5 := ⟨below_step HB4.out HBr.out⟩; have HB35 : BelC w3 w5 := ⟨below_step HB34.out HBr.out⟩; have hlb := HL.out.1
        by_cases hlt : k < L.length
        · have d1 : decide (k < L.length) = true := decide_eq_true hlt
          obtain ⟨l, hl⟩ : ∃ l, L[k]? = some l := ⟨_, List.getElem?_eq_getElem hlt⟩; obtain ⟨aL, A2, c2, eL, h1, h2, h3⟩ := atLL (cl HR0.out : Kd.C (Kd.slice 41 k41) w5 A0 L.length L) k hlt hl; subst eL; have hml := List.mem_of_getElem? hl; have hln := len_tot hml; have CC := Aside0.mk (inside_run A2 c2 l A9 c9 (pcs C) w5 (by have := HL.out.2; omega) (by have := HLN.out; have := HM.out; omega) (HS.out l hml).r32 (sound_le (HS.out l hml)) (pcs_f0 HCU.out.asc) h3 h2 (by rw [← HM.out]; exact cl H9.out.2) (by rw [← HM.out]; exact H9.out.1)); rw [← HM.out] at CC; have p1 := eq_true (Int.natCast_nonneg k); have q1 := eq_true (show (k : Int) < (L.length : Int) by omega); have HLT := Aside0.mk hlt; have HX := Aside0.mk hl; have HWW := Aside0.mk (w64 (x := (k : Int) + 1) (m := k + 1) (by omega) (by omega)); clear hl hlt hlb hml hln h2 h3
          go_wp2_with (first
            | (go_at_call 39; (with_reducible refine CC.out.mono ?_); rintro e w6 ⟨v9, rfl, ho, hb⟩; have HB56 : BelC w5 w6 := ⟨hb⟩; have HB6 : BelC w w6 := bs hb; have HB46 : BelC w4 w6 := bs hb; obtain ⟨A7, c7, rfl, hc7, hC7⟩ := Kd.R_reads ho; rw [List.length_map, ← HM.out] at hC7 ⊢; have H7 := Aside0.mk hC7; clear ho hb hc7 hC7 h1)
            | (go_at_call 49; (with_reducible refine (cut_run m n AF cF F A7 c7 ((pcs C).map fun p => mem l p.f0) w6 (by have := HLN.out; omega) HK.out.2.2 (by rw [HM.out]; exact numL_lt HK.out.2.1) (cl HF.out) H7.out).mono ?_); rintro e w7 ⟨v9, G, n2, rfl, ho, hgl, hn0, hnm, hnum, hb⟩; have HB7 : BelC w4 w7 := bs hb; obtain ⟨A8, c8, rfl, hc8, hC8⟩ := Kd.R_reads ho; rw [hgl] at hC8 ⊢; have H8 := Aside0.mk hC8; have HN := Aside0.mk (And.intro hn0 (And.intro hnm hnum)); clear ho hb hc8 hC8 hgl hn0 hnm hnum))
          have hn2 := HN.out; obtain ⟨n3, rfl⟩ : ∃ n3 : Nat, n2 = (n3 : Int) := ⟨n2.toNat, by omega⟩; exact ⟨⟨k + 1, n3, G, A8, c8, rfl, rfl, by rw [HWW.out], ⟨HLT.out, numL_succ HX.out HK.out.2.1 (by rw [← HM.out]; exact hn2.2.2), by have := HLN.out; omega⟩, H8, inferInstance⟩, by rw [HWW.out]; exact measLo HLT.out (s := 1) (Nat.le_refl _) rfl⟩
        · have d1 : decide (k < L.length) = false := decide_eq_false hlt
          have HNL := Aside0.mk (show NumL L C L.length F n from by
            have h := HK.out.2.1; rw [show k = L.length by have := HK.out.1; omega] at h
            exact h)
          clear hlt hlb; have HN0 := Aside0.mk HK.out.2.2; clear HK
          go_wp2_with ((with_reducible refine gate_dst (N := 47) rfl ?_); refine Kd.S_make (Kd.slice 41 k41) (w0 := w5) w5.heap.size 24 rfl (N := 47) rfl 25 _ _ rfl (n : Int) rfl rfl Tryz.underlying25 (.slice none 0 0) 24 info24_ rfl (by decide) (by omega) [] (ok := fun _ => True) (okp := fun _ => False) (slice_zero _ _ _) (fun _ hk => hk.elim) trivial (Int.natCast_nonneg _) (by rw [Int.toNat_natCast]; have := HN0.out; omega) bw bz ?_; intro v9 w6 ho hb hg hnew; have HB56 : BelC w5 w6 := ⟨hb⟩; have HT := Aside0.mk ho; clear ho hb hg hnew)
          go_loopw [10] (fun v10 wr => ∃ k : Nat, v10 = .int .i64 (k : Int) ∧ k ≤ m ∧ Aside0 (Kd.S (Kd.slice 41 k41) 24 wr w5.heap.size (fun _ => True) v9 (cls (pcs C) (fun j => rd F j) k n)) ∧ BelC w5 wr) (fun v10 _ => m - (intOf v10).toNat)
          case atStart => exact ⟨0, rfl, Nat.zero_le _, ⟨by have h := HT.out; rw [Int.toNat_natCast] at h; rw [cls_zero]; exact h⟩, inferInstance⟩
          case round =>
            obtain ⟨j, rfl, hj, HTJ, HBj⟩ := hrel; obtain ⟨w8, rfl⟩ : ∃ x, x = wr := ⟨_, rfl⟩; have hlb := HLN.out
            by_cases hlt : j < m
            · have d1 : decide (j < m) = true := decide_eq_true hlt
              have hfj := numL_lt HNL.out j (by rw [← HM.out]; exact hlt); obtain ⟨f, hf⟩ : ∃ f : Nat, rd F j = (f : Int) := ⟨(rd F j).toNat, by omega⟩; rw [hf] at hfj; obtain ⟨aF, eF, hcf⟩ := Kd.at_int (cl HF.out : Kd.C (Kd.int .i64) w8 AF m F) (j : Int) (Int.natCast_nonneg j) (by omega); rw [Int.toNat_natCast, hf] at hcf; subst eF; have HB38 : BelC w3 w8 := ⟨below_step HB35.out HBj.out⟩; obtain ⟨p, hp⟩ : ∃ p, (pcs C)[j]? = some p := ⟨_, List.getElem?_eq_getElem (by rw [← HM.out]; exact hlt)⟩; obtain ⟨a9, e9, hp0, hp1⟩ := piece_at (cl H9.out.2 : Kd.C k63 w8 A9 m ((pcs C).map toP)) hp HM.out; subst e9; obtain ⟨T, hT⟩ : ∃ T, T = cls (pcs C) (fun j => rd F j) j n := ⟨_, rfl⟩
              have htl : T.length = n := by rw [hT]; unfold cls; simp
              rw [← hT] at HTJ; obtain ⟨g, cap, e10, _, _⟩ := Kd.R_form (Kd.S_R HTJ.out) (by rw [htl]; omega); rw [htl] at e10; have hs := HTJ.out; rw [e10] at hs; obtain ⟨oki, c, hcl, hM, hcc, hok, hH⟩ := Kd.S_lend hs ([] : List Rg) (f : Int) (Int.natCast_nonneg f) (by omega); obtain ⟨vi, rfl, hRi⟩ : ∃ vi, c = [vi] ∧ Kd.R k41 41 w8 w5.heap.size oki vi (T.getD (f : Int).toNat []) := hM
              have hcv : w8.cell? ⟨g, f, none⟩ = some vi := by
                have h := hcc 0 vi rfl; rw [Int.toNat_natCast] at h; have e : (f * (Kd.slice 41 k41).sz + 0 : Nat) = f := Nat.mul_one f; rw [e] at h; exact h
              have p1 := eq_true (Int.natCast_nonneg j); have q1 := eq_true (show (j : Int) < (m : Int) by omega); have p2 := eq_true (Int.natCast_nonneg f); have q2 := eq_true (show (f : Int) < (n : Int) by omega); have HFC := Aside0.mk (And.intro hfj (And.intro hf (And.intro hT htl))); have HH := Aside0.mk (And.intro hH (And.intro hRi hok)); have HLT := Aside0.mk hlt; have HP := Aside0.mk hp; have HWW := Aside0.mk (w64 (x := (j : Int) + 1) (m := j + 1) (by omega) (by omega)); clear hlt hlb hj hf hfj hp hT htl hs hcl hcc hok hH hRi HTJ; subst e10
              go_wp2
              refine start_ (n := 19) (S := fun w' => w'.cell? (aF.add j) = some (.int .i64 f) ∧ w'.cell? ⟨g, f, none⟩ = some vi ∧ w'.cell? (a9.add (j * 2)) = some (.int .i64 p.f0) ∧ w'.cell? ⟨(a9.add (j * 2)).block, (a9.add (j * 2)).off + 1, none⟩ = some (.int .i64 p.f1)) (ds := [18]) (bA 19 0) (by kernel_rfl) rfl rfl ⟨hcf, hcv, hp0, hp1⟩ (fun hHeld => ?_); refine with_tabW p17_tab p17_bits (fun HT_ HW_ => ?_); obtain ⟨wD, hwD⟩ : ∃ x, x = World.drew (w8) := ⟨_, rfl⟩; rw [← hwD] at hHeld ⊢
              have HB5D : BelC w5 wD := by rw [hwD]; infer_instance
              have HHD := Aside0.mk (show Kd.H (Kd.slice 41 k41) 24 wD w5.heap.size (fun _ => True) (.slice (some ⟨g, 0, none⟩) n cap) T (f : Int) oki [vi] by rw [hwD]; exact Kd.H_drew HH.out.1); have HRD := Aside0.mk (show Kd.R k41 41 wD w5.heap.size oki vi (T.getD (f : Int).toNat []) by rw [hwD]; exact Kd.R_drew HH.out.2.1); have HSR := Aside0.mk (show (∀ r ∈ T.getD (f : Int).toNat [], R32 r) ∧ R32 p ∧ (T.getD (f : Int).toNat []).length ≤ 67108864 from by have h := cls_at HCU.out (fun j => rd F j) (m := j) (n := n) (c := f) (by have := HLT.out; have := HM.out; omega) (by have := HFC.out.1; omega); rw [Int.toNat_natCast, HFC.out.2.2.1]; exact ⟨h.1.r32, okR_r32 (pcs_ok HCU.out p (List.mem_of_getElem? HP.out)), by have := h.2; have := HLT.out; have := HLN.out; omega⟩); clear hwD; refine pure_ (i := 0) (N := some 54) (v := ?_) (a' := ?_) (bA 19 1) rfl rfl (any_of HT_.out (by kernel_rfl)) (fun _ _ _ h => h) (Or.inl ⟨by rfl, ?_⟩) ?_ ?_; rotate_left
              · (intro w'; go_simp; with_reducible rfl)
              rotate_left
              · (simp only [Act.put, List.setIfInBounds_toArray, List.set_cons_zero, List.set_cons_succ, i64_w, i32_w]; rfl)
              refine pure_ (i := 1) (N := some 55) (v := ?_) (a' := ?_) (bA 19 3) rfl rfl (any_of HT_.out (by kernel_rfl)) (fun _ _ _ h => h) (Or.inl ⟨by rfl, ?_⟩) ?_ ?_; rotate_left
              · (intro w'; go_simp; with_reducible rfl)
              rotate_left
              · (simp only [Act.put, List.setIfInBounds_toArray, List.set_cons_zero, List.set_cons_succ, i64_w, i32_w]; rfl)
              refine pure_ (i := 2) (N := some 56) (v := ?_) (a' := ?_) (bA 19 7) rfl rfl (any_of HT_.out (by kernel_rfl)) (fun _ _ _ h => h) (Or.inl ⟨by rfl, ?_⟩) ?_ ?_; rotate_left
              · (intro w'; go_simp; with_reducible rfl)
              rotate_left
              · (simp only [Act.put, List.setIfInBounds_toArray, List.set_cons_zero, List.set_cons_succ, i64_w, i32_w]; rfl)
              refine pure_ (i := 3) (N := some 57) (v := ?_) (a' := ?_) (bA 19 15) rfl rfl (any_of HT_.out (by kernel_rfl)) (fun _ _ _ h => h) (Or.inl ⟨by rfl, ?_⟩) ?_ ?_; rotate_left
              · (intro w'; go_simp; with_reducible rfl)
              rotate_left
              · (simp only [Act.put, List.setIfInBounds_toArray, List.set_cons_zero, List.set_cons_succ, i64_w, i32_w]; rfl)
              refine take_ (i := 4) (N := some 58) (v := ?_) (a' := ?_) (bA 19 31) rfl rfl (take_ofW HT_.out HW_.out (by kernel_rfl)) (fun _ _ _ h => h) (Or.inl ⟨by rfl, ?_⟩) hHeld ?_ ?_; rotate_left
              · (rintro w' ⟨s0, s1, s2, s3⟩; go_simp; with_reducible rfl)
              rotate_left
              · (simp only [Act.put, List.setIfInBounds_toArray, List.set_cons_zero, List.set_cons_succ, i64_w, i32_w]; rfl)
              refine pure_ (i := 5) (N := some 59) (v := ?_) (a' := ?_) (bA 19 63) rfl rfl (any_of HT_.out (by kernel_rfl)) (fun _ _ _ h => h) (Or.inl ⟨by rfl, ?_⟩) ?_ ?_; rotate_left
              · (intro w'; go_simp; with_reducible rfl)
              rotate_left
              · (simp only [Act.put, List.setIfInBounds_toArray, List.set_cons_zero, List.set_cons_succ, i64_w, i32_w]; rfl)
              refine pure_ (i := 6) (N := some 60) (v := ?_) (a' := ?_) (bA 19 127) rfl rfl (any_of HT_.out (by kernel_rfl)) (fun _ _ _ h => h) (Or.inl ⟨by rfl, ?_⟩) ?_ ?_; rotate_left
              · (intro w'; go_simp; with_reducible rfl)
              rotate_left
              · (simp only [Act.put, List.setIfInBounds_toArray, List.set_cons_zero, List.set_cons_succ, i64_w, i32_w]; rfl)
              refine pure_ (i := 7) (N := some 61) (v := ?_) (a' := ?_) (bA 19 255) rfl rfl (any_of HT_.out (by kernel_rfl)) (fun _ _ _ h => h) (Or.inl ⟨by rfl, ?_⟩) ?_ ?_; rotate_left
              · (intro w'; go_simp; with_reducible rfl)
              rotate_left
              · (simp only [Act.put, List.setIfInBounds_toArray, List.set_cons_zero, List.set_cons_succ, i64_w, i32_w]; rfl)
              refine pure_ (i := 8) (N := some 62) (v := ?_) (a' := ?_) (bA 19 511) rfl rfl (any_of HT_.out (by kernel_rfl)) (fun _ _ _ h => h) (Or.inl ⟨by rfl, ?_⟩) ?_ ?_; rotate_left
              · (intro w'; go_simp; with_reducible rfl)
              rotate_left
              · (simp only [Act.put, List.setIfInBounds_toArray, List.set_cons_zero, List.set_cons_succ, i64_w, i32_w]; rfl)
              refine take_ (i := 9) (N := some 63) (v := ?_) (a' := ?_) (bA 19 1023) rfl rfl (take_ofW HT_.out HW_.out (by kernel_rfl)) (fun _ _ _ h => h) (Or.inl ⟨by rfl, ?_⟩) hHeld ?_ ?_; rotate_left
              · (rintro w' ⟨s0, s1, s2, s3⟩; go_simp; with_reducible rfl)
              rotate_left
              · (simp only [Act.put, List.setIfInBounds_toArray, List.set_cons_zero, List.set_cons_succ, i64_w, i32_w]; rfl)
              refine pure_ (i := 10) (N := some 64) (v := ?_) (a' := ?_) (bA 19 2047) rfl rfl (any_of HT_.out (by kernel_rfl)) (fun _ _ _ h => h) (Or.inl ⟨by rfl, ?_⟩) ?_ ?_; rotate_left
              · (intro w'; go_simp; with_reducible rfl)
              rotate_left
              · (simp only [Act.put, List.setIfInBounds_toArray, List.set_cons_zero, List.set_cons_succ, i64_w, i32_w]; rfl)
              refine take_ (i := 11) (N := some 65) (v := ?_) (a' := ?_) (bA 19 4095) rfl rfl (take_ofW HT_.out HW_.out (by kernel_rfl)) (fun _ _ _ h => h) (Or.inl ⟨by rfl, ?_⟩) hHeld ?_ ?_; rotate_left
              · (rintro w' ⟨s0, s1, s2, s3⟩; go_simp; with_reducible rfl)
              rotate_left
              · (simp only [Act.put, List.setIfInBounds_toArray, List.set_cons_zero, List.set_cons_succ, i64_w, i32_w]; rfl)
              refine pure_ (i := 12) (N := some 66) (v := ?_) (a' := ?_) (bA 19 8191) rfl rfl (any_of HT_.out (by kernel_rfl)) (fun _ _ _ h => h) (Or.inl ⟨by rfl, ?_⟩) ?_ ?_; rotate_left
              · (intro w'; go_simp; with_reducible rfl)
              rotate_left
              · (simp only [Act.put, List.setIfInBounds_toArray, List.set_cons_zero, List.set_cons_succ, i64_w, i32_w]; rfl)
              refine pure_ (i := 13) (N := some 67) (v := ?_) (a' := ?_) (bA 19 16383) rfl rfl (any_of HT_.out (by kernel_rfl)) (fun _ _ _ h => h) (Or.inl ⟨by rfl, ?_⟩) ?_ ?_; rotate_left
              · (intro w'; go_simp; with_reducible rfl)
              rotate_left
              · (simp only [Act.put, List.setIfInBounds_toArray, List.set_cons_zero, List.set_cons_succ, i64_w, i32_w]; rfl)
              refine pure_ (i := 14) (N := some 68) (v := ?_) (a' := ?_) (bA 19 32767) rfl rfl (any_of HT_.out (by kernel_rfl)) (fun _ _ _ h => h) (Or.inl ⟨by rfl, ?_⟩) ?_ ?_; rotate_left
              · (intro w'; go_simp; with_reducible rfl)
              rotate_left
              · (simp only [Act.put, List.setIfInBounds_toArray, List.set_cons_zero, List.set_cons_succ, i64_w, i32_w]; rfl)
              refine take_ (i := 15) (N := some 69) (v := ?_) (a' := ?_) (bA 19 65535) rfl rfl (take_ofW HT_.out HW_.out (by kernel_rfl)) (fun _ _ _ h => h) (Or.inl ⟨by rfl, ?_⟩) hHeld ?_ ?_; rotate_left
              · (rintro w' ⟨s0, s1, s2, s3⟩; go_simp; with_reducible rfl)
              rotate_left
              · (simp only [Act.put, List.setIfInBounds_toArray, List.set_cons_zero, List.set_cons_succ, i64_w, i32_w]; rfl)
              refine one_ (i := 16) (N := some 70) (bA 19 131071) rfl rfl (one_of HT_.out (by kernel_rfl)) (by decide) (fun K hK => ?_); refine goes_ Tryz.func40 (by kernel_rfl) rfl #[vi, .agg #[.int .i64 p.f0, .int .i64 p.f1]] (by rfl) rfl rfl (by (try simp only [List.map_toArray, List.map_cons, List.map_nil]); first | done | rfl) ?_; refine (join_kept wD w5.heap.size (bzl' HB5D) oki vi _ p HRD.out HSR.out.1 HSR.out.2.1 HSR.out.2.2).mono ?_; rintro e w9 ⟨v9', rfl, hR9, hg9, hb9⟩; refine ⟨_, rfl, ?_⟩; have HB59 : BelC w5 w9 := ⟨HB5D.out.trans hb9⟩; have HB39 : BelC w3 w9 := ⟨below_step HB35.out HB59.out⟩; have HR9 := Aside0.mk hR9; have HH9 := Aside0.mk (Kd.H_grown (Kd.H_widen HHD.out) hg9 (fun k hk => .inl (HRD.out.1 k hk))); clear hR9 hg9 hb9; refine hK.out _ _ (cells17 (cl HF.out) (cl H9.out.2) HM.out HP.out HFC.out.2.1 HLT.out HH9.out HFC.out.1) (fun hHeld => ?_); clear hK K; refine norm_ (a' := ?_) ?_ ?_; rotate_left
              · (show Act.put _ (some 70) _ = _; simp only [Act.put, List.setIfInBounds_toArray, List.set_cons_zero, List.set_cons_succ, i64_w, i32_w]; rfl)
              refine pure_ (i := 17) (N := some 71) (v := ?_) (a' := ?_) (bA 19 262143) rfl rfl (any_of HT_.out (by kernel_rfl)) (fun _ _ _ h => h) (Or.inl ⟨by rfl, ?_⟩) ?_ ?_; rotate_left
              · (intro w'; go_simp; with_reducible rfl)
              rotate_left
              · (simp only [Act.put, List.setIfInBounds_toArray, List.set_cons_zero, List.set_cons_succ, i64_w, i32_w]; rfl)
              refine last_ (i := 18) (N := none) (bA 19 524287) rfl rfl (one_of HT_.out (by kernel_rfl)) (by decide) (fun K hK => ?_); refine H_store_step (Kd.slice 41 k41) (w0 := w5) w5.heap.size (by rfl) rfl 24 (.tmp 71) (.tmp 70) rfl 24 (f : Int) 0 T (joinR (T.getD (f : Int).toNat []) p) v9' [v9'] [vi] (fun _ => True) _ (fun k => oki k ∨ wD.heap.size ≤ k) rfl (by simp [Kd.slice]) rfl (Kd.R_val HR9.out).1 (by kernel_rfl) (one_val HR9.out) HH9.out (Int.natCast_nonneg f) (by have := HFC.out.1; omega) (by simp [Kd.slice]) ⟨v9', rfl, HR9.out⟩ (fun k hk => hk.imp id (fun h => ⟨trivial, h⟩)) HB59.out ?_; intro w10 ho hb hg; have HB10 : BelC w5 w10 := ⟨hb⟩; have HT10 := Aside0.mk ho; clear ho hb hg; refine hK.out _ _ ?_; clear hK K; refine norm_ (a' := ?_) ?_ ?_; rotate_left
              · (show Act.put _ (none) _ = _; simp only [Act.put, List.setIfInBounds_toArray, List.set_cons_zero, List.set_cons_succ, i64_w, i32_w]; rfl)
              refine done_ (done_of HT_.out (by kernel_rfl)) ?_
              go_wp2
              exact ⟨⟨j + 1, by rw [HWW.out], HLT.out, ⟨by rw [cls_succ HP.out HFC.out.2.1 (by have := HFC.out.1; omega), ← HFC.out.2.2.1]; have h := HT10.out; rw [Int.toNat_natCast] at h; exact h⟩, HB10⟩, by rw [HWW.out]; exact measLo HLT.out (s := 1) (Nat.le_refl _) rfl⟩
            · have d1 : decide (j < m) = false := decide_eq_false hlt
              have HJ := Aside0.mk (show j = m by omega); clear hlt hlb hj
              go_wp2
              go_ret2; have h := HTJ.out; have hc := cls_ok (key := keyL L) HCU.out (key_pcs HCU.out HEN.out) (numL_cls HNL.out); rw [HJ.out, HM.out] at h; exact ⟨_, _, 0, by first | rfl | simp, Kd.S_lower h HBw5.out.size, .inr ⟨rfl, HS.out, hc⟩, below_step HBw5.out HBj.out⟩
end Go.Proofs.YtoggmegpodmfnaaGreatDoor.Q
namespace Go.Proofs.YtoggmegpodmfnaaGreatDoor.Q
open Go.RowKit Go.Proofs.YtoggmegpodmfnaaGreatDoorW.PrintWords Go.Proofs.YtoggmegpodmfnaaGreatDoorW.PrintLast Go.Proofs.YtoggmegpodmfnaaGreatDoorW.PrintMore Go.Proofs.YtoggmegpodmfnaaGreatDoor.PS Go.Proofs.YtoggmegpodmfnaaGreatDoor.B
set_option linter.unusedVariables false
set_option linter.unusedSimpArgs false
theorem sz_take {l : List Rg} {i : Nat} {x : Rg} (h : l[i]? = some x) : sz (l.take (i + 1)) = sz (l.take i) + (x.f1 - x.f0 + 1) := by
  rw [List.take_add_one, h, sz_app]; simp [sz]
theorem sz_drop {l : List Rg} {i : Nat} {x : Rg} (h : l[i]? = some x) : sz (l.drop i) = (x.f1 - x.f0 + 1) + sz (l.drop (i + 1)) := by
  obtain ⟨hi, e⟩ := List.getElem?_eq_some_iff.1 h; rw [List.drop_eq_getElem_cons hi, sz_cons, e]
theorem sound_take {l : List Rg} (h : Sound l) (i : Nat) : Sound (l.take i) := ⟨fun r hr => h.1 r (List.mem_of_mem_take hr), h.2.sublist (List.take_sublist _ _)⟩
theorem sound_drop {l : List Rg} (h : Sound l) (i : Nat) : Sound (l.drop i) := ⟨fun r hr => h.1 r (List.mem_of_mem_drop hr), h.2.sublist (List.drop_sublist _ _)⟩
theorem wq64 {x : Int} (h : -9223372036854775808 ≤ x ∧ x ≤ 9223372036854775807) : IntKind.i64.wrap x = x := (i64_w _).trans (w64i h)
set_option maxHeartbeats 8000000 in
set_option maxRecDepth 100000 in
theorem refSize_run (A0 : Option Addr) (c0 : Nat) (l : List Rg) (w : World) (hl : l.length ≤ 67108864) (hr : ∀ r ∈ l, R32 r) (hr0 : Kd.C k41 w A0 l.length l) :
    Calls Tryz.prog 20 #[.slice A0 l.length c0] w fun e w' => ∃ n m : Int, e = .returned (.tuple #[.int .i64 n, .int .i64 m]) ∧ ((Sound l ∧ n = sz l ∧ m = 0) ∨ (¬ Sound l ∧ n = 0 ∧ m = 1)) ∧ Below w.heap.size w w' := by
  have HR0 := Aside0.mk hr0; have HL := Aside0.mk hl; have cc := refCheck_run A0 c0 l w hl hr hr0
  by_cases hs : Sound l
  · rw [if_pos hs] at cc
    have HS := Aside0.mk hs; have CC := Aside0.mk cc; clear hr0 hl hr hs cc; go_enter Tryz.func20, Tryz.ntmps20
    go_wp2_with (go_at_call 13; (with_reducible refine CC.out.mono ?_); rintro e w1 ⟨rfl, hb⟩; have HB1 : BelC w w1 := ⟨hb⟩; clear hb)
    go_loopw [4, 5] (fun v4 v5 wr => ∃ (i : Nat) (s : Int), v4 = .int .i64 s ∧ v5 = .int .i64 (i : Int) ∧ i ≤ l.length ∧ Aside0 (s = sz (l.take i)) ∧ BelC w wr) (fun _ v5 _ => l.length - (intOf v5).toNat)
    case atStart => exact ⟨0, 0, rfl, rfl, Nat.zero_le _, ⟨by simp [sz]⟩, inferInstance⟩
    case round =>
      obtain ⟨i, s, rfl, rfl, hi, HI, HB⟩ := hrel; obtain ⟨w2, rfl⟩ : ∃ x, x = wr := ⟨_, rfl⟩; have hlb := HL.out
      by_cases hlt : i < l.length
      · have d1 : decide (i < l.length) = true := decide_eq_true hlt
        obtain ⟨x, hx⟩ : ∃ x, l[i]? = some x := ⟨_, List.getElem?_eq_getElem hlt⟩; obtain ⟨a1, e1, h0, h1⟩ := at_T41 (cl HR0.out : Kd.C k41 w2 A0 l.length l) (i : Int) (Int.natCast_nonneg i) (by omega); subst e1
        have hrd : rd_T41 l (i : Int) = x := by unfold rd_T41; rw [Int.toNat_natCast, List.getD_eq_getElem?_getD, hx]; rfl
        rw [hrd, Int.toNat_natCast] at h0 h1; have hok := HS.out.1 x (List.mem_of_getElem? hx); have hx0 := (isU_iff _).1 (okR_unit hok (Int.le_refl _) hok.2.2); have hx1 := (isU_iff _).1 (okR_unit hok hok.2.2 (Int.le_refl _)); have hle := hok.2.2; have hsz := sz_bound (sound_take HS.out i); have hst := sz_take hx; have hse := HI.out; have y0 : IntKind.i64.wrap x.f0 = x.f0 := wq64 (by omega); have y1 : IntKind.i64.wrap x.f1 = x.f1 := wq64 (by omega); have y2 : IntKind.i64.wrap (s + x.f1) = s + x.f1 := wq64 (by omega); have y3 : IntKind.i64.wrap (s + x.f1 - x.f0) = s + x.f1 - x.f0 := wq64 (by omega); have y4 : IntKind.i64.wrap (s + x.f1 - x.f0 + 1) = s + x.f1 - x.f0 + 1 := wq64 (by omega); have HN := Aside0.mk (show s + x.f1 - x.f0 + 1 = sz (l.take (i + 1)) by rw [hst]; omega); have p1 := eq_true (Int.natCast_nonneg i); have q1 := eq_true (show (i : Int) < (l.length : Int) by omega); have HLT := Aside0.mk hlt; have HWW := Aside0.mk (w64 (x := (i : Int) + 1) (m := i + 1) (by omega) (by omega)); clear hrd hx hok hx0 hx1 hlt hlb hi hle hsz hst hse
        go_wp2
        go_quiet (fail)
        go_wp2
        exact ⟨⟨i + 1, _, rfl, by rw [HWW.out], HLT.out, HN, inferInstance⟩, by rw [HWW.out]; exact measLo HLT.out (s := 1) (Nat.le_refl _) rfl⟩
      · have d1 : decide (i < l.length) = false := decide_eq_false hlt
        have HN := Aside0.mk (show s = sz l from by have h := HI.out; rw [List.take_of_length_le (by omega)] at h; exact h); clear hlt hlb hi HI
        go_wp2
        go_ret2; exact ⟨_, 0, by first | rfl | simp, .inl ⟨HS.out, HN.out, rfl⟩, bw⟩
  · rw [if_neg hs] at cc
    have HS := Aside0.mk hs; have CC := Aside0.mk cc; clear hr0 hl hr hs cc; go_enter Tryz.func20, Tryz.ntmps20
    go_wp2_with (go_at_call 13; (with_reducible refine CC.out.mono ?_); rintro e w1 ⟨rfl, hb⟩; have HB1 : BelC w w1 := ⟨hb⟩; clear hb)
    go_ret2; exact ⟨0, 1, by first | rfl | simp, .inr ⟨HS.out, rfl, rfl⟩, bw⟩
set_option maxHeartbeats 8000000 in
set_option maxRecDepth 100000 in
theorem refHas0_run (A0 : Option Addr) (c0 : Nat) (l : List Rg) (u : Int) (w : World) (hl : l.length ≤ 67108864) (hr : ∀ r ∈ l, R32 r) (hr0 : Kd.C k41 w A0 l.length l) :
    Calls Tryz.prog 48 #[.slice A0 l.length c0, .int .i64 u] w fun e w' => e = .returned (.bool (mem l u)) ∧ Below w.heap.size w w' := by
  obtain ⟨r, hre⟩ : ∃ r, r = mem l u := ⟨_, rfl⟩; rw [← hre]; have HRE := Aside0.mk hre; have HR0 := Aside0.mk hr0; have HL := Aside0.mk hl; have HR := Aside0.mk hr; clear hr0 hl hre hr; go_enter Tryz.func48, Tryz.ntmps48
  go_wp2
  go_loopw [5] (fun v3 wr => ∃ (i : Nat), v3 = .int .i64 (i : Int) ∧ i ≤ l.length ∧ Aside0 (mem (l.take i) u = false) ∧ BelC w wr) (fun v3 _ => l.length - (intOf v3).toNat)
  case atStart => exact ⟨0, rfl, Nat.zero_le _, ⟨by simp [mem]⟩, inferInstance⟩
  case round =>
    obtain ⟨i, rfl, hi, HI, HB⟩ := hrel; obtain ⟨w2, rfl⟩ : ∃ x, x = wr := ⟨_, rfl⟩; have hlb := HL.out
    by_cases hlt : i < l.length
    · have d1 : decide (i < l.length) = true := decide_eq_true hlt
      obtain ⟨x, hx⟩ : ∃ x, l[i]? = some x := ⟨_, List.getElem?_eq_getElem hlt⟩; obtain ⟨a1, e1, h0, h1⟩ := at_T41 (cl HR0.out : Kd.C k41 w2 A0 l.length l) (i : Int) (Int.natCast_nonneg i) (by omega); subst e1
      have hrd : rd_T41 l (i : Int) = x := by unfold rd_T41; rw [Int.toNat_natCast, List.getD_eq_getElem?_getD, hx]; rfl
      rw [hrd, Int.toNat_natCast] at h0 h1; have hx32 := HR.out x (List.mem_of_getElem? hx); have y0 : IntKind.i64.wrap x.f0 = x.f0 := wq64 (by have := hx32.1; unfold I32 at this; omega); have y1 : IntKind.i64.wrap x.f1 = x.f1 := wq64 (by have := hx32.2; unfold I32 at this; omega); have HX := Aside0.mk hx; have p1 := eq_true (Int.natCast_nonneg i); have q1 := eq_true (show (i : Int) < (l.length : Int) by omega); have HLT := Aside0.mk hlt; have HWW := Aside0.mk (w64 (x := (i : Int) + 1) (m := i + 1) (by omega) (by omega))
      have ht : l.take (i + 1) = l.take i ++ [x] := by rw [List.take_add_one, hx]; rfl
      have HT := Aside0.mk ht; clear hrd hx hx32 hlt hlb hi ht
      by_cases hu0 : x.f0 ≤ u
      · have d2 : decide (x.f0 ≤ u) = true := decide_eq_true hu0
        by_cases hu1 : u ≤ x.f1
        · have d3 : decide (u ≤ x.f1) = true := decide_eq_true hu1
          have HN := Aside0.mk (show r = true by rw [HRE.out]; exact (mem_iff _ _).2 ⟨x, List.mem_of_getElem? HX.out, hu0, hu1⟩); clear hu0 hu1
          (go_wp2; repeat (go_quiet (fail); try go_wp2))
          go_ret; exact ⟨by rw [HN.out]; first | rfl | simp, bw⟩
        · have d3 : decide (u ≤ x.f1) = false := decide_eq_false hu1
          have HN := Aside0.mk (show mem (l.take (i + 1)) u = false by rw [HT.out, mem_app, HI.out, mem_one]; simp [hu1]); clear hu0 hu1
          (go_wp2; repeat (go_quiet (fail); try go_wp2))
          exact ⟨⟨i + 1, by rw [HWW.out], HLT.out, HN, inferInstance⟩, by rw [HWW.out]; exact measLo HLT.out (s := 1) (Nat.le_refl _) rfl⟩
      · have d2 : decide (x.f0 ≤ u) = false := decide_eq_false hu0
        have HN := Aside0.mk (show mem (l.take (i + 1)) u = false by rw [HT.out, mem_app, HI.out, mem_one]; simp [hu0]); clear hu0
        (go_wp2; repeat (go_quiet (fail); try go_wp2))
        exact ⟨⟨i + 1, by rw [HWW.out], HLT.out, HN, inferInstance⟩, by rw [HWW.out]; exact measLo HLT.out (s := 1) (Nat.le_refl _) rfl⟩
    · have d1 : decide (i < l.length) = false := decide_eq_false hlt
      have HN := Aside0.mk (show r = false from by have h := HI.out; rw [List.take_of_length_le (by omega)] at h; rw [HRE.out, h]); clear hlt hlb hi HI
      go_wp2
      go_ret; exact ⟨by rw [HN.out]; first | rfl | simp, bw⟩
set_option maxHeartbeats 8000000 in
theorem refHas_run (A0 : Option Addr) (c0 : Nat) (l : List Rg) (u : Int) (w : World) (hl : l.length ≤ 67108864) (hr : ∀ r ∈ l, R32 r) (hu : I32 u) (hr0 : Kd.C k41 w A0 l.length l) :
    Calls Tryz.prog 19 #[.slice A0 l.length c0, .int .i32 u] w fun e w' => ∃ (b : Bool) (m : Int), e = .returned (.tuple #[.bool b, .int .i64 m]) ∧ ((Sound l ∧ b = mem l u ∧ m = 0) ∨ (¬ Sound l ∧ b = false ∧ m = 1)) ∧ Below w.heap.size w w' := by
  have HR0 := Aside0.mk hr0; have HL := Aside0.mk hl; have HR := Aside0.mk hr; have y0 : IntKind.i64.wrap u = u := wq64 (by unfold I32 at hu; omega); have cc := refCheck_run A0 c0 l w hl hr hr0
  by_cases hs : Sound l
  · rw [if_pos hs] at cc
    have HS := Aside0.mk hs; have CC := Aside0.mk cc; clear hr0 hl hr hs cc hu; go_enter Tryz.func19, Tryz.ntmps19
    go_wp2_with (first
      | (go_at_call 13; (with_reducible refine CC.out.mono ?_); rintro e w1 ⟨rfl, hb⟩; have HB1 : BelC w w1 := ⟨hb⟩; clear hb)
      | (go_at_call 48; (with_reducible refine (refHas0_run A0 c0 l u w1 HL.out HR.out (cl HR0.out)).mono ?_); rintro e w2 ⟨rfl, hb⟩; have HB2 : BelC w w2 := bs hb; clear hb))
    go_ret2; exact ⟨_, 0, by first | rfl | simp, .inl ⟨HS.out, rfl, rfl⟩, bw⟩
  · rw [if_neg hs] at cc
    have HS := Aside0.mk hs; have CC := Aside0.mk cc; clear hr0 hl hr hs cc hu; go_enter Tryz.func19, Tryz.ntmps19
    go_wp2_with (go_at_call 13; (with_reducible refine CC.out.mono ?_); rintro e w1 ⟨rfl, hb⟩; have HB1 : BelC w w1 := ⟨hb⟩; clear hb)
    go_ret2; exact ⟨false, 1, by first | rfl | simp, .inr ⟨HS.out, rfl, rfl⟩, bw⟩
set_option maxHeartbeats 8000000 in
set_option maxRecDepth 100000 in
theorem refPick_run (A0 : Option Addr) (c0 : Nat) (l : List Rg) (k : Int) (w : World) (hl : l.length ≤ 67108864) (hr : ∀ r ∈ l, R32 r) (hk : -9223372036854775808 ≤ k ∧ k ≤ 9223372036854775807) (hr0 : Kd.C k41 w A0 l.length l) :
    Calls Tryz.prog 21 #[.slice A0 l.length c0, .int .i64 k] w fun e w' => ∃ u m : Int, e = .returned (.tuple #[.int .i32 u, .int .i64 m]) ∧ ((Sound l ∧ 0 ≤ k ∧ k < sz l ∧ u = rd (units l) k ∧ m = 0) ∨ (Sound l ∧ ¬ (0 ≤ k ∧ k < sz l) ∧ u = 0 ∧ m = 2) ∨ (¬ Sound l ∧ u = 0 ∧ m = 1)) ∧ Below w.heap.size w w' := by
  have HR0 := Aside0.mk hr0; have HL := Aside0.mk hl; have CC := Aside0.mk (refSize_run A0 c0 l w hl hr hr0)
  by_cases hs : Sound l
  · have HS := Aside0.mk hs
    obtain ⟨N, hN⟩ : ∃ N, N = sz l := ⟨_, rfl⟩; have HN := Aside0.mk hN; have HK := Aside0.mk hk; clear hr0 hl hr hs hN hk
    by_cases h0 : 0 ≤ k ∧ k < N
    · have d0 : decide (k < 0) = false := decide_eq_false (by omega)
      have d1 : decide (N ≤ k) = false := decide_eq_false (by omega); have H0 := Aside0.mk h0; clear h0; go_enter Tryz.func21, Tryz.ntmps21
      go_wp2_with (go_at_call 20; (with_reducible refine CC.out.mono ?_); rintro e w1 ⟨n, m, rfl, hnm, hb⟩; have HB1 : BelC w w1 := ⟨hb⟩; (have hnm : n = N ∧ m = 0 := hnm.elim (fun h => ⟨h.2.1.trans HN.out.symm, h.2.2⟩) (fun h => absurd HS.out h.1)); obtain ⟨rfl, rfl⟩ := hnm; clear hb)
      go_loopw [1, 8] (fun v1 v8 wr => ∃ (i : Nat) (q : Int), v1 = .int .i64 q ∧ v8 = .int .i64 (i : Int) ∧ i ≤ l.length ∧ Aside0 (0 ≤ q ∧ q < sz (l.drop i) ∧ rd (units (l.drop i)) q = rd (units l) k) ∧ BelC w wr) (fun _ v8 _ => l.length - (intOf v8).toNat)
      case atStart => exact ⟨0, k, rfl, rfl, Nat.zero_le _, ⟨by rw [List.drop_zero, ← HN.out]; exact ⟨H0.out.1, H0.out.2, rfl⟩⟩, inferInstance⟩
      case round =>
        obtain ⟨i, q, rfl, rfl, hi, HI, HB⟩ := hrel; obtain ⟨w2, rfl⟩ : ∃ x, x = wr := ⟨_, rfl⟩; have hlb := HL.out
        have hlt : i < l.length := by
          rcases Nat.lt_or_ge i l.length with h | h
          (· exact h); (· have h2 := HI.out; rw [List.drop_eq_nil_of_le h] at h2; simp only [sz, List.map_nil, List.sum_nil] at h2; omega)
        have d2 : decide (i < l.length) = true := decide_eq_true hlt; obtain ⟨x, hx⟩ : ∃ x, l[i]? = some x := ⟨_, List.getElem?_eq_getElem hlt⟩; obtain ⟨a1, e1, h0, h1⟩ := at_T41 (cl HR0.out : Kd.C k41 w2 A0 l.length l) (i : Int) (Int.natCast_nonneg i) (by omega); subst e1
        have hrd : rd_T41 l (i : Int) = x := by unfold rd_T41; rw [Int.toNat_natCast, List.getD_eq_getElem?_getD, hx]; rfl
        rw [hrd, Int.toNat_natCast] at h0 h1; have hok := HS.out.1 x (List.mem_of_getElem? hx); have hx0 := (isU_iff _).1 (okR_unit hok (Int.le_refl _) hok.2.2); have hx1 := (isU_iff _).1 (okR_unit hok hok.2.2 (Int.le_refl _)); have hle := hok.2.2; have hsz := sz_bound (sound_drop HS.out (i + 1)); have hst := sz_drop hx; have hse := HI.out
        have hun : units (l.drop i) = uR x ++ units (l.drop (i + 1)) := by
          obtain ⟨hi', e⟩ := List.getElem?_eq_some_iff.1 hx; rw [List.drop_eq_getElem_cons hi', units_cons, e]
        have y0 : IntKind.i64.wrap x.f0 = x.f0 := wq64 (by omega); have y1 : IntKind.i64.wrap x.f1 = x.f1 := wq64 (by omega); have y2 : IntKind.i64.wrap (x.f1 - x.f0) = x.f1 - x.f0 := wq64 (by omega); have y3 : IntKind.i64.wrap (x.f1 - x.f0 + 1) = x.f1 - x.f0 + 1 := wq64 (by omega); have p1 := eq_true (Int.natCast_nonneg i); have q1 := eq_true (show (i : Int) < (l.length : Int) by omega); have HLT := Aside0.mk hlt; have HWW := Aside0.mk (w64 (x := (i : Int) + 1) (m := i + 1) (by omega) (by omega))
        by_cases hq : q < x.f1 - x.f0 + 1
        · have d3 : decide (q < x.f1 - x.f0 + 1) = true := decide_eq_true hq
          have y4 : IntKind.i32.wrap q = q := (i32_w q).trans (w32 (x := q) (by unfold I32; omega)); have y5 : IntKind.i32.wrap (x.f0 + q) = x.f0 + q := (i32_w _).trans (w32 (x := x.f0 + q) (by unfold I32; omega)); have HV := Aside0.mk (show x.f0 + q = rd (units l) k by rw [← hse.2.2, hun, rd_left _ _ _ hse.1 (by rw [uR_len]; omega), rd_uR _ _ hse.1 hq]); clear hrd hx hok hx0 hx1 hlt hlb hi hle hsz hst hse hun hq
          (go_wp2; repeat (go_quiet (fail); try go_wp2))
          go_ret2; exact ⟨_, 0, by first | rfl | simp, .inl ⟨HS.out, H0.out.1, by rw [← HN.out]; exact H0.out.2, HV.out, rfl⟩, bw⟩
        · have d3 : decide (q < x.f1 - x.f0 + 1) = false := decide_eq_false hq
          have y4 : IntKind.i64.wrap (q - (x.f1 - x.f0 + 1)) = q - (x.f1 - x.f0 + 1) := wq64 (by omega)
          have HV := Aside0.mk (show 0 ≤ q - (x.f1 - x.f0 + 1) ∧ q - (x.f1 - x.f0 + 1) < sz (l.drop (i + 1)) ∧ rd (units (l.drop (i + 1))) (q - (x.f1 - x.f0 + 1)) = rd (units l) k from ⟨by omega, by omega, by
            rw [← hse.2.2, hun, rd_right _ _ _ (by rw [uR_len]; omega), uR_len]; congr 1; omega⟩)
          clear hrd hx hok hx0 hx1 hlt hlb hi hle hsz hst hse hun hq
          (go_wp2; repeat (go_quiet (fail); try go_wp2))
          exact ⟨⟨i + 1, _, rfl, by rw [HWW.out], HLT.out, HV, inferInstance⟩, by rw [HWW.out]; exact measLo HLT.out (s := 1) (Nat.le_refl _) rfl⟩
    · have H0 := Aside0.mk h0
      by_cases hk0 : k < 0
      · have d0 : decide (k < 0) = true := decide_eq_true hk0
        clear h0 hk0; go_enter Tryz.func21, Tryz.ntmps21
        go_wp2_with (go_at_call 20; (with_reducible refine CC.out.mono ?_); rintro e w1 ⟨n, m, rfl, hnm, hb⟩; have HB1 : BelC w w1 := ⟨hb⟩; (have hnm : n = N ∧ m = 0 := hnm.elim (fun h => ⟨h.2.1.trans HN.out.symm, h.2.2⟩) (fun h => absurd HS.out h.1)); obtain ⟨rfl, rfl⟩ := hnm; clear hb)
        go_ret2; exact ⟨0, 2, by first | rfl | simp, .inr (.inl ⟨HS.out, by rw [← HN.out]; exact H0.out, rfl, rfl⟩), bw⟩
      · have d0 : decide (k < 0) = false := decide_eq_false hk0
        have d1 : decide (N ≤ k) = true := decide_eq_true (by omega); clear h0 hk0; go_enter Tryz.func21, Tryz.ntmps21
        go_wp2_with (go_at_call 20; (with_reducible refine CC.out.mono ?_); rintro e w1 ⟨n, m, rfl, hnm, hb⟩; have HB1 : BelC w w1 := ⟨hb⟩; (have hnm : n = N ∧ m = 0 := hnm.elim (fun h => ⟨h.2.1.trans HN.out.symm, h.2.2⟩) (fun h => absurd HS.out h.1)); obtain ⟨rfl, rfl⟩ := hnm; clear hb)
        go_ret2; exact ⟨0, 2, by first | rfl | simp, .inr (.inl ⟨HS.out, by rw [← HN.out]; exact H0.out, rfl, rfl⟩), bw⟩
  · have HS := Aside0.mk hs
    clear hr0 hl hr hs hk; go_enter Tryz.func21, Tryz.ntmps21
    go_wp2_with (go_at_call 20; (with_reducible refine CC.out.mono ?_); rintro e w1 ⟨n, m, rfl, hnm, hb⟩; have HB1 : BelC w w1 := ⟨hb⟩; (have hnm : n = 0 ∧ m = 1 := hnm.elim (fun h => absurd h.1 HS.out) (fun h => h.2)); obtain ⟨rfl, rfl⟩ := hnm; clear hb)
    go_ret2; exact ⟨0, 1, by first | rfl | simp, .inr (.inr ⟨HS.out, rfl, rfl⟩), bw⟩
end Go.Proofs.YtoggmegpodmfnaaGreatDoor.Q
namespace Go.Proofs.YtoggmegpodmfnaaGreatDoor.Q
open Go.RowKit Go.Proofs.YtoggmegpodmfnaaGreatDoorW.PrintWords Go.Proofs.YtoggmegpodmfnaaGreatDoorW.PrintLast Go.Proofs.YtoggmegpodmfnaaGreatDoorW.PrintMore Go.Proofs.YtoggmegpodmfnaaGreatDoor.PS Go.Proofs.YtoggmegpodmfnaaGreatDoor.B
set_option linter.unusedVariables false
set_option linter.unusedSimpArgs false
structure An where
  S : List Rg := []
  L : List (List Rg) := []
  ok : Bool := false
  n : Int := 0
  u : Int := 0
  us : List Int := []
  e : Int := 0
structure Opn where
  kd : Int
  a : List Rg
  b : List Rg
  u : Int
  k : Int
  L : List (List Rg)
def MadeOf (a R : List Rg) (n : Int) : Prop := (n = 2 ∧ R = [] ∧ ∃ r ∈ a, r.f1 < r.f0) ∨ (n = 0 ∧ (∀ r ∈ a, r.f0 ≤ r.f1) ∧ Sound R ∧ ∀ u, mem R u = (isU u && mem a u))
def HasOf (l : List Rg) (u : Int) (b : Bool) (m : Int) : Prop := (Sound l ∧ b = mem l u ∧ m = 0) ∨ (¬ Sound l ∧ b = false ∧ m = 1)
def SizeOf_ (l : List Rg) (n m : Int) : Prop := (Sound l ∧ n = sz l ∧ m = 0) ∨ (¬ Sound l ∧ n = 0 ∧ m = 1)
def PickOf (l : List Rg) (k u m : Int) : Prop := (Sound l ∧ 0 ≤ k ∧ k < sz l ∧ u = rd (units l) k ∧ m = 0) ∨ (Sound l ∧ ¬ (0 ≤ k ∧ k < sz l) ∧ u = 0 ∧ m = 2) ∨ (¬ Sound l ∧ u = 0 ∧ m = 1)
def PartsOf (L R : List (List Rg)) (n : Int) : Prop := (n = 1 ∧ R = [] ∧ ∃ l ∈ L, ¬ Sound l) ∨ (n = 0 ∧ (∀ l ∈ L, Sound l) ∧ Classes (keyL L) R)
def EachOf (l : List Rg) (n : Int) (R : List Int) : Prop := (¬ Sound l → R = []) ∧ (Sound l → R = (units l).take (max 1 n.toNat))
structure Does (o : Opn) (x : An) : Prop where
  d1 : o.kd = 1 → x = { e := if Sound o.a then 0 else 1 }
  d2 : o.kd = 2 → ∃ R n, x = { S := R, e := n } ∧ MadeOf o.a R n
  d3 : o.kd = 3 → ∃ R n, x = { S := R, e := n } ∧ Ruled 1 o.a o.b R n
  d4 : o.kd = 4 → ∃ R n, x = { S := R, e := n } ∧ Ruled 2 o.a o.b R n
  d5 : o.kd = 5 → ∃ R n, x = { S := R, e := n } ∧ Ruled 3 o.a o.b R n
  d6 : o.kd = 6 → ∃ R n, x = { S := R, e := n } ∧ Ruled 4 o.a [] R n
  d7 : o.kd = 7 → ∃ R n, x = { S := R, e := n } ∧ Ruled 4 o.a [rawR] R n
  d8 : o.kd = 8 → ∃ b n, x = { ok := b, e := n } ∧ HasOf o.a o.u b n
  d9 : o.kd = 9 → ∃ m n, x = { n := m, e := n } ∧ SizeOf_ o.a m n
  d10 : o.kd = 10 → ∃ m n, x = { u := m, e := n } ∧ PickOf o.a o.k m n
  d11 : o.kd = 11 → ∃ R n, x = { L := R, e := n } ∧ PartsOf o.L R n
  d12 : o.kd = 12 → ∃ R, x = { us := R } ∧ EachOf o.a o.k R
  d0 : o.kd < 1 ∨ 12 < o.kd → x = {}
theorem made_one {a R S : List Rg} {n m : Int} (h : MadeOf a R n) (k : MadeOf a S m) : R = S ∧ n = m := by
  rcases h with ⟨h1, h2, r, hr, hlt⟩ | ⟨h1, h2, h3, h4⟩ <;> rcases k with ⟨k1, k2, q, hq, hqt⟩ | ⟨k1, k2, k3, k4⟩
  (· exact ⟨h2.trans k2.symm, h1.trans k1.symm⟩); (· have := k2 r hr; omega); (· have := h2 q hq; omega); (· exact ⟨sound_ext R S h3 k3 (fun u => (h4 u).trans (k4 u).symm), h1.trans k1.symm⟩)
theorem ruled_one {kd : Int} {a b R S : List Rg} {n m : Int} (h : Ruled kd a b R n) (k : Ruled kd a b S m) : R = S ∧ n = m := by
  by_cases hs : Sound a ∧ Sound b
  (· obtain ⟨h1, h2, h3⟩ := h.2 hs.1 hs.2; obtain ⟨k1, k2, k3⟩ := k.2 hs.1 hs.2; exact ⟨sound_ext R S h2 k2 (fun u => (h3 u).trans (k3 u).symm), h1.trans k1.symm⟩); (· obtain ⟨h1, h2⟩ := h.1 hs; obtain ⟨k1, k2⟩ := k.1 hs; exact ⟨by simp_all, by simp_all⟩)
theorem parts_one {L R S : List (List Rg)} {n m : Int} (h : PartsOf L R n) (k : PartsOf L S m) : R = S ∧ n = m := by
  rcases h with ⟨h1, h2, l, hl, hn⟩ | ⟨h1, h2, h3⟩ <;> rcases k with ⟨k1, k2, q, hq, hqn⟩ | ⟨k1, k2, k3⟩
  (· exact ⟨h2.trans k2.symm, h1.trans k1.symm⟩); (· exact absurd (k2 l hl) hn); (· exact absurd (h2 q hq) hqn); (· exact ⟨classes_ext h3 k3, h1.trans k1.symm⟩)
theorem does_one {o : Opn} {x y : An} (h : Does o x) (k : Does o y) : x = y := by
  by_cases c1 : o.kd = 1
  · rw [h.d1 c1, k.d1 c1]
  by_cases c2 : o.kd = 2
  · obtain ⟨R, n, rfl, h1⟩ := h.d2 c2; obtain ⟨S, m, rfl, k1⟩ := k.d2 c2; obtain ⟨rfl, rfl⟩ := made_one h1 k1; rfl
  by_cases c3 : o.kd = 3
  · obtain ⟨R, n, rfl, h1⟩ := h.d3 c3; obtain ⟨S, m, rfl, k1⟩ := k.d3 c3; obtain ⟨rfl, rfl⟩ := ruled_one h1 k1; rfl
  by_cases c4 : o.kd = 4
  · obtain ⟨R, n, rfl, h1⟩ := h.d4 c4; obtain ⟨S, m, rfl, k1⟩ := k.d4 c4; obtain ⟨rfl, rfl⟩ := ruled_one h1 k1; rfl
  by_cases c5 : o.kd = 5
  · obtain ⟨R, n, rfl, h1⟩ := h.d5 c5; obtain ⟨S, m, rfl, k1⟩ := k.d5 c5; obtain ⟨rfl, rfl⟩ := ruled_one h1 k1; rfl
  by_cases c6 : o.kd = 6
  · obtain ⟨R, n, rfl, h1⟩ := h.d6 c6; obtain ⟨S, m, rfl, k1⟩ := k.d6 c6; obtain ⟨rfl, rfl⟩ := ruled_one h1 k1; rfl
  by_cases c7 : o.kd = 7
  · obtain ⟨R, n, rfl, h1⟩ := h.d7 c7; obtain ⟨S, m, rfl, k1⟩ := k.d7 c7; obtain ⟨rfl, rfl⟩ := ruled_one h1 k1; rfl
  by_cases c8 : o.kd = 8
  · obtain ⟨R, n, rfl, h1⟩ := h.d8 c8
    obtain ⟨S, m, rfl, k1⟩ := k.d8 c8; unfold HasOf at h1 k1
    have e : R = S ∧ n = m := by rcases h1 with ⟨p, rfl, rfl⟩ | ⟨p, rfl, rfl⟩ <;> rcases k1 with ⟨q, rfl, rfl⟩ | ⟨q, rfl, rfl⟩ <;> simp_all
    rw [e.1, e.2]
  by_cases c9 : o.kd = 9
  · obtain ⟨R, n, rfl, h1⟩ := h.d9 c9
    obtain ⟨S, m, rfl, k1⟩ := k.d9 c9; unfold SizeOf_ at h1 k1
    have e : R = S ∧ n = m := by rcases h1 with ⟨p, rfl, rfl⟩ | ⟨p, rfl, rfl⟩ <;> rcases k1 with ⟨q, rfl, rfl⟩ | ⟨q, rfl, rfl⟩ <;> simp_all
    rw [e.1, e.2]
  by_cases c10 : o.kd = 10
  · obtain ⟨R, n, rfl, h1⟩ := h.d10 c10
    obtain ⟨S, m, rfl, k1⟩ := k.d10 c10; unfold PickOf at h1 k1
    have e : R = S ∧ n = m := by
      rcases h1 with ⟨p, p1, p2, rfl, rfl⟩ | ⟨p, p1, rfl, rfl⟩ | ⟨p, rfl, rfl⟩ <;> rcases k1 with ⟨q, q1, q2, rfl, rfl⟩ | ⟨q, q1, rfl, rfl⟩ | ⟨q, rfl, rfl⟩ <;> first | exact ⟨rfl, rfl⟩ | exact absurd p q | exact absurd q p | exact absurd ⟨p1, p2⟩ q1 | exact absurd ⟨q1, q2⟩ p1
    rw [e.1, e.2]
  by_cases c11 : o.kd = 11
  · obtain ⟨R, n, rfl, h1⟩ := h.d11 c11; obtain ⟨S, m, rfl, k1⟩ := k.d11 c11; obtain ⟨rfl, rfl⟩ := parts_one h1 k1; rfl
  by_cases c12 : o.kd = 12
  · obtain ⟨R, rfl, h1⟩ := h.d12 c12
    obtain ⟨S, rfl, k1⟩ := k.d12 c12
    have e : R = S := by
      by_cases hs : Sound o.a
      (· exact (h1.2 hs).trans (k1.2 hs).symm); (· exact (h1.1 hs).trans (k1.1 hs).symm)
    rw [e]
  have c0 : o.kd < 1 ∨ 12 < o.kd := by omega
  rw [h.d0 c0, k.d0 c0]
theorem does_kd {o : Opn} {x : An} {i : Int} (hk : o.kd = i) (h : i = 1 → x = { e := if Sound o.a then 0 else 1 }) (h2 : i = 2 → ∃ R n, x = { S := R, e := n } ∧ MadeOf o.a R n) (h3 : i = 3 → ∃ R n, x = { S := R, e := n } ∧ Ruled 1 o.a o.b R n) (h4 : i = 4 → ∃ R n, x = { S := R, e := n } ∧ Ruled 2 o.a o.b R n) (h5 : i = 5 → ∃ R n, x = { S := R, e := n } ∧ Ruled 3 o.a o.b R n)
    (h6 : i = 6 → ∃ R n, x = { S := R, e := n } ∧ Ruled 4 o.a [] R n) (h7 : i = 7 → ∃ R n, x = { S := R, e := n } ∧ Ruled 4 o.a [rawR] R n) (h8 : i = 8 → ∃ b n, x = { ok := b, e := n } ∧ HasOf o.a o.u b n) (h9 : i = 9 → ∃ m n, x = { n := m, e := n } ∧ SizeOf_ o.a m n)
    (h10 : i = 10 → ∃ m n, x = { u := m, e := n } ∧ PickOf o.a o.k m n) (h11 : i = 11 → ∃ R n, x = { L := R, e := n } ∧ PartsOf o.L R n) (h12 : i = 12 → ∃ R, x = { us := R } ∧ EachOf o.a o.k R) (h0 : i < 1 ∨ 12 < i → x = {}) : Does o x := by
  subst hk; exact ⟨h, h2, h3, h4, h5, h6, h7, h8, h9, h10, h11, h12, h0⟩
theorem asc_len {α : Type} (f : α → Int) (M : Int) : ∀ (l : List α) (m : Int), m ≤ M + 1 → (∀ r ∈ l, m ≤ f r ∧ f r ≤ M) → l.Pairwise (fun a b => f a < f b) → (l.length : Int) ≤ M + 1 - m
  | [], m, hm, _, _ => by simp; omega
  | x :: l, m, hm, h, hp => by
    have hx := h x (by simp); obtain ⟨p1, p2⟩ := List.pairwise_cons.1 hp; have ih := asc_len f M l (f x + 1) (by omega) (fun r hr => ⟨by have := p1 r hr; omega, (h r (by simp [hr])).2⟩) p2; simp only [List.length_cons]; omega
theorem classes_len {α : Type} {key : Int → α} {rs : List (List Rg)} (h : Classes key rs) : rs.length ≤ 1114368 := by
  have := asc_len hdR 1114367 rs 0 (by omega) (fun r hr => by
    have hu := (isU_iff _).1 ((h.sound r hr).unit (hdR_mem (h.sound r hr) (h.ne r hr)))
    omega) h.asc
  omega
structure Small (X : An) : Prop where
  s0 : X.S.length ≤ 1114368
  s1 : X.L.length ≤ 1114368
  s2 : ∀ r ∈ X.L, r.length ≤ 1114368
  s5 : X.us.length ≤ 1114368
theorem made_len {a R : List Rg} {n : Int} (h : MadeOf a R n) : R.length ≤ 1114368 := by
  rcases h with ⟨_, rfl, _⟩ | ⟨_, _, h, _⟩
  · simp
  · exact sound_len h
theorem ruled_len {kd : Int} {a b R : List Rg} {n : Int} (h : Ruled kd a b R n) : R.length ≤ 1114368 := by
  by_cases hs : Sound a ∧ Sound b
  (· exact sound_len (h.yes hs.1 hs.2).2.1); (· rw [(h.no hs).2]; simp)
theorem parts_len {L R : List (List Rg)} {n : Int} (h : PartsOf L R n) : R.length ≤ 1114368 ∧ ∀ r ∈ R, r.length ≤ 1114368 := by
  rcases h with ⟨_, rfl, _⟩ | ⟨_, _, h⟩
  · simp
  · exact ⟨classes_len h, fun r hr => sound_len (h.sound r hr)⟩
theorem each_len {l : List Rg} {n : Int} {R : List Int} (h : EachOf l n R) : R.length ≤ 1114368 := by
  by_cases hs : Sound l
  (· rw [h.2 hs, List.length_take]; have := units_len l hs; have := sz_bound hs; omega); (· rw [h.1 hs]; simp)
theorem small_set {R : List Rg} {n : Int} (h : R.length ≤ 1114368) : Small { S := R, e := n } := ⟨h, by simp, by simp, by simp⟩
theorem small_parts {L R : List (List Rg)} {n : Int} (h : PartsOf L R n) : Small { L := R, e := n } := ⟨by simp, (parts_len h).1, (parts_len h).2, by simp⟩
theorem small_each {l : List Rg} {k : Int} {R : List Int} (h : EachOf l k R) : Small { us := R } := ⟨by simp, by simp, by simp, each_len h⟩
theorem small_none (b : Bool) (n u e : Int) : Small { ok := b, n := n, u := u, e := e } := ⟨by simp, by simp, by simp, by simp⟩
end Go.Proofs.YtoggmegpodmfnaaGreatDoor.Q
