/- The law's plain side (SetsPicksP): what the printed functions come to; each theorem states its own conditions. -/
import Derived.Test.YtoggmegpodmfnaaDoorPVx4
import Derived.Test.YtoggmegpodmfnaaDoorBSetsBand
import Derived.Test.YtoggmegpodmfnaaDoorQSetsRef
import Derived.Test.YtoggmegpodmfnaaDoorQSetsRef2
import Derived.Test.YtoggmegpodmfnaaDoorQSetsRef3
import Derived.Test.YtoggmegpodmfnaaDoorQSetsSize
namespace Go.Proofs.YtoggmegpodmfnaaDoor.Q
open Go.RowKit Go.Proofs.YtoggmegpodmfnaaDoorW.PrintWords Go.Proofs.YtoggmegpodmfnaaDoorW.PrintLast Go.Proofs.YtoggmegpodmfnaaDoorW.PrintMore Go.Proofs.YtoggmegpodmfnaaDoor.PV Go.Proofs.YtoggmegpodmfnaaDoor.B
set_option linter.unusedVariables false
set_option linter.unusedSimpArgs false
/-- The units of a range, of a set: in order. -/
def uR (r : Rg) : List Int := (List.range (r.f1 - r.f0 + 1).toNat).map fun i : Nat => r.f0 + (i : Int)
def units (l : List Rg) : List Int := l.flatMap uR
theorem uR_len (r : Rg) : (uR r).length = (r.f1 - r.f0 + 1).toNat := by simp [uR]
theorem units_app (a b : List Rg) : units (a ++ b) = units a ++ units b := by simp [units]
theorem units_one (r : Rg) : units [r] = uR r := by simp [units]
theorem units_cons (r : Rg) (l : List Rg) : units (r :: l) = uR r ++ units l := by simp [units]
theorem units_take (l : List Rg) (i : Nat) (h : i < l.length) : units (l.take (i + 1)) = units (l.take i) ++ uR l[i] := by
  rw [List.take_succ_eq_append_getElem h, units_app, units_one]
theorem units_split (l : List Rg) (i : Nat) (h : i < l.length) : units l = units (l.take i) ++ uR l[i] ++ units (l.drop (i + 1)) := by
  conv => lhs; rw [← List.take_append_drop (i + 1) l, units_app, units_take l i h]
theorem mem_uR (r : Rg) (u : Int) : u ∈ uR r ↔ r.f0 ≤ u ∧ u ≤ r.f1 := by
  simp only [uR, List.mem_map, List.mem_range]
  constructor
  · rintro ⟨i, hi, rfl⟩; omega
  · rintro ⟨h0, h1⟩; exact ⟨(u - r.f0).toNat, by omega, by omega⟩
theorem mem_units (l : List Rg) (u : Int) : u ∈ units l ↔ mem l u = true := by
  rw [mem_iff]
  simp only [units, List.mem_flatMap, mem_uR]
theorem units_len : ∀ l : List Rg, Sound l → ((units l).length : Int) = sz l
  | [], _ => by simp [units, sz]
  | r :: l, h => by
    have ih := units_len l h.tail
    have hr := h.1 r (by simp)
    obtain ⟨_, _, h1⟩ := hr
    have e : sz (r :: l) = r.f1 - r.f0 + 1 + sz l := by simp [sz]
    rw [units_cons, List.length_append, uR_len, e]
    omega
theorem uR_sorted (r : Rg) : (uR r).Pairwise (· < ·) := by
  unfold uR
  rw [List.pairwise_map]
  exact List.pairwise_lt_range.imp fun h => by omega
theorem units_sorted : ∀ l : List Rg, Sound l → (units l).Pairwise (· < ·)
  | [], _ => by simp [units]
  | r :: l, h => by
    rw [units_cons, List.pairwise_append]
    refine ⟨uR_sorted r, units_sorted l h.tail, fun a ha b hb => ?_⟩
    have h1 := (mem_uR r a).1 ha
    have h2 := mem_gap h ((mem_units l b).1 hb)
    omega
theorem rd_left (a b : List Int) (k : Int) (h0 : 0 ≤ k) (h : k < a.length) : rd (a ++ b) k = rd a k := by
  unfold rd
  rw [List.getD_eq_getElem?_getD, List.getElem?_append_left (by omega), List.getD_eq_getElem?_getD]
theorem rd_right (a b : List Int) (k : Int) (h : (a.length : Int) ≤ k) : rd (a ++ b) k = rd b (k - a.length) := by
  unfold rd
  rw [List.getD_eq_getElem?_getD, List.getElem?_append_right (by omega), List.getD_eq_getElem?_getD]
  congr 2
  omega
theorem rd_uR (r : Rg) (k : Int) (h0 : 0 ≤ k) (h : k < r.f1 - r.f0 + 1) : rd (uR r) k = r.f0 + k := by
  unfold rd uR
  rw [List.getD_eq_getElem?_getD, List.getElem?_map, List.getElem?_range (by omega)]
  simp
  omega
theorem sz_cons (r : Rg) (l : List Rg) : sz (r :: l) = r.f1 - r.f0 + 1 + sz l := by simp [sz]
theorem pick0 (l : List Rg) (h : Sound l) : ∀ (d i : Nat) (k : Int), l.length - i = d → i ≤ l.length → 0 ≤ k → k ≤ 9223372036854775807 →
    Ev (fun n => sets_Pick.l0 n k l (l.length : Int) (i : Int)) (if k < sz (l.drop i) then (rd (units (l.drop i)) k, 0) else (0, 2))
  | 0, i, k, hd, hi, h0, hk => by
    have : l.drop i = [] := List.drop_eq_nil_of_le (by omega)
    rw [this, if_neg (by simp [sz]; omega)]
    refine Ev.step (f := fun _ => some (0, 2)) (fun n => ?_) (Ev.now _)
    rw [sets_Pick.l0, if_neg (by omega)]
  | d + 1, i, k, hd, hi, h0, hk => by
    have hi : i < l.length := by omega
    have hl := sound_len h
    have hx := h.1 l[i] (List.getElem_mem hi)
    obtain ⟨a0, a1, a2⟩ := hx
    have b0 := bandOf_cases l[i].f0
    have b1 := bandOf_cases l[i].f1
    have hdr : l.drop i = l[i] :: l.drop (i + 1) := by rw [List.drop_eq_getElem_cons hi]
    have e : sz (l.drop i) = l[i].f1 - l[i].f0 + 1 + sz (l.drop (i + 1)) := by rw [hdr, sz_cons]
    have hs : Sound (l.drop (i + 1)) := ⟨fun r hr => h.1 r (List.mem_of_mem_drop hr), h.2.sublist (List.drop_sublist _ _)⟩
    have hb := sz_bound hs
    have hn : ∀ n, sets_Pick.l0 (n + 1) k l (l.length : Int) (i : Int) = if k < l[i].f1 - l[i].f0 + 1 then some (l[i].f0 + k, 0) else sets_Pick.l0 n (k - (l[i].f1 - l[i].f0 + 1)) l (l.length : Int) ((i + 1 : Nat) : Int) := by
      intro n
      rw [sets_Pick.l0, if_pos (by omega), if_pos (by omega), if_pos (by omega), rdT l i hi, wrap32_of (l[i].f1 - l[i].f0) (by omega), wrap64_of (l[i].f1 - l[i].f0) (by omega), wrap64_of (l[i].f1 - l[i].f0 + 1) (by omega)]
      by_cases hc : k < l[i].f1 - l[i].f0 + 1
      · rw [if_pos hc, if_pos hc, wrap32_of k (by omega), wrap32_of _ (by omega)]
      · rw [if_neg hc, if_neg hc, wrap64_of _ (by omega), wrapS i (by omega)]
    by_cases hc : k < l[i].f1 - l[i].f0 + 1
    · rw [if_pos (by omega), hdr, units_cons, rd_left _ _ _ h0 (by rw [uR_len]; omega), rd_uR _ _ h0 hc]
      refine Ev.step (f := fun _ => some (l[i].f0 + k, 0)) (fun n => ?_) (Ev.now _)
      rw [hn, if_pos hc]
    · have ih := pick0 l h d (i + 1) (k - (l[i].f1 - l[i].f0 + 1)) (by omega) (by omega) (by omega) (by omega)
      have e2 : (if k < sz (l.drop i) then (rd (units (l.drop i)) k, (0 : Int)) else (0, 2)) = (if k - (l[i].f1 - l[i].f0 + 1) < sz (l.drop (i + 1)) then (rd (units (l.drop (i + 1))) (k - (l[i].f1 - l[i].f0 + 1)), 0) else (0, 2)) := by
        have hr : rd (units (l.drop i)) k = rd (units (l.drop (i + 1))) (k - (l[i].f1 - l[i].f0 + 1)) := by
          rw [hdr, units_cons, rd_right _ _ _ (by rw [uR_len]; omega), uR_len]
          congr 1
          omega
        rw [hr]
        by_cases hz : k < sz (l.drop i)
        · rw [if_pos hz, if_pos (by omega)]
        · rw [if_neg hz, if_neg (by omega)]
      rw [e2]
      refine Ev.step (fun n => ?_) ih
      rw [hn, if_neg hc]
theorem pick_is (l : List Rg) (h : Sound l) (k : Int) (hk : k ≤ 9223372036854775807) : Ev (fun n => sets_Pick.f n l k) (if 0 ≤ k ∧ k < sz l then (rd (units l) k, 0) else (0, 2)) := by
  have hl := sound_len h
  unfold sets_Pick.f
  refine Ev.bind (check_is l (by omega) h.r32) ?_
  rw [if_pos h]
  refine ev_if_pos rfl ?_
  by_cases h0 : k < 0
  · rw [if_neg (by omega)]
    exact ev_if_pos h0 (Ev.now _)
  · have := pick0 l h l.length 0 k (by omega) (by omega) (by omega) hk
    refine ev_if_neg h0 ?_
    by_cases hz : k < sz l
    · rw [if_pos ⟨by omega, hz⟩]; simpa [hz] using this
    · rw [if_neg (by omega)]; simpa [hz] using this

end Go.Proofs.YtoggmegpodmfnaaDoor.Q
