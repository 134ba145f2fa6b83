/- The law's plain side (SetsSize): what the printed functions come to; each theorem states its own conditions. -/
import Derived.Test.YtoggmegpodmfnaaDoorPVx4
import Derived.Test.YtoggmegpodmfnaaDoorBSetsBand
import Derived.Test.YtoggmegpodmfnaaDoorQSetsRef
import Derived.Test.YtoggmegpodmfnaaDoorQSetsRef2
import Derived.Test.YtoggmegpodmfnaaDoorQSetsRef3
namespace Go.Proofs.YtoggmegpodmfnaaDoor.Q
open Go.RowKit Go.Proofs.YtoggmegpodmfnaaDoorW.PrintWords Go.Proofs.YtoggmegpodmfnaaDoorW.PrintLast Go.Proofs.YtoggmegpodmfnaaDoorW.PrintMore Go.Proofs.YtoggmegpodmfnaaDoor.PV Go.Proofs.YtoggmegpodmfnaaDoor.B
set_option linter.unusedVariables false
set_option linter.unusedSimpArgs false
theorem sound_len0 : ∀ (l : List Rg) (m : Int), 0 ≤ m → m ≤ 1114368 → Sound l → (∀ r ∈ l, m ≤ r.f0) → (l.length : Int) ≤ 1114368 - m
  | [], m, h0, h1, _, _ => by simp; omega
  | x :: l, m, h0, h1, h, hm => by
    have hx := h.1 x (by simp)
    have hmx := hm x (by simp)
    obtain ⟨a0, a1, a2⟩ := hx
    have b := bandOf_cases x.f1
    have ih := sound_len0 l (x.f1 + 1) (by omega) (by omega) h.tail (fun r hr => by have := (List.pairwise_cons.1 h.2).1 r hr; omega)
    simp only [List.length_cons]
    omega
theorem sound_len {l : List Rg} (h : Sound l) : l.length ≤ 1114368 := by
  have := sound_len0 l 0 (by omega) (by omega) h (fun r hr => by have a := h.1 r hr; have b := bandOf_cases r.f0; obtain ⟨a0, _, _⟩ := a; omega)
  omega
def sz (l : List Rg) : Int := (l.map fun r => r.f1 - r.f0 + 1).sum
theorem sz_bound0 : ∀ (l : List Rg) (m : Int), 0 ≤ m → m ≤ 1114368 → Sound l → (∀ r ∈ l, m ≤ r.f0) → 0 ≤ sz l ∧ sz l ≤ 1114368 - m
  | [], m, h0, h1, _, _ => by simp [sz]; omega
  | x :: l, m, h0, h1, h, hm => by
    have hx := h.1 x (by simp)
    have hmx := hm x (by simp)
    obtain ⟨a0, a1, a2⟩ := hx
    have b := bandOf_cases x.f1
    have ih := sz_bound0 l (x.f1 + 1) (by omega) (by omega) h.tail (fun r hr => by have := (List.pairwise_cons.1 h.2).1 r hr; omega)
    have e : sz (x :: l) = x.f1 - x.f0 + 1 + sz l := by simp [sz]
    omega
theorem sz_bound {l : List Rg} (h : Sound l) : 0 ≤ sz l ∧ sz l ≤ 1114368 := by
  have := sz_bound0 l 0 (by omega) (by omega) h (fun r hr => by have a := h.1 r hr; have b := bandOf_cases r.f0; obtain ⟨a0, _, _⟩ := a; omega)
  omega
theorem sz_app (a b : List Rg) : sz (a ++ b) = sz a + sz b := by simp [sz]
theorem size0 (l : List Rg) (h : Sound l) : ∀ (d i : Nat), l.length - i = d → i ≤ l.length → Ev (fun k => sets_Size.l0 k (sz (l.take i)) l (l.length : Int) (i : Int)) (sz l, 0)
  | 0, i, hd, hi => by
    rw [List.take_of_length_le (by omega)]
    refine Ev.step (f := fun _ => some (sz l, 0)) (fun k => ?_) (Ev.now _)
    rw [sets_Size.l0, if_neg (by omega)]
  | d + 1, i, hd, hi => by
    have hi : i < l.length := by omega
    have hl := sound_len h
    have hx := h.1 l[i] (List.getElem_mem hi)
    obtain ⟨a0, a1, a2⟩ := hx
    have b0 := bandOf_cases l[i].f0
    have b1 := bandOf_cases l[i].f1
    have ht : l.take (i + 1) = l.take i ++ [l[i]] := by rw [List.take_add_one, List.getElem?_eq_getElem hi]; rfl
    have hs : Sound (l.take i) := ⟨fun r hr => h.1 r (List.mem_of_mem_take hr), h.2.sublist (List.take_sublist _ _)⟩
    have hb := sz_bound hs
    have e : sz (l.take (i + 1)) = sz (l.take i) + (l[i].f1 - l[i].f0 + 1) := by rw [ht, sz_app]; simp [sz]
    refine Ev.step (fun k => ?_) (size0 l h d (i + 1) (by omega) (by omega))
    rw [sets_Size.l0, if_pos (by omega), if_pos (by omega), if_pos (by omega), rdT l i hi, wrap32_of _ (by omega), wrap64_of (l[i].f1 - l[i].f0) (by omega), wrap64_of (l[i].f1 - l[i].f0 + 1) (by omega), wrap64_of _ (by omega), wrapS i (by omega), e]
theorem size_is (l : List Rg) (h : Sound l) : Ev (fun k => sets_Size.f k l) (sz l, 0) := by
  have hl := sound_len h
  unfold sets_Size.f
  refine Ev.bind (check_is l (by omega) h.r32) ?_
  rw [if_pos h]
  exact ev_if_pos rfl (by simpa [sz] using size0 l h l.length 0 (by omega) (by omega))

end Go.Proofs.YtoggmegpodmfnaaDoor.Q
