/- Lemmas for the law's contracts (SortK); each states its own conditions. -/
import Derived.Shelf.SlSortCmp.WholeK
import Derived.Shelf.SlSortCmp.NoneTotal
import Derived.Shelf.Spec.SlicesGrow
import Derived.Test.YtoggmegpodmfnaaGreatDoorLay
import Derived.Test.YtoggmegpodmfnaaGreatDoorLayG
import Derived.Test.YtoggmegpodmfnaaGreatDoorWWords
import Derived.Test.YtoggmegpodmfnaaGreatDoorWLast
import Derived.Test.YtoggmegpodmfnaaGreatDoorWTab
import Derived.Test.YtoggmegpodmfnaaGreatDoorWFour
import Derived.Test.YtoggmegpodmfnaaGreatDoorWQPut
import Derived.Test.YtoggmegpodmfnaaGreatDoorWApart
import Derived.Test.YtoggmegpodmfnaaGreatDoorWArr
import Derived.Test.YtoggmegpodmfnaaGreatDoorWZeros
import Derived.Test.YtoggmegpodmfnaaGreatDoorWFoot
import Derived.Test.YtoggmegpodmfnaaGreatDoorWKept
import Derived.Test.YtoggmegpodmfnaaGreatDoorWShare
import Derived.Test.YtoggmegpodmfnaaGreatDoorWN
import Derived.Test.YtoggmegpodmfnaaGreatDoorWFootNe
import Derived.Test.YtoggmegpodmfnaaGreatDoorWAt
import Derived.Test.YtoggmegpodmfnaaGreatDoorWEqStruct
import Derived.Test.YtoggmegpodmfnaaGreatDoorWRepsOne
import Derived.Test.YtoggmegpodmfnaaGreatDoorWInv
import Derived.Test.YtoggmegpodmfnaaGreatDoorWInvWords
import Derived.Test.YtoggmegpodmfnaaGreatDoorWGuard
import Derived.Test.YtoggmegpodmfnaaGreatDoorWNEv
import Derived.Test.YtoggmegpodmfnaaGreatDoorWMore
namespace Go.Proofs.YtoggmegpodmfnaaGreatDoor.B
open Go.RowKit Go.Proofs.YtoggmegpodmfnaaGreatDoorW.PrintWords Go.Proofs.YtoggmegpodmfnaaGreatDoorW.PrintLast Go.Proofs.YtoggmegpodmfnaaGreatDoorW.PrintMore
set_option linter.unusedVariables false
set_option linter.unusedSimpArgs false
open Go.Sort in
theorem flatK_get {α : Type} [Inhabited α] (enc : α → List Value) (k : Nat) (hk : ∀ x, (enc x).length = k) (xs : List α) (inner : List Value) (hr : Reps (fun x cs => cs = enc x) k xs inner) (t : Nat) (ht : t < xs.length * k) :
    inner[t]? = some (flatK enc k xs.toArray)[t]! := by
  have k0 : 0 < k := by rcases Nat.eq_zero_or_pos k with h | h; · subst h; simp at ht
                        · exact h
  have hj : t / k < xs.length := (Nat.div_lt_iff_lt_mul k0).2 ht; rw [get_flatK _ _ _ _ (by simpa using ht)]; have e := hr.2 (t / k) xs[t / k] (List.getElem?_eq_getElem hj); have hm : t % k < k := Nat.mod_lt _ k0
  have e2 : inner[t]? = ((inner.drop (t / k * k)).take k)[t % k]? := by
    rw [List.getElem?_take, if_pos hm, List.getElem?_drop]
    congr 1
    have := Nat.div_add_mod t k; rw [Nat.mul_comm] at this; omega
  rw [e2, e]
  have hd : xs.toArray[t / k]! = xs[t / k] := by simp [hj]
  rw [hd, List.getElem!_eq_getElem?_getD, List.getElem?_eq_getElem (by rw [hk]; exact hm)]; rfl
open Go.Sort in
theorem flatK_reps {α : Type} [Inhabited α] (R : α → List Value → Prop) (enc : α → List Value) (k : Nat) (hk : ∀ x, (enc x).length = k) (hR : ∀ x, R x (enc x)) (d : Array α) :
    Reps R k d.toList (flatK enc k d).toList := by
  refine ⟨by simp, fun j p hp => ?_⟩
  have hj : j < d.size := by have := (List.getElem?_eq_some_iff.1 hp).1; simpa using this
  have hp' : d[j]! = p := by
    have : d.toList[j]? = some d[j]! := by simp [hj]
    rw [this] at hp; exact Option.some.inj hp
  have : ((flatK enc k d).toList.drop (j * k)).take k = enc p := by
    apply List.ext_getElem?; intro i
    by_cases hi : i < k
    · have hlt : j * k + i < d.size * k := by
        have := Nat.mul_le_mul_right k (show j + 1 ≤ d.size from hj); rw [Nat.add_mul, Nat.one_mul] at this; omega
      have e1 : (j * k + i) / k = j := (blk_iff k j _ (by omega)).1 ⟨by omega, by omega⟩
      have e2 : (j * k + i) % k = i := by rw [Nat.mod_eq_sub_div_mul, e1]; omega
      rw [List.getElem?_take, if_pos hi, List.getElem?_drop]; have := get_flatK enc k d _ hlt; rw [e1, e2, hp'] at this
      have hs : j * k + i < (flatK enc k d).size := by rw [size_flatK]; exact hlt
      rw [Array.getElem?_toList, Array.getElem?_eq_getElem hs, ← getElem!_pos (flatK enc k d) (j * k + i) hs, this, List.getElem!_eq_getElem?_getD, List.getElem?_eq_getElem (by rw [hk]; exact hi)]; rfl
    · rw [List.getElem?_eq_none (by simp; omega), List.getElem?_eq_none (by rw [hk]; omega)]
  rw [this]; exact hR p
open Go.Sort in
theorem R_sorted {α : Type} [Inhabited α] {d : Kd α} (enc : α → List Value) (hk : ∀ x, (enc x).length = d.sz) (h0 : 0 < d.sz) (ho : ∀ w b ok x cs, d.M w b ok x cs → cs = enc x) (hm : ∀ w b ok x, d.M w b ok x (enc x))
    {e base g n cap : Nat} {ok : Nat → Prop} {w : World} {xs : List α} (h : d.R e w base ok (.slice (some ⟨g, 0, none⟩) n cap) xs) :
    HoldsK enc d.sz w g 0 xs.toArray ∧ g < w.heap.size ∧ ∀ (d' : Array α) (m : Nat) (os : Array Obj), d'.size = xs.length →
      d.R e (sortWorldK enc d.sz w g 0 m d' os) base ok (.slice (some ⟨g, 0, none⟩) n cap) d'.toList ∧ w.grownBy (sortWorldK enc d.sz w g 0 m d' os) (some g) := by
  obtain ⟨hok, inner, hown, hr⟩ := h; have hr1 : Reps (fun x cs => cs = enc x) d.sz xs inner := ⟨hr.1, fun j p hp => ho _ _ _ _ _ (hr.2 j p hp)⟩
  rcases hown with ⟨hil, ⟨hv, _⟩ | ⟨g', cap', cur, hv, hb, hh, hnc, hcm, hcs, hct⟩⟩
  · cases hv
  injection hv with ha hn hc; injection ha with ha; injection ha with hg'; subst hg'; subst hc; subst hn; have hle : xs.length * d.sz ≤ cap * d.sz := Nat.mul_le_mul_right _ hnc
  have hcell : ∀ t, t < xs.length * d.sz → cur[t]? = some (flatK enc d.sz xs.toArray)[t]! := fun t ht => by
    rw [← flatK_get enc d.sz hk xs inner hr1 t ht, ← hct, List.getElem?_take, if_pos ht, Array.getElem?_toList]
  have hlt : g < w.heap.size := (Array.getElem?_eq_some_iff.1 hh).1; refine ⟨fun t ht => ?_, hlt, fun d' m os hs => ?_⟩
  · have ht' : t < xs.length * d.sz := by simpa using ht
    refine ⟨?_, blk_frozen hh _⟩; have := hcell t ht'; rw [Nat.zero_add]; simp only [World.cell?, hh]
    simpa using this
  · have hheap : (sortWorldK enc d.sz w g 0 m d' os).heap[g]? = some (.cells (putCells id 0 (flatK enc d.sz d') cur) e (0, 0)) := by
      unfold sortWorldK putRowK; rw [heap_grow_old _ _ (by simpa using hlt)]; unfold putRow mapBlock; rw [Array.getElem?_modify]
      simp [hh, onCells]
    refine ⟨⟨hok, (flatK enc d.sz d').toList, ⟨by simp [hs], .inr ⟨g, cap, _, by rw [show d'.toList.length = xs.length by simp [hs]], hb, hheap, by simpa [hs] using hnc, hcm, by simp [putCells, hcs], ?_⟩⟩, flatK_reps _ enc d.sz hk (fun x => hm _ _ _ x) d'⟩, ?_⟩
    · apply List.ext_getElem?
      intro t
      by_cases ht : t < xs.length * d.sz
      · have ht2 : t < (flatK enc d.sz d').size := by simp [hs, ht]
        rw [List.getElem?_take, if_pos (by simpa [hs] using ht), Array.getElem?_toList, Array.getElem?_toList, Array.getElem?_eq_getElem ht2]; simp only [putCells, Array.getElem?_mapIdx]; rw [Array.getElem?_eq_getElem (show t < cur.size by omega)]
        have ht3 : t < d'.size * d.sz := by simpa using ht2
        simp [ht3]
      · rw [List.getElem?_eq_none (by simp [hs]; omega), List.getElem?_eq_none (by simp [hs]; omega)]
    · refine ⟨rfl, rfl, rfl, by simp [sortWorldK, putRowK], fun k hkl hne => ?_⟩; unfold sortWorldK putRowK; rw [heap_grow_old _ _ (by simpa using hkl)]; unfold putRow mapBlock; rw [Array.getElem?_modify, if_neg (fun he => hne (by rw [he]))]; rfl
end Go.Proofs.YtoggmegpodmfnaaGreatDoor.B
