/- Contracts of functions that the law reaches: what each call answers, as a plain function of what it reads; on condition that the function answers there. Printed by this session's own tool. -/
import Derived.Test.YtoggmegpodmfnaaDoorPTx0
import Derived.Test.YtoggmegpodmfnaaDoorPTx2
import Derived.Test.YtoggmegpodmfnaaDoorPTx3
import Derived.Test.YtoggmegpodmfnaaDoorPTx4
import Derived.Test.YtoggmegpodmfnaaDoorPTx5
namespace Go.Proofs.YtoggmegpodmfnaaDoor.PT
open Go.RowKit Go.Proofs.YtoggmegpodmfnaaDoor.B Go.Proofs.YtoggmegpodmfnaaDoorW.PrintWords Go.Proofs.YtoggmegpodmfnaaDoorW.PrintLast Go.Proofs.YtoggmegpodmfnaaDoorW.PrintMore
attribute [local go_sem] max2_int min2_int max_two min_two max_three min_three max_four min_four   -- for this text's walks alone
set_option linter.unusedVariables false
set_option linter.unusedSimpArgs false

/-! ### thistlelaw02_SetsParts: function 6 -/
mutual
def thistlelaw02_SetsParts.l0 : Nat → List (List (S29)) → List (List (S29)) → Int → Option (Bool)
 | 0, _, _, _ => none
 | k + 1, x0, x3, x4 => if x4 < (x0.length : Int) then (if 0 ≤ x4 then ((sets_Make.f k (rd_L2 x0 x4)).bind fun bt158 => (if bt158.2 = 0 then (if x3.length < 5864062014805 then (thistlelaw02_SetsParts.l0 k x0 (x3 ++ [bt158.1]) (wrap64 (x4 + 1))) else (none)) else (thistlelaw02_SetsParts.l0 k x0 x3 (wrap64 (x4 + 1))))) else (none)) else ((sets_Parts.f k x3).bind fun bt165 => (if bt165.2 = 0 then (thistlelaw02_SetsParts.j1 k x3 bt165.1 ((bt165.1.length : Int) == 0)) else (thistlelaw02_SetsParts.j1 k x3 bt165.1 true)))
def thistlelaw02_SetsParts.j1 : Nat → List (List (S29)) → List (List (S29)) → Bool → Option (Bool)
 | 0, _, _, _ => none
 | k + 1, x3, x7, x50 => if x50 = true then (some false) else (thistlelaw02_SetsParts.l1 k x3 x7 ([] : List Int) 0)
def thistlelaw02_SetsParts.l1 : Nat → List (List (S29)) → List (List (S29)) → List Int → Int → Option (Bool)
 | 0, _, _, _, _ => none
 | k + 1, x3, x7, x9, x10 => if x10 < (x7.length : Int) then (if 0 ≤ x10 then (if ((rd_L2 x7 x10).length : Int) = 0 then (some false) else ((thistlelaw02_sound.f k (rd_L2 x7 x10)).bind fun t171 => (if t171 = true then (if x10 > 0 then (if 0 ≤ (wrap64 (x10 - 1)) then (if (wrap64 (x10 - 1)) < (x7.length : Int) then (if 0 < ((rd_L2 x7 (wrap64 (x10 - 1))).length : Int) then (if 0 < ((rd_L2 x7 x10).length : Int) then (if ((rd_T29 (rd_L2 x7 (wrap64 (x10 - 1))) 0).f0) ≥ ((rd_T29 (rd_L2 x7 x10) 0).f0) then (some false) else ((thistlelaw02_ends.f k (rd_L2 x7 x10)).bind fun t177 => (if x9.length + t177.length < 17592186044416 then (thistlelaw02_SetsParts.l1 k x3 x7 (x9 ++ t177) (wrap64 (x10 + 1))) else (none)))) else (none)) else (none)) else (none)) else (none)) else ((thistlelaw02_ends.f k (rd_L2 x7 x10)).bind fun t184 => (if x9.length + t184.length < 17592186044416 then (thistlelaw02_SetsParts.l1 k x3 x7 (x9 ++ t184) (wrap64 (x10 + 1))) else (none)))) else (some false)))) else (none)) else (thistlelaw02_SetsParts.l2 k x3 x7 x9 0)
def thistlelaw02_SetsParts.l2 : Nat → List (List (S29)) → List (List (S29)) → List Int → Int → Option (Bool)
 | 0, _, _, _, _ => none
 | k + 1, x3, x7, x9, x11 => if x11 < (x3.length : Int) then (if 0 ≤ x11 then ((thistlelaw02_ends.f k (rd_L2 x3 x11)).bind fun t191 => (if x9.length + t191.length < 17592186044416 then (thistlelaw02_SetsParts.l2 k x3 x7 (x9 ++ t191) (wrap64 (x11 + 1))) else (none))) else (none)) else (thistlelaw02_SetsParts.l3 k x3 x7 x9 0)
def thistlelaw02_SetsParts.l3 : Nat → List (List (S29)) → List (List (S29)) → List Int → Int → Option (Bool)
 | 0, _, _, _, _ => none
 | k + 1, x3, x7, x9, x12 => if x12 < (x9.length : Int) then (thistlelaw02_SetsParts.l4 k x3 x7 x9 x12 0 0) else (thistlelaw02_SetsParts.l5 k x3 x7 0)
def thistlelaw02_SetsParts.l4 : Nat → List (List (S29)) → List (List (S29)) → List Int → Int → Int → Int → Option (Bool)
 | 0, _, _, _, _, _, _ => none
 | k + 1, x3, x7, x9, x12, x13, x14 => if x14 < (x7.length : Int) then (if 0 ≤ x14 then (if 0 ≤ x12 then (if x12 < (x9.length : Int) then ((thistlelaw02_within.f k (rd_L2 x7 x14) (rd x9 x12)).bind fun t201 => (if t201 = true then ((thistlelaw02_told.f k x3 (rd x9 x12)).bind fun t203 => (if 0 < ((rd_L2 x7 x14).length : Int) then ((thistlelaw02_told.f k x3 (wrap64 ((rd_T29 (rd_L2 x7 x14) 0).f0))).bind fun t208 => ((thistlelaw02_alike.f k t203 t208).bind fun t211 => (if t211 = true then (thistlelaw02_SetsParts.l4 k x3 x7 x9 x12 (wrap64 (x13 + 1)) (wrap64 (x14 + 1))) else (some false)))) else (none))) else (thistlelaw02_SetsParts.l4 k x3 x7 x9 x12 x13 (wrap64 (x14 + 1))))) else (none)) else (none)) else (none)) else (if 0 ≤ x12 then (if x12 < (x9.length : Int) then ((thistlelaw02_unit.f (rd x9 x12)).bind fun t198 => (if (t198 != (x13 == 1)) = true then (some false) else (if x13 > 1 then (some false) else (thistlelaw02_SetsParts.l3 k x3 x7 x9 (wrap64 (x12 + 1)))))) else (none)) else (none))
def thistlelaw02_SetsParts.l5 : Nat → List (List (S29)) → List (List (S29)) → Int → Option (Bool)
 | 0, _, _, _ => none
 | k + 1, x3, x7, x15 => if x15 < (x7.length : Int) then (thistlelaw02_SetsParts.l6 k x3 x7 x15 0) else (some true)
def thistlelaw02_SetsParts.l6 : Nat → List (List (S29)) → List (List (S29)) → Int → Int → Option (Bool)
 | 0, _, _, _, _ => none
 | k + 1, x3, x7, x15, x16 => if x16 < x15 then (if 0 ≤ x15 then (if x15 < (x7.length : Int) then (if 0 < ((rd_L2 x7 x15).length : Int) then ((thistlelaw02_told.f k x3 (wrap64 ((rd_T29 (rd_L2 x7 x15) 0).f0))).bind fun t214 => (if 0 ≤ x16 then (if x16 < (x7.length : Int) then (if 0 < ((rd_L2 x7 x16).length : Int) then ((thistlelaw02_told.f k x3 (wrap64 ((rd_T29 (rd_L2 x7 x16) 0).f0))).bind fun t219 => ((thistlelaw02_alike.f k t214 t219).bind fun t222 => (if t222 = true then (some false) else (thistlelaw02_SetsParts.l6 k x3 x7 x15 (wrap64 (x16 + 1)))))) else (none)) else (none)) else (none))) else (none)) else (none)) else (none)) else (thistlelaw02_SetsParts.l5 k x3 x7 (wrap64 (x15 + 1)))
end
def thistlelaw02_SetsParts.f (k : Nat) (l0 : List (List (S29))) : Option (Bool) := (thistlelaw02_wakes.f k).bind fun t156 => (if t156 = true then (thistlelaw02_SetsParts.l0 k l0 ([] : List (List (S29))) 0) else (some false))
theorem thistlelaw02_SetsParts.mono_l : ∀ k, (∀ y0 y1 y2, LeO (thistlelaw02_SetsParts.l0 k y0 y1 y2) (thistlelaw02_SetsParts.l0 (k + 1) y0 y1 y2)) ∧ (∀ y0 y1 y2, LeO (thistlelaw02_SetsParts.j1 k y0 y1 y2) (thistlelaw02_SetsParts.j1 (k + 1) y0 y1 y2)) ∧ (∀ y0 y1 y2 y3, LeO (thistlelaw02_SetsParts.l1 k y0 y1 y2 y3) (thistlelaw02_SetsParts.l1 (k + 1) y0 y1 y2 y3)) ∧ (∀ y0 y1 y2 y3, LeO (thistlelaw02_SetsParts.l2 k y0 y1 y2 y3) (thistlelaw02_SetsParts.l2 (k + 1) y0 y1 y2 y3)) ∧ (∀ y0 y1 y2 y3, LeO (thistlelaw02_SetsParts.l3 k y0 y1 y2 y3) (thistlelaw02_SetsParts.l3 (k + 1) y0 y1 y2 y3)) ∧ (∀ y0 y1 y2 y3 y4 y5, LeO (thistlelaw02_SetsParts.l4 k y0 y1 y2 y3 y4 y5) (thistlelaw02_SetsParts.l4 (k + 1) y0 y1 y2 y3 y4 y5)) ∧ (∀ y0 y1 y2, LeO (thistlelaw02_SetsParts.l5 k y0 y1 y2) (thistlelaw02_SetsParts.l5 (k + 1) y0 y1 y2)) ∧ (∀ y0 y1 y2 y3, LeO (thistlelaw02_SetsParts.l6 k y0 y1 y2 y3) (thistlelaw02_SetsParts.l6 (k + 1) y0 y1 y2 y3))
 | 0 => ⟨fun _ _ _ r h => by simp [thistlelaw02_SetsParts.l0] at h, fun _ _ _ r h => by simp [thistlelaw02_SetsParts.j1] at h, fun _ _ _ _ r h => by simp [thistlelaw02_SetsParts.l1] at h, fun _ _ _ _ r h => by simp [thistlelaw02_SetsParts.l2] at h, fun _ _ _ _ r h => by simp [thistlelaw02_SetsParts.l3] at h, fun _ _ _ _ _ _ r h => by simp [thistlelaw02_SetsParts.l4] at h, fun _ _ _ r h => by simp [thistlelaw02_SetsParts.l5] at h, fun _ _ _ _ r h => by simp [thistlelaw02_SetsParts.l6] at h⟩
 | k + 1 => by
  obtain ⟨ih0, ih1, ih2, ih3, ih4, ih5, ih6, ih7⟩ := thistlelaw02_SetsParts.mono_l k
  refine ⟨?_, ?_, ?_, ?_, ?_, ?_, ?_, ?_⟩
  ·
   intro y0 y1 y2
   unfold thistlelaw02_SetsParts.l0
   repeat' first
   | (with_reducible exact ih0 _ _ _)
   | (with_reducible exact ih1 _ _ _)
   | (with_reducible exact ih2 _ _ _ _)
   | (with_reducible exact ih3 _ _ _ _)
   | (with_reducible exact ih4 _ _ _ _)
   | (with_reducible exact ih5 _ _ _ _ _ _)
   | (with_reducible exact ih6 _ _ _)
   | (with_reducible exact ih7 _ _ _ _)
   | (with_reducible exact sets_Make.mono _ _)
   | (with_reducible exact sets_Parts.mono _ _)
   | (with_reducible exact thistlelaw02_alike.mono _ _ _)
   | (with_reducible exact thistlelaw02_ends.mono _ _)
   | (with_reducible exact thistlelaw02_sound.mono _ _)
   | (with_reducible exact thistlelaw02_told.mono _ _ _)
   | (with_reducible exact thistlelaw02_wakes.mono _)
   | (with_reducible exact thistlelaw02_within.mono _ _ _)
   | (with_reducible exact LeO.refl _)
   | (with_reducible exact LeO.none _)
   | (with_reducible refine LeO.ite ?_ ?_)
   | (with_reducible refine LeO.bind ?_ (fun _ => ?_))
   | exact ih0 _ _ _
   | exact ih1 _ _ _
   | exact ih2 _ _ _ _
   | exact ih3 _ _ _ _
   | exact ih4 _ _ _ _
   | exact ih5 _ _ _ _ _ _
   | exact ih6 _ _ _
   | exact ih7 _ _ _ _
   | exact sets_Make.mono _ _
   | exact sets_Parts.mono _ _
   | exact thistlelaw02_alike.mono _ _ _
   | exact thistlelaw02_ends.mono _ _
   | exact thistlelaw02_sound.mono _ _
   | exact thistlelaw02_told.mono _ _ _
   | exact thistlelaw02_wakes.mono _
   | exact thistlelaw02_within.mono _ _ _
   | exact LeO.none _
   | refine LeO.ite ?_ ?_
   | refine LeO.bind ?_ (fun _ => ?_)
  ·
   intro y0 y1 y2
   unfold thistlelaw02_SetsParts.j1
   repeat' first
   | (with_reducible exact ih0 _ _ _)
   | (with_reducible exact ih1 _ _ _)
   | (with_reducible exact ih2 _ _ _ _)
   | (with_reducible exact ih3 _ _ _ _)
   | (with_reducible exact ih4 _ _ _ _)
   | (with_reducible exact ih5 _ _ _ _ _ _)
   | (with_reducible exact ih6 _ _ _)
   | (with_reducible exact ih7 _ _ _ _)
   | (with_reducible exact sets_Make.mono _ _)
   | (with_reducible exact sets_Parts.mono _ _)
   | (with_reducible exact thistlelaw02_alike.mono _ _ _)
   | (with_reducible exact thistlelaw02_ends.mono _ _)
   | (with_reducible exact thistlelaw02_sound.mono _ _)
   | (with_reducible exact thistlelaw02_told.mono _ _ _)
   | (with_reducible exact thistlelaw02_wakes.mono _)
   | (with_reducible exact thistlelaw02_within.mono _ _ _)
   | (with_reducible exact LeO.refl _)
   | (with_reducible exact LeO.none _)
   | (with_reducible refine LeO.ite ?_ ?_)
   | (with_reducible refine LeO.bind ?_ (fun _ => ?_))
   | exact ih0 _ _ _
   | exact ih1 _ _ _
   | exact ih2 _ _ _ _
   | exact ih3 _ _ _ _
   | exact ih4 _ _ _ _
   | exact ih5 _ _ _ _ _ _
   | exact ih6 _ _ _
   | exact ih7 _ _ _ _
   | exact sets_Make.mono _ _
   | exact sets_Parts.mono _ _
   | exact thistlelaw02_alike.mono _ _ _
   | exact thistlelaw02_ends.mono _ _
   | exact thistlelaw02_sound.mono _ _
   | exact thistlelaw02_told.mono _ _ _
   | exact thistlelaw02_wakes.mono _
   | exact thistlelaw02_within.mono _ _ _
   | exact LeO.none _
   | refine LeO.ite ?_ ?_
   | refine LeO.bind ?_ (fun _ => ?_)
  ·
   intro y0 y1 y2 y3
   unfold thistlelaw02_SetsParts.l1
   repeat' first
   | (with_reducible exact ih0 _ _ _)
   | (with_reducible exact ih1 _ _ _)
   | (with_reducible exact ih2 _ _ _ _)
   | (with_reducible exact ih3 _ _ _ _)
   | (with_reducible exact ih4 _ _ _ _)
   | (with_reducible exact ih5 _ _ _ _ _ _)
   | (with_reducible exact ih6 _ _ _)
   | (with_reducible exact ih7 _ _ _ _)
   | (with_reducible exact sets_Make.mono _ _)
   | (with_reducible exact sets_Parts.mono _ _)
   | (with_reducible exact thistlelaw02_alike.mono _ _ _)
   | (with_reducible exact thistlelaw02_ends.mono _ _)
   | (with_reducible exact thistlelaw02_sound.mono _ _)
   | (with_reducible exact thistlelaw02_told.mono _ _ _)
   | (with_reducible exact thistlelaw02_wakes.mono _)
   | (with_reducible exact thistlelaw02_within.mono _ _ _)
   | (with_reducible exact LeO.refl _)
   | (with_reducible exact LeO.none _)
   | (with_reducible refine LeO.ite ?_ ?_)
   | (with_reducible refine LeO.bind ?_ (fun _ => ?_))
   | exact ih0 _ _ _
   | exact ih1 _ _ _
   | exact ih2 _ _ _ _
   | exact ih3 _ _ _ _
   | exact ih4 _ _ _ _
   | exact ih5 _ _ _ _ _ _
   | exact ih6 _ _ _
   | exact ih7 _ _ _ _
   | exact sets_Make.mono _ _
   | exact sets_Parts.mono _ _
   | exact thistlelaw02_alike.mono _ _ _
   | exact thistlelaw02_ends.mono _ _
   | exact thistlelaw02_sound.mono _ _
   | exact thistlelaw02_told.mono _ _ _
   | exact thistlelaw02_wakes.mono _
   | exact thistlelaw02_within.mono _ _ _
   | exact LeO.none _
   | refine LeO.ite ?_ ?_
   | refine LeO.bind ?_ (fun _ => ?_)
  ·
   intro y0 y1 y2 y3
   unfold thistlelaw02_SetsParts.l2
   repeat' first
   | (with_reducible exact ih0 _ _ _)
   | (with_reducible exact ih1 _ _ _)
   | (with_reducible exact ih2 _ _ _ _)
   | (with_reducible exact ih3 _ _ _ _)
   | (with_reducible exact ih4 _ _ _ _)
   | (with_reducible exact ih5 _ _ _ _ _ _)
   | (with_reducible exact ih6 _ _ _)
   | (with_reducible exact ih7 _ _ _ _)
   | (with_reducible exact sets_Make.mono _ _)
   | (with_reducible exact sets_Parts.mono _ _)
   | (with_reducible exact thistlelaw02_alike.mono _ _ _)
   | (with_reducible exact thistlelaw02_ends.mono _ _)
   | (with_reducible exact thistlelaw02_sound.mono _ _)
   | (with_reducible exact thistlelaw02_told.mono _ _ _)
   | (with_reducible exact thistlelaw02_wakes.mono _)
   | (with_reducible exact thistlelaw02_within.mono _ _ _)
   | (with_reducible exact LeO.refl _)
   | (with_reducible exact LeO.none _)
   | (with_reducible refine LeO.ite ?_ ?_)
   | (with_reducible refine LeO.bind ?_ (fun _ => ?_))
   | exact ih0 _ _ _
   | exact ih1 _ _ _
   | exact ih2 _ _ _ _
   | exact ih3 _ _ _ _
   | exact ih4 _ _ _ _
   | exact ih5 _ _ _ _ _ _
   | exact ih6 _ _ _
   | exact ih7 _ _ _ _
   | exact sets_Make.mono _ _
   | exact sets_Parts.mono _ _
   | exact thistlelaw02_alike.mono _ _ _
   | exact thistlelaw02_ends.mono _ _
   | exact thistlelaw02_sound.mono _ _
   | exact thistlelaw02_told.mono _ _ _
   | exact thistlelaw02_wakes.mono _
   | exact thistlelaw02_within.mono _ _ _
   | exact LeO.none _
   | refine LeO.ite ?_ ?_
   | refine LeO.bind ?_ (fun _ => ?_)
  ·
   intro y0 y1 y2 y3
   unfold thistlelaw02_SetsParts.l3
   repeat' first
   | (with_reducible exact ih0 _ _ _)
   | (with_reducible exact ih1 _ _ _)
   | (with_reducible exact ih2 _ _ _ _)
   | (with_reducible exact ih3 _ _ _ _)
   | (with_reducible exact ih4 _ _ _ _)
   | (with_reducible exact ih5 _ _ _ _ _ _)
   | (with_reducible exact ih6 _ _ _)
   | (with_reducible exact ih7 _ _ _ _)
   | (with_reducible exact sets_Make.mono _ _)
   | (with_reducible exact sets_Parts.mono _ _)
   | (with_reducible exact thistlelaw02_alike.mono _ _ _)
   | (with_reducible exact thistlelaw02_ends.mono _ _)
   | (with_reducible exact thistlelaw02_sound.mono _ _)
   | (with_reducible exact thistlelaw02_told.mono _ _ _)
   | (with_reducible exact thistlelaw02_wakes.mono _)
   | (with_reducible exact thistlelaw02_within.mono _ _ _)
   | (with_reducible exact LeO.refl _)
   | (with_reducible exact LeO.none _)
   | (with_reducible refine LeO.ite ?_ ?_)
   | (with_reducible refine LeO.bind ?_ (fun _ => ?_))
   | exact ih0 _ _ _
   | exact ih1 _ _ _
   | exact ih2 _ _ _ _
   | exact ih3 _ _ _ _
   | exact ih4 _ _ _ _
   | exact ih5 _ _ _ _ _ _
   | exact ih6 _ _ _
   | exact ih7 _ _ _ _
   | exact sets_Make.mono _ _
   | exact sets_Parts.mono _ _
   | exact thistlelaw02_alike.mono _ _ _
   | exact thistlelaw02_ends.mono _ _
   | exact thistlelaw02_sound.mono _ _
   | exact thistlelaw02_told.mono _ _ _
   | exact thistlelaw02_wakes.mono _
   | exact thistlelaw02_within.mono _ _ _
   | exact LeO.none _
   | refine LeO.ite ?_ ?_
   | refine LeO.bind ?_ (fun _ => ?_)
  ·
   intro y0 y1 y2 y3 y4 y5
   unfold thistlelaw02_SetsParts.l4
   repeat' first
   | (with_reducible exact ih0 _ _ _)
   | (with_reducible exact ih1 _ _ _)
   | (with_reducible exact ih2 _ _ _ _)
   | (with_reducible exact ih3 _ _ _ _)
   | (with_reducible exact ih4 _ _ _ _)
   | (with_reducible exact ih5 _ _ _ _ _ _)
   | (with_reducible exact ih6 _ _ _)
   | (with_reducible exact ih7 _ _ _ _)
   | (with_reducible exact sets_Make.mono _ _)
   | (with_reducible exact sets_Parts.mono _ _)
   | (with_reducible exact thistlelaw02_alike.mono _ _ _)
   | (with_reducible exact thistlelaw02_ends.mono _ _)
   | (with_reducible exact thistlelaw02_sound.mono _ _)
   | (with_reducible exact thistlelaw02_told.mono _ _ _)
   | (with_reducible exact thistlelaw02_wakes.mono _)
   | (with_reducible exact thistlelaw02_within.mono _ _ _)
   | (with_reducible exact LeO.refl _)
   | (with_reducible exact LeO.none _)
   | (with_reducible refine LeO.ite ?_ ?_)
   | (with_reducible refine LeO.bind ?_ (fun _ => ?_))
   | exact ih0 _ _ _
   | exact ih1 _ _ _
   | exact ih2 _ _ _ _
   | exact ih3 _ _ _ _
   | exact ih4 _ _ _ _
   | exact ih5 _ _ _ _ _ _
   | exact ih6 _ _ _
   | exact ih7 _ _ _ _
   | exact sets_Make.mono _ _
   | exact sets_Parts.mono _ _
   | exact thistlelaw02_alike.mono _ _ _
   | exact thistlelaw02_ends.mono _ _
   | exact thistlelaw02_sound.mono _ _
   | exact thistlelaw02_told.mono _ _ _
   | exact thistlelaw02_wakes.mono _
   | exact thistlelaw02_within.mono _ _ _
   | exact LeO.none _
   | refine LeO.ite ?_ ?_
   | refine LeO.bind ?_ (fun _ => ?_)
  ·
   intro y0 y1 y2
   unfold thistlelaw02_SetsParts.l5
   repeat' first
   | (with_reducible exact ih0 _ _ _)
   | (with_reducible exact ih1 _ _ _)
   | (with_reducible exact ih2 _ _ _ _)
   | (with_reducible exact ih3 _ _ _ _)
   | (with_reducible exact ih4 _ _ _ _)
   | (with_reducible exact ih5 _ _ _ _ _ _)
   | (with_reducible exact ih6 _ _ _)
   | (with_reducible exact ih7 _ _ _ _)
   | (with_reducible exact sets_Make.mono _ _)
   | (with_reducible exact sets_Parts.mono _ _)
   | (with_reducible exact thistlelaw02_alike.mono _ _ _)
   | (with_reducible exact thistlelaw02_ends.mono _ _)
   | (with_reducible exact thistlelaw02_sound.mono _ _)
   | (with_reducible exact thistlelaw02_told.mono _ _ _)
   | (with_reducible exact thistlelaw02_wakes.mono _)
   | (with_reducible exact thistlelaw02_within.mono _ _ _)
   | (with_reducible exact LeO.refl _)
   | (with_reducible exact LeO.none _)
   | (with_reducible refine LeO.ite ?_ ?_)
   | (with_reducible refine LeO.bind ?_ (fun _ => ?_))
   | exact ih0 _ _ _
   | exact ih1 _ _ _
   | exact ih2 _ _ _ _
   | exact ih3 _ _ _ _
   | exact ih4 _ _ _ _
   | exact ih5 _ _ _ _ _ _
   | exact ih6 _ _ _
   | exact ih7 _ _ _ _
   | exact sets_Make.mono _ _
   | exact sets_Parts.mono _ _
   | exact thistlelaw02_alike.mono _ _ _
   | exact thistlelaw02_ends.mono _ _
   | exact thistlelaw02_sound.mono _ _
   | exact thistlelaw02_told.mono _ _ _
   | exact thistlelaw02_wakes.mono _
   | exact thistlelaw02_within.mono _ _ _
   | exact LeO.none _
   | refine LeO.ite ?_ ?_
   | refine LeO.bind ?_ (fun _ => ?_)
  ·
   intro y0 y1 y2 y3
   unfold thistlelaw02_SetsParts.l6
   repeat' first
   | (with_reducible exact ih0 _ _ _)
   | (with_reducible exact ih1 _ _ _)
   | (with_reducible exact ih2 _ _ _ _)
   | (with_reducible exact ih3 _ _ _ _)
   | (with_reducible exact ih4 _ _ _ _)
   | (with_reducible exact ih5 _ _ _ _ _ _)
   | (with_reducible exact ih6 _ _ _)
   | (with_reducible exact ih7 _ _ _ _)
   | (with_reducible exact sets_Make.mono _ _)
   | (with_reducible exact sets_Parts.mono _ _)
   | (with_reducible exact thistlelaw02_alike.mono _ _ _)
   | (with_reducible exact thistlelaw02_ends.mono _ _)
   | (with_reducible exact thistlelaw02_sound.mono _ _)
   | (with_reducible exact thistlelaw02_told.mono _ _ _)
   | (with_reducible exact thistlelaw02_wakes.mono _)
   | (with_reducible exact thistlelaw02_within.mono _ _ _)
   | (with_reducible exact LeO.refl _)
   | (with_reducible exact LeO.none _)
   | (with_reducible refine LeO.ite ?_ ?_)
   | (with_reducible refine LeO.bind ?_ (fun _ => ?_))
   | exact ih0 _ _ _
   | exact ih1 _ _ _
   | exact ih2 _ _ _ _
   | exact ih3 _ _ _ _
   | exact ih4 _ _ _ _
   | exact ih5 _ _ _ _ _ _
   | exact ih6 _ _ _
   | exact ih7 _ _ _ _
   | exact sets_Make.mono _ _
   | exact sets_Parts.mono _ _
   | exact thistlelaw02_alike.mono _ _ _
   | exact thistlelaw02_ends.mono _ _
   | exact thistlelaw02_sound.mono _ _
   | exact thistlelaw02_told.mono _ _ _
   | exact thistlelaw02_wakes.mono _
   | exact thistlelaw02_within.mono _ _ _
   | exact LeO.none _
   | refine LeO.ite ?_ ?_
   | refine LeO.bind ?_ (fun _ => ?_)
theorem thistlelaw02_SetsParts.mono : ∀ a0 k, LeO (thistlelaw02_SetsParts.f k a0) (thistlelaw02_SetsParts.f (k + 1) a0) := by
 intro a0 k
 obtain ⟨ih0, ih1, ih2, ih3, ih4, ih5, ih6, ih7⟩ := thistlelaw02_SetsParts.mono_l k
 unfold thistlelaw02_SetsParts.f
 repeat' first
   | (with_reducible exact ih0 _ _ _)
   | (with_reducible exact ih1 _ _ _)
   | (with_reducible exact ih2 _ _ _ _)
   | (with_reducible exact ih3 _ _ _ _)
   | (with_reducible exact ih4 _ _ _ _)
   | (with_reducible exact ih5 _ _ _ _ _ _)
   | (with_reducible exact ih6 _ _ _)
   | (with_reducible exact ih7 _ _ _ _)
   | (with_reducible exact sets_Make.mono _ _)
   | (with_reducible exact sets_Parts.mono _ _)
   | (with_reducible exact thistlelaw02_alike.mono _ _ _)
   | (with_reducible exact thistlelaw02_ends.mono _ _)
   | (with_reducible exact thistlelaw02_sound.mono _ _)
   | (with_reducible exact thistlelaw02_told.mono _ _ _)
   | (with_reducible exact thistlelaw02_wakes.mono _)
   | (with_reducible exact thistlelaw02_within.mono _ _ _)
   | (with_reducible exact LeO.refl _)
   | (with_reducible exact LeO.none _)
   | (with_reducible refine LeO.ite ?_ ?_)
   | (with_reducible refine LeO.bind ?_ (fun _ => ?_))
   | exact ih0 _ _ _
   | exact ih1 _ _ _
   | exact ih2 _ _ _ _
   | exact ih3 _ _ _ _
   | exact ih4 _ _ _ _
   | exact ih5 _ _ _ _ _ _
   | exact ih6 _ _ _
   | exact ih7 _ _ _ _
   | exact sets_Make.mono _ _
   | exact sets_Parts.mono _ _
   | exact thistlelaw02_alike.mono _ _ _
   | exact thistlelaw02_ends.mono _ _
   | exact thistlelaw02_sound.mono _ _
   | exact thistlelaw02_told.mono _ _ _
   | exact thistlelaw02_wakes.mono _
   | exact thistlelaw02_within.mono _ _ _
   | exact LeO.none _
   | refine LeO.ite ?_ ?_
   | refine LeO.bind ?_ (fun _ => ?_)
def thistlelaw02_SetsParts.T17 : Bool × List (List Nat × List Nat) := (true, [([], []), ([], []), ([0, 1], [0, 1]), ([2], [2]), ([3], [3]), ([4], [4]), ([5], [5]), ([6], [6]), ([6], [6]), ([7, 8, 6], [6, 7, 8]), ([9, 6], [6, 9]), ([10, 6, 6], [6, 10]), ([11, 6], [6, 11]), ([6, 12], [6, 12]), ([13, 11], [13]), ([14], [14]), ([15, 14], [14, 15]), ([16, 14, 14], [14, 16]), ([17], [17]), ([17], [17]), ([19, 17], [17, 19]), ([18, 20, 17], [17, 18, 20]), ([21, 17], [17, 21]), ([22, 17], [17, 22]), ([23, 17], [17, 23]), ([24, 17], [17, 24]), ([17], [17]), ([17], [17]), ([26, 27, 17], [17, 26, 27]), ([28, 17], [17, 28]), ([29, 17], [17, 29]), ([30, 17], [17, 30]), ([31, 17], [17, 31]), ([25, 32, 17], [17, 25, 32]), ([17, 33, 14], [14, 17, 33]), ([14, 34], [14, 34])])
def thistlelaw02_SetsParts.B17 : List Nat := [0, 0, 3, 7, 15, 31, 63, 127, 127, 511, 1023, 2047, 4095, 8191, 16383, 32767, 65535, 131071, 262143, 262143, 786431, 2097151, 4194303, 8388607, 16777215, 33554431, 262143, 262143, 201588735, 470024191, 1006895103, 2080636927, 4228120575, 8589934591, 17179869183, 34359738367]
theorem thistlelaw02_SetsParts.tab17 : rtab .any (opsOf Tryd.f6 17) = thistlelaw02_SetsParts.T17 := by kernel_rfl
theorem thistlelaw02_SetsParts.bits17 : waitsOk thistlelaw02_SetsParts.T17.2 thistlelaw02_SetsParts.B17 = true := by kernel_rfl
def thistlelaw02_SetsParts.T31 : Bool × List (List Nat × List Nat) := (true, [([], []), ([], []), ([0, 1], [0, 1]), ([2], [2]), ([], []), ([], []), ([4, 5], [4, 5]), ([6], [6]), ([3, 7], [3, 7])])
def thistlelaw02_SetsParts.B31 : List Nat := [0, 0, 3, 7, 0, 0, 48, 112, 255]
theorem thistlelaw02_SetsParts.tab31 : rtab .any (opsOf Tryd.f6 31) = thistlelaw02_SetsParts.T31 := by kernel_rfl
theorem thistlelaw02_SetsParts.bits31 : waitsOk thistlelaw02_SetsParts.T31.2 thistlelaw02_SetsParts.B31 = true := by kernel_rfl
def thistlelaw02_SetsParts.T33 : Bool × List (List Nat × List Nat) := (true, [([], []), ([], []), ([], []), ([1, 2], [1, 2]), ([3], [3]), ([0, 4], [0, 4]), ([], []), ([], []), ([], []), ([7, 8], [7, 8]), ([9], [9]), ([10], [10]), ([11], [11]), ([12], [12]), ([13], [13]), ([6, 14, 5], [6, 14]), ([5, 15, 15], [5, 15]), ([16], [16])])
def thistlelaw02_SetsParts.B33 : List Nat := [0, 0, 0, 6, 14, 31, 0, 0, 0, 384, 896, 1920, 3968, 8064, 16256, 32767, 65535, 131071]
theorem thistlelaw02_SetsParts.tab33 : rtab .any (opsOf Tryd.f6 33) = thistlelaw02_SetsParts.T33 := by kernel_rfl
theorem thistlelaw02_SetsParts.bits33 : waitsOk thistlelaw02_SetsParts.T33.2 thistlelaw02_SetsParts.B33 = true := by kernel_rfl
def thistlelaw02_SetsParts.T43 : Bool × List (List Nat × List Nat) := (true, [([], []), ([], []), ([], []), ([1, 2], [1, 2]), ([3], [3]), ([4], [4]), ([5], [5]), ([6], [6]), ([7], [7]), ([0, 8], [0, 8]), ([], []), ([], []), ([], []), ([11, 12], [11, 12]), ([13], [13]), ([14], [14]), ([15], [15]), ([16], [16]), ([17], [17]), ([10, 18, 9], [10, 18]), ([9, 19, 19], [9, 19])])
def thistlelaw02_SetsParts.B43 : List Nat := [0, 0, 0, 6, 14, 30, 62, 126, 254, 511, 0, 0, 0, 6144, 14336, 30720, 63488, 129024, 260096, 524287, 1048575]
theorem thistlelaw02_SetsParts.tab43 : rtab .any (opsOf Tryd.f6 43) = thistlelaw02_SetsParts.T43 := by kernel_rfl
theorem thistlelaw02_SetsParts.bits43 : waitsOk thistlelaw02_SetsParts.T43.2 thistlelaw02_SetsParts.B43 = true := by kernel_rfl
set_option maxHeartbeats 8000000 in
set_option maxRecDepth 100000 in
theorem thistlelaw02_SetsParts.calls (k : Nat) (A0 : Option Addr) (c0 : Nat) (l0 : List (List (S29))) (r : Bool) (w : World) (hr0 : Kd.C (Kd.slice 29 k29) w A0 l0.length l0) (hc0 : l0.length ≤ c0) (hG : Glob w) (hrt : Aside0 (r = true)) (h : thistlelaw02_SetsParts.f k l0 = some r) :
  Calls Tryd.prog 6 #[.slice A0 l0.length c0] w fun e w' => e = .returned (.bool r) ∧ Below w.heap.size w w' := by
 have HR0 := Aside0.mk hr0
 have HC0 := Aside0.mk hc0
 clear hr0 hc0
 have HB := Aside0.mk (Below.refl w.heap.size w)
 have H : ((thistlelaw02_wakes.f k).bind fun t156 => (if t156 = true then (thistlelaw02_SetsParts.l0 k l0 ([] : List (List (S29))) 0) else (some false))) = some r := h
 clear h
 replace H := Option.bind_eq_some_iff.mp H
 obtain ⟨t156, A20, H⟩ := H
 replace H : (if t156 = true then (thistlelaw02_SetsParts.l0 k l0 ([] : List (List (S29))) 0) else (some false)) = some r := H
 have A2 := Aside0.mk A20
 clear A20
 by_cases c3 : t156 = true
 ·
  subst c3
  have H1 : (thistlelaw02_SetsParts.l0 k l0 ([] : List (List (S29))) 0) = some r := by rw [if_pos rfl] at H; exact H
  clear H
  have H := H1
  clear H1
  have H' := Aside0.mk H
  clear H
  go_enter Tryd.func6, Tryd.ntmps6
  go_wp2_with (first | ((with_reducible refine gate_callee (f := 8) rfl ?_); refine goesL_ (some 17) rfl rfl Tryd.func8 (by kernel_rfl) rfl #[] rfl (by (try simp only [List.map_toArray, List.map_cons, List.map_nil]); first | done | rfl | (simp only [List.length_drop, List.length_take]; rfl)) ?_; (with_reducible refine (thistlelaw02_wakes.calls k  true _ ?side1 A2.out).mono ?_); (case side1 => first | exact hG | exact Glob.of_below hG (by repeat (first | (with_reducible first | exact HB.out | apply below_alloc | apply pw_below_drewN | apply below_drew1) | exact HB.out)) | exact Glob.of_below hG HB.out | exact Glob.drewN hG _ | exact Glob.drew hG | (with_reducible repeat (first | exact hG | apply Glob.drewN | apply Glob.drew | apply Glob.alloc))); rintro e w4 ⟨rfl, hb⟩; refine ⟨_, rfl, ?_⟩; have n0_ := Aside0.mk (below_step (by repeat (first | (with_reducible first | exact HB.out | apply below_alloc | apply pw_below_drewN | apply below_drew1) | exact HB.out)) hb); clear HB; have HB := n0_; clear n0_; (try clear hb); (try clear hb2); (try clear hk); (try clear hi)))
  go_loopg [3, 4] k (fun kq v3 v4 w' => ∃ (x3_1 : List (List (S29))) (x4_1 : Int), v4 = .int .i64 x4_1 ∧ Aside0 (thistlelaw02_SetsParts.l0 kq l0 x3_1 x4_1 = some r) ∧ Aside0 (kq ≤ k) ∧ Aside0 (Kd.S (Kd.slice 29 k29) 22 w' w.heap.size (fun _ => True) v3 x3_1) ∧ Aside0 (Below w.heap.size w w'))
  case atStart => exact ⟨(([] : List (List (S29)))), (0), (by first | rfl | (simp; done) | (simp [*]; done)), H', ⟨Nat.le_refl _⟩, ⟨by first | exact Kd.S_nil _ _ _ _ _ | exact Kd.N_nil _ _ _ _ _ | exact Kd.V_nil _ _ _ _ _ | exact Kd.Q_nil _ _ _ _ _ | exact Kd.R_nil _ _ _ _ _⟩, ⟨by repeat (first | (with_reducible first | exact HB.out | apply below_alloc | apply pw_below_drewN | apply below_drew1) | exact HB.out)⟩⟩
  case round =>
   clear H'
   try clear p2
   try clear c3
   obtain ⟨x3_1, x4_1, rfl, HA, HK1, HO_3, HB⟩ := hrel
   cases gk with
   | zero => exact absurd HA.out (by simp [thistlelaw02_SetsParts.l0])
   | succ k1 =>
    have H := HA.out
    clear HA
    simp only [thistlelaw02_SetsParts.l0] at H
    by_cases c5 : x4_1 < (l0.length : Int)
    ·
     rw [if_pos c5] at H
     have c5b0 : decide (x4_1 < (l0.length : Int)) = true := decide_eq_true c5
     clear c5
     by_cases c6 : 0 ≤ x4_1
     ·
      rw [if_pos c6] at H
      have c6b0 : decide (0 ≤ x4_1) = true := decide_eq_true c6
      clear c6
      replace H := Option.bind_eq_some_iff.mp H
      obtain ⟨⟨t158, t159⟩, A70, H⟩ := H
      replace H : (if t159 = 0 then (if x3_1.length < 5864062014805 then (thistlelaw02_SetsParts.l0 k1 l0 (x3_1 ++ [t158]) (wrap64 (x4_1 + 1))) else (none)) else (thistlelaw02_SetsParts.l0 k1 l0 x3_1 (wrap64 (x4_1 + 1)))) = some r := H
      have A7 := Aside0.mk A70
      clear A70
      by_cases c8 : t159 = 0
      ·
       rw [if_pos c8] at H
       have c8b0 : (t159 == 0) = true := beq_iff_eq.mpr c8
       have c8b1 : (t159 != 0) = false := bne_eq_false_iff_eq.mpr c8
       clear c8
       by_cases c9 : x3_1.length < 5864062014805
       ·
        rw [if_pos c9] at H
        have LMc9 := Aside0.mk c9
        clear c9
        obtain ⟨y162, hy162⟩ : ∃ y_ : List (List (S29)), y_ = (x3_1 ++ [t158]) := ⟨_, rfl⟩
        replace H : (thistlelaw02_SetsParts.l0 k1 l0 y162 (wrap64 (x4_1 + 1))) = some r := by first | (rw [hy162]; with_reducible exact H) | (have H2_ := (Option.bind_some _ _).symm.trans H; rw [hy162]; with_reducible exact H2_) | (have H2_ := (Option.bind_some _ _).symm.trans H; with_reducible exact H2_) | with_reducible exact H | (rw [hy162]; exact H) | exact H
        have Ny162 := Aside0.mk hy162
        clear hy162
        have H' := Aside0.mk H
        clear H
        have p157 : 0 ≤ (x4_1 : Int) := of_decide_eq_true (by first | (with_reducible assumption) | assumption)
        have q157 : x4_1 < (l0.length : Int) := of_decide_eq_true (by first | (with_reducible assumption) | assumption)
        obtain ⟨ad157, A157_0, c157_0, e157, hx157_0, hl157_0, hi157_0⟩ := at_L2 HR0.out x4_1 p157 q157
        cases e157
        replace hx157_0 := (HB.out.cell (World.block_lt_of_cell? w _ hx157_0)).trans hx157_0
        have HR157_0 := Aside0.mk hi157_0
        have HC157_0 := Aside0.mk hl157_0
        clear hi157_0 hl157_0
        replace p157 := eq_true p157
        replace q157 := eq_true q157
        go_wp2_with (first | ((with_reducible refine gate_callee (f := 9) rfl ?_); refine goesL_ (some 30) rfl rfl Tryd.func9 (by kernel_rfl) rfl #[.slice A157_0 (rd_L2 l0 x4_1).length c157_0] rfl (by (try simp only [List.map_toArray, List.map_cons, List.map_nil]); first | done | rfl | (simp only [List.length_drop, List.length_take]; rfl)) ?_; (with_reducible refine (sets_Make.calls k1 _ _ (rd_L2 l0 x4_1) t158 t159 _ ?side1 ?side2 ?side3 A7.out).mono ?_); (case side1 => repeat (first | exact (Kd.C_below HR157_0.out HB.out) | (with_reducible refine Kd.C_alloc ?_ _) | (with_reducible refine Kd.C_drewN ?_ _) | (with_reducible refine Kd.C_drew ?_))); (case side2 => exact HC157_0.out); (case side3 => first | exact hG | exact Glob.of_below hG (by repeat (first | (with_reducible first | exact HB.out | apply below_alloc | apply pw_below_drewN | apply below_drew1) | exact HB.out)) | exact Glob.of_below hG HB.out | exact Glob.drewN hG _ | exact Glob.drew hG | (with_reducible repeat (first | exact hG | apply Glob.drewN | apply Glob.drew | apply Glob.alloc))); rintro e w10 ⟨v160, rfl, ho0, hb⟩; refine ⟨_, rfl, ?_⟩; have n0_ := Aside0.mk (Kd.S_elder' (by (with_reducible repeat (first | apply Kd.S_alloc | apply Kd.S_drewN | apply Kd.S_drew)); exact HO_3.out) (Kd.R_base ho0) hb); have n1_ := Aside0.mk (Kd.R_lower ho0 (below_size (by repeat (first | (with_reducible first | exact HB.out | apply below_alloc | apply pw_below_drewN | apply below_drew1) | exact HB.out)))); have n2_ := Aside0.mk (below_step (by repeat (first | (with_reducible first | exact HB.out | apply below_alloc | apply pw_below_drewN | apply below_drew1) | exact HB.out)) hb); clear HO_3; clear HB; have HO_3 := n0_; have HO161 := n1_; have HB := n2_; clear n0_ n1_ n2_; (try clear hb); (try clear hb2); (try clear hk); (try clear hi); (try clear ho0); obtain ⟨Ao12, co12, eo12⟩ := Kd.R_slice HO161.out; subst eo12) | ((with_reducible refine gate_builtin (b := .append) (xs := #[.tmp 35, .tmp 37]) rfl ?_); (try (refine gate_guard (by rfl) ?_; dsimp only)); at_builtin; refine Kd.S_append (Kd.slice 29 k29) (w0 := w) w.heap.size rfl (.tmp 35) (.tmp 37) 52 22 (.slice none 0 0) 24 rfl Tryd.underlying52 info22 rfl (by decide) (by omega) u3 x3_1 t158 [.slice Ao12 t158.length co12] (fun _ => True) (fun k_ => some k_ = (.slice Ao12 t158.length co12 : Value).ownBlock) rfl rfl ?aP (fun k_ hk_ => ((Kd.R_mono (ok' := fun k_ => ((fun _ => True)) k_ ∧ some k_ ≠ (u3 : Value).ownBlock) (Kd.R_apart' (HO161.out) (Kd.S_typed HO_3.out) (by decide)) (fun k_ hk => ⟨trivial, hk.2⟩))).1 k_ hk_.symm) ?aF ?aO ?aB ?aS ?aL ?_; (case aP => exact Kd.M_row (Kd.R_mono (Kd.R_tight rfl (Kd.R_mono (ok' := fun k_ => ((fun _ => True)) k_ ∧ some k_ ≠ (u3 : Value).ownBlock) (Kd.R_apart' (HO161.out) (Kd.S_typed HO_3.out) (by decide)) (fun k_ hk => ⟨trivial, hk.2⟩))) (fun _ h_ => h_))); (case aB => exact (by repeat (first | (with_reducible first | exact HB.out | apply below_alloc | apply pw_below_drewN | apply below_drew1) | exact HB.out))); (case aF => exact (fun _ _ => trivial)); (case aO => exact (by (with_reducible repeat (first | apply Kd.S_alloc | apply Kd.S_drewN | apply Kd.S_drew)); exact Kd.S_mono HO_3.out (fun k_ hk => ⟨trivial, fun e_ => hk.2 e_⟩))); (case aS => exact (below_size (by repeat (first | (with_reducible first | exact HB.out | apply below_alloc | apply pw_below_drewN | apply below_drew1) | exact HB.out)))); (case aL => have := LMc9.out; omega); intro v163 w11 ho hb hg hat; rw [← Ny162.out] at ho; have n0_ := Aside0.mk (hb); have n1_ := Aside0.mk (ho); clear HB; clear HO_3; clear HO161; have HB := n0_; have HO164 := n1_; clear n0_ n1_; clear ho hb hg hat))
        go_roundg k1
        case measure => have := HK1.out; omega
        case rel => exact ⟨(y162), (wrap64 (x4_1 + 1)), (by first | rfl | (simp; done) | (simp [*]; done)), H', ⟨by have := HK1.out; omega⟩, ⟨by (with_reducible repeat (first | apply Kd.S_alloc | apply Kd.S_drewN | apply Kd.S_drew)); exact HO164.out⟩, ⟨by repeat (first | (with_reducible first | exact HB.out | apply below_alloc | apply pw_below_drewN | apply below_drew1) | exact HB.out)⟩⟩
       ·
        rw [if_neg c9] at H
        exact absurd H (by simp)
      ·
       rw [if_neg c8] at H
       have c8b0 : (t159 == 0) = false := beq_eq_false_iff_ne.mpr c8
       have c8b1 : (t159 != 0) = true := bne_iff_ne.mpr c8
       have H' := Aside0.mk H
       clear H
       have p157 : 0 ≤ (x4_1 : Int) := of_decide_eq_true (by first | (with_reducible assumption) | assumption)
       have q157 : x4_1 < (l0.length : Int) := of_decide_eq_true (by first | (with_reducible assumption) | assumption)
       obtain ⟨ad157, A157_0, c157_0, e157, hx157_0, hl157_0, hi157_0⟩ := at_L2 HR0.out x4_1 p157 q157
       cases e157
       replace hx157_0 := (HB.out.cell (World.block_lt_of_cell? w _ hx157_0)).trans hx157_0
       have HR157_0 := Aside0.mk hi157_0
       have HC157_0 := Aside0.mk hl157_0
       clear hi157_0 hl157_0
       replace p157 := eq_true p157
       replace q157 := eq_true q157
       go_wp2_with (first | ((with_reducible refine gate_callee (f := 9) rfl ?_); refine goesL_ (some 30) rfl rfl Tryd.func9 (by kernel_rfl) rfl #[.slice A157_0 (rd_L2 l0 x4_1).length c157_0] rfl (by (try simp only [List.map_toArray, List.map_cons, List.map_nil]); first | done | rfl | (simp only [List.length_drop, List.length_take]; rfl)) ?_; (with_reducible refine (sets_Make.calls k1 _ _ (rd_L2 l0 x4_1) t158 t159 _ ?side1 ?side2 ?side3 A7.out).mono ?_); (case side1 => repeat (first | exact (Kd.C_below HR157_0.out HB.out) | (with_reducible refine Kd.C_alloc ?_ _) | (with_reducible refine Kd.C_drewN ?_ _) | (with_reducible refine Kd.C_drew ?_))); (case side2 => exact HC157_0.out); (case side3 => first | exact hG | exact Glob.of_below hG (by repeat (first | (with_reducible first | exact HB.out | apply below_alloc | apply pw_below_drewN | apply below_drew1) | exact HB.out)) | exact Glob.of_below hG HB.out | exact Glob.drewN hG _ | exact Glob.drew hG | (with_reducible repeat (first | exact hG | apply Glob.drewN | apply Glob.drew | apply Glob.alloc))); rintro e w13 ⟨v160, rfl, ho0, hb⟩; refine ⟨_, rfl, ?_⟩; have n0_ := Aside0.mk (Kd.S_elder' (by (with_reducible repeat (first | apply Kd.S_alloc | apply Kd.S_drewN | apply Kd.S_drew)); exact HO_3.out) (Kd.R_base ho0) hb); have n1_ := Aside0.mk (Kd.R_lower ho0 (below_size (by repeat (first | (with_reducible first | exact HB.out | apply below_alloc | apply pw_below_drewN | apply below_drew1) | exact HB.out)))); have n2_ := Aside0.mk (below_step (by repeat (first | (with_reducible first | exact HB.out | apply below_alloc | apply pw_below_drewN | apply below_drew1) | exact HB.out)) hb); clear HO_3; clear HB; have HO_3 := n0_; have HO161 := n1_; have HB := n2_; clear n0_ n1_ n2_; (try clear hb); (try clear hb2); (try clear hk); (try clear hi); (try clear ho0)))
       go_roundg k1
       case measure => have := HK1.out; omega
       case rel => exact ⟨(x3_1), (wrap64 (x4_1 + 1)), (by first | rfl | (simp; done) | (simp [*]; done)), H', ⟨by have := HK1.out; omega⟩, ⟨by (with_reducible repeat (first | apply Kd.S_alloc | apply Kd.S_drewN | apply Kd.S_drew)); exact Kd.S_mono HO_3.out (fun _ hk => trivial)⟩, ⟨by repeat (first | (with_reducible first | exact HB.out | apply below_alloc | apply pw_below_drewN | apply below_drew1) | exact HB.out)⟩⟩
     ·
      rw [if_neg c6] at H
      exact absurd H (by simp)
    ·
     rw [if_neg c5] at H
     have c5b0 : decide (x4_1 < (l0.length : Int)) = false := decide_eq_false c5
     clear c5
     replace H := Option.bind_eq_some_iff.mp H
     obtain ⟨⟨t165, t166⟩, A140, H⟩ := H
     replace H : (if t166 = 0 then (thistlelaw02_SetsParts.j1 k1 x3_1 t165 ((t165.length : Int) == 0)) else (thistlelaw02_SetsParts.j1 k1 x3_1 t165 true)) = some r := H
     have A14 := Aside0.mk A140
     clear A140
     have HC15 := Aside0.mk H
     clear H
     obtain ⟨Ao16, co16, eo16⟩ := Kd.S_slice HO_3.out
     subst eo16
     go_upto_region 11 with (first | ((with_reducible refine gate_callee (f := 28) rfl ?_); refine goesL_ (some 41) rfl rfl Tryd.func28 (by kernel_rfl) rfl #[.slice Ao16 x3_1.length co16] rfl (by (try simp only [List.map_toArray, List.map_cons, List.map_nil]); first | done | rfl | (simp only [List.length_drop, List.length_take]; rfl)) ?_; (with_reducible refine (sets_Parts.calls k1 _ _ x3_1 t165 t166 _ ?side1 ?side2 ?side3 A14.out).mono ?_); (case side1 => repeat (first | exact (Kd.S_reads' HO_3.out).2.2 | (with_reducible refine Kd.C_alloc ?_ _) | (with_reducible refine Kd.C_drewN ?_ _) | (with_reducible refine Kd.C_drew ?_))); (case side2 => exact (Kd.S_reads' HO_3.out).2.1); (case side3 => first | exact hG | exact Glob.of_below hG (by repeat (first | (with_reducible first | exact HB.out | apply below_alloc | apply pw_below_drewN | apply below_drew1) | exact HB.out)) | exact Glob.of_below hG HB.out | exact Glob.drewN hG _ | exact Glob.drew hG | (with_reducible repeat (first | exact hG | apply Glob.drewN | apply Glob.drew | apply Glob.alloc))); rintro e w17 ⟨v167, rfl, ho0, hb⟩; refine ⟨_, rfl, ?_⟩; have n0_ := Aside0.mk (Kd.S_elder' (by (with_reducible repeat (first | apply Kd.S_alloc | apply Kd.S_drewN | apply Kd.S_drew)); exact HO_3.out) (Kd.S_base ho0) hb); have n1_ := Aside0.mk (Kd.S_lower (Kd.S_new' ho0 (Kd.S_lt (by (with_reducible repeat (first | apply Kd.S_alloc | apply Kd.S_drewN | apply Kd.S_drew)); exact HO_3.out))) (below_size (by repeat (first | (with_reducible first | exact HB.out | apply below_alloc | apply pw_below_drewN | apply below_drew1) | exact HB.out)))); have n2_ := Aside0.mk (below_step (by repeat (first | (with_reducible first | exact HB.out | apply below_alloc | apply pw_below_drewN | apply below_drew1) | exact HB.out)) hb); clear HO_3; clear HB; have HO_3 := n0_; have HO168 := n1_; have HB := n2_; clear n0_ n1_ n2_; (try clear hb); (try clear hb2); (try clear hk); (try clear hi); (try clear ho0)))
     (try simp only [Act.put, List.setIfInBounds_toArray, List.set_cons_zero, List.set_cons_succ])
     go_cut [50] (fun v50 wc => ∃ (kq : Nat) (x50_14 : Bool), v50 = .bool x50_14 ∧ Aside0 (thistlelaw02_SetsParts.j1 kq x3_1 t165 x50_14 = some r) ∧ Aside0 (kq ≤ k1) ∧ Aside0 (Kd.S (Kd.slice 29 k29) 22 wc w.heap.size (fun k_ => some k_ ≠ (v167 : Value).ownBlock) (.slice Ao16 x3_1.length co16) x3_1) ∧ Aside0 (Kd.S (Kd.slice 29 k29) 22 wc w.heap.size (fun k_ => some k_ ≠ ((.slice Ao16 x3_1.length co16) : Value).ownBlock) v167 t165) ∧ Aside0 (Below w.heap.size w wc))
     case first =>
      have H := HC15.out
      clear HC15
      by_cases c18 : t166 = 0
      ·
       rw [if_pos c18] at H
       have c18b0 : (t166 == 0) = true := beq_iff_eq.mpr c18
       have c18b1 : (t166 != 0) = false := bne_eq_false_iff_eq.mpr c18
       clear c18
       (first | rw [c18b0] | (simp only [i64_w, i32_w]; rw [c18b0]) | skip)
       have H' := Aside0.mk H
       clear H
       obtain ⟨Ao19, co19, eo19⟩ := Kd.S_slice HO168.out
       subst eo19
       go_wp2
       go_meet
       case rel => exact ⟨_, (((t165.length : Int) == 0)), (by first | rfl | (simp; done) | (simp [*]; done)), H', ⟨by have := HK1.out; first | omega | exact Nat.le_refl _⟩, ⟨by (with_reducible repeat (first | apply Kd.S_alloc | apply Kd.S_drewN | apply Kd.S_drew)); exact Kd.S_mono HO_3.out (fun _ hk => hk.2)⟩, ⟨by (with_reducible repeat (first | apply Kd.S_alloc | apply Kd.S_drewN | apply Kd.S_drew)); exact Kd.S_mono HO168.out (fun _ hk => hk.2)⟩, ⟨by repeat (first | (with_reducible first | exact HB.out | apply below_alloc | apply pw_below_drewN | apply below_drew1) | exact HB.out)⟩⟩
      ·
       rw [if_neg c18] at H
       have c18b0 : (t166 == 0) = false := beq_eq_false_iff_ne.mpr c18
       have c18b1 : (t166 != 0) = true := bne_iff_ne.mpr c18
       (first | rw [c18b0] | (simp only [i64_w, i32_w]; rw [c18b0]) | skip)
       exact absurd (H.trans (congrArg some hrt.out)) (by (first | (cases k1 <;> simp [thistlelaw02_SetsParts.j1]) | (unfold thistlelaw02_SetsParts.j1; split <;> simp)))
     case rest =>
      clear HC15
      try clear c1
      try clear p1
      try clear q1
      try clear hx1
      try clear c2
      try clear p2
      try clear c3
      try clear c5
      try clear c5b0
      try clear c6
      try clear c6b0
      try clear p6
      try clear c8
      try clear c8b0
      try clear c8b1
      try clear c9
      try clear c15
      try clear p15
      try clear q15
      try clear hx15
      try clear c18
      try clear c18b0
      try clear c18b1
      try clear hx157_0
      try clear p157
      try clear p2
      try clear q157
      obtain ⟨kq, x50_14, rfl, HA, HJ14, HO_3, HO_7, HB⟩ := hcut
      cases kq with
      | zero => exact absurd HA.out (by simp [thistlelaw02_SetsParts.j1])
      | succ kj14 =>
       have H := HA.out
       clear HA
       simp only [thistlelaw02_SetsParts.j1] at H
       by_cases c20 : x50_14 = true
       ·
        subst c20
        have H1 : (some false) = some r := by rw [if_pos rfl] at H; exact H
        clear H
        have H := H1
        clear H1
        exact absurd (H.trans (congrArg some hrt.out)) (by simp)
       ·
        replace c20 := Bool.eq_false_iff.mpr c20
        subst c20
        have H1 : (thistlelaw02_SetsParts.l1 kj14 x3_1 t165 ([] : List Int) 0) = some r := by rw [if_neg (show ¬ (false = true) by decide)] at H; exact H
        clear H
        have H := H1
        clear H1
        have H' := Aside0.mk H
        clear H
        go_wp2
        go_loopg [9, 10] kj14 (fun kq v9 v10 w' => ∃ (x9_3 : List Int) (x10_3 : Int), v10 = .int .i64 x10_3 ∧ Aside0 (thistlelaw02_SetsParts.l1 kq x3_1 t165 x9_3 x10_3 = some r) ∧ Aside0 (kq ≤ kj14) ∧ Aside0 (Kd.S (Kd.slice 29 k29) 22 w' w.heap.size (fun k_ => some k_ ≠ (v167 : Value).ownBlock) (.slice Ao16 x3_1.length co16) x3_1) ∧ Aside0 (Kd.S (Kd.slice 29 k29) 22 w' w.heap.size (fun k_ => some k_ ≠ ((.slice Ao16 x3_1.length co16) : Value).ownBlock) v167 t165) ∧ Aside0 (Kd.R (Kd.int .i64) 3 w' w.heap.size (fun _ => True) v9 x9_3) ∧ Aside0 (Below w.heap.size w w'))
        case atStart => exact ⟨(([] : List Int)), (0), (by first | rfl | (simp; done) | (simp [*]; done)), H', ⟨Nat.le_refl _⟩, ⟨by (with_reducible repeat (first | apply Kd.S_alloc | apply Kd.S_drewN | apply Kd.S_drew)); exact HO_3.out⟩, ⟨by (with_reducible repeat (first | apply Kd.S_alloc | apply Kd.S_drewN | apply Kd.S_drew)); exact HO_7.out⟩, ⟨by first | exact Kd.R_nil _ _ _ _ _ | exact Kd.N_nil _ _ _ _ _ | exact Kd.V_nil _ _ _ _ _ | exact Kd.Q_nil _ _ _ _ _ | exact Kd.S_nil _ _ _ _ _⟩, ⟨by repeat (first | (with_reducible first | exact HB.out | apply below_alloc | apply pw_below_drewN | apply below_drew1) | exact HB.out)⟩⟩
        case round =>
         clear H'
         try clear c1
         try clear p1
         try clear q1
         try clear hx1
         try clear c2
         try clear p2
         try clear c3
         try clear c5
         try clear c5b0
         try clear c6
         try clear c6b0
         try clear p6
         try clear c8
         try clear c8b0
         try clear c8b1
         try clear c9
         try clear c15
         try clear p15
         try clear q15
         try clear hx15
         try clear c18
         try clear c18b0
         try clear c18b1
         try clear c20
         try clear hx157_0
         try clear p1
         try clear p15
         try clear p157
         try clear p2
         try clear p6
         try clear q1
         try clear q15
         try clear q157
         obtain ⟨x9_3, x10_3, rfl, HA, HK3, HO_3, HO_7, HO_9, HB⟩ := hrel
         cases gk with
         | zero => exact absurd HA.out (by simp [thistlelaw02_SetsParts.l1])
         | succ k3 =>
          have H := HA.out
          clear HA
          simp only [thistlelaw02_SetsParts.l1] at H
          by_cases c21 : x10_3 < (t165.length : Int)
          ·
           rw [if_pos c21] at H
           have c21b0 : decide (x10_3 < (t165.length : Int)) = true := decide_eq_true c21
           clear c21
           by_cases c22 : 0 ≤ x10_3
           ·
            rw [if_pos c22] at H
            have c22b0 : decide (0 ≤ x10_3) = true := decide_eq_true c22
            clear c22
            by_cases c23 : ((rd_L2 t165 x10_3).length : Int) = 0
            ·
             rw [if_pos c23] at H
             have c23b0 : (((rd_L2 t165 x10_3).length : Int) == 0) = true := beq_iff_eq.mpr c23
             have c23b1 : (((rd_L2 t165 x10_3).length : Int) != 0) = false := bne_eq_false_iff_eq.mpr c23
             clear c23
             exact absurd (H.trans (congrArg some hrt.out)) (by simp)
            ·
             rw [if_neg c23] at H
             have c23b0 : (((rd_L2 t165 x10_3).length : Int) == 0) = false := beq_eq_false_iff_ne.mpr c23
             have c23b1 : (((rd_L2 t165 x10_3).length : Int) != 0) = true := bne_iff_ne.mpr c23
             have c23b2 : ¬ ((rd_L2 t165 x10_3) = []) := fun h_ => c23 (by rw [h_]; rfl)
             replace H := Option.bind_eq_some_iff.mp H
             obtain ⟨t171, A240, H⟩ := H
             replace H : (if t171 = true then (if x10_3 > 0 then (if 0 ≤ (wrap64 (x10_3 - 1)) then (if (wrap64 (x10_3 - 1)) < (t165.length : Int) then (if 0 < ((rd_L2 t165 (wrap64 (x10_3 - 1))).length : Int) then (if 0 < ((rd_L2 t165 x10_3).length : Int) then (if ((rd_T29 (rd_L2 t165 (wrap64 (x10_3 - 1))) 0).f0) ≥ ((rd_T29 (rd_L2 t165 x10_3) 0).f0) then (some false) else ((thistlelaw02_ends.f k3 (rd_L2 t165 x10_3)).bind fun t177 => (if x9_3.length + t177.length < 17592186044416 then (thistlelaw02_SetsParts.l1 k3 x3_1 t165 (x9_3 ++ t177) (wrap64 (x10_3 + 1))) else (none)))) else (none)) else (none)) else (none)) else (none)) else ((thistlelaw02_ends.f k3 (rd_L2 t165 x10_3)).bind fun t184 => (if x9_3.length + t184.length < 17592186044416 then (thistlelaw02_SetsParts.l1 k3 x3_1 t165 (x9_3 ++ t184) (wrap64 (x10_3 + 1))) else (none)))) else (some false)) = some r := H
             have A24 := Aside0.mk A240
             clear A240
             by_cases c25 : t171 = true
             ·
              subst c25
              have H1 : (if x10_3 > 0 then (if 0 ≤ (wrap64 (x10_3 - 1)) then (if (wrap64 (x10_3 - 1)) < (t165.length : Int) then (if 0 < ((rd_L2 t165 (wrap64 (x10_3 - 1))).length : Int) then (if 0 < ((rd_L2 t165 x10_3).length : Int) then (if ((rd_T29 (rd_L2 t165 (wrap64 (x10_3 - 1))) 0).f0) ≥ ((rd_T29 (rd_L2 t165 x10_3) 0).f0) then (some false) else ((thistlelaw02_ends.f k3 (rd_L2 t165 x10_3)).bind fun t177 => (if x9_3.length + t177.length < 17592186044416 then (thistlelaw02_SetsParts.l1 k3 x3_1 t165 (x9_3 ++ t177) (wrap64 (x10_3 + 1))) else (none)))) else (none)) else (none)) else (none)) else (none)) else ((thistlelaw02_ends.f k3 (rd_L2 t165 x10_3)).bind fun t184 => (if x9_3.length + t184.length < 17592186044416 then (thistlelaw02_SetsParts.l1 k3 x3_1 t165 (x9_3 ++ t184) (wrap64 (x10_3 + 1))) else (none)))) = some r := by rw [if_pos rfl] at H; exact H
              clear H
              have H := H1
              clear H1
              by_cases c26 : x10_3 > 0
              ·
               rw [if_pos c26] at H
               have c26b0 : decide (0 < x10_3) = true := decide_eq_true c26
               clear c26
               obtain ⟨ji27, hji27⟩ : ∃ j_ : Int, (wrap64 (x10_3 - 1)) = j_ := ⟨_, rfl⟩
               replace H : (if 0 ≤ (ji27) then (if (ji27) < (t165.length : Int) then (if 0 < ((rd_L2 t165 (ji27)).length : Int) then (if 0 < ((rd_L2 t165 x10_3).length : Int) then (if ((rd_T29 (rd_L2 t165 (ji27)) 0).f0) ≥ ((rd_T29 (rd_L2 t165 x10_3) 0).f0) then (some false) else ((thistlelaw02_ends.f k3 (rd_L2 t165 x10_3)).bind fun t177 => (if x9_3.length + t177.length < 17592186044416 then (thistlelaw02_SetsParts.l1 k3 x3_1 t165 (x9_3 ++ t177) (wrap64 (x10_3 + 1))) else (none)))) else (none)) else (none)) else (none)) else (none)) = some r := by first | (rw [hji27] at H; exact H) | (simp only [hji27] at H ⊢; exact H)
               (try rw [hji27] at A24)
               have hji27w : (IntKind.i64.wrap (x10_3 - 1)) = ji27 := (i64_w _).trans hji27
               by_cases c28 : 0 ≤ (ji27)
               ·
                rw [if_pos c28] at H
                have c28b0 : decide (0 ≤ (ji27)) = true := decide_eq_true c28
                clear c28
                by_cases c29 : (ji27) < (t165.length : Int)
                ·
                 rw [if_pos c29] at H
                 have c29b0 : decide ((ji27) < (t165.length : Int)) = true := decide_eq_true c29
                 clear c29
                 by_cases c30 : 0 < ((rd_L2 t165 (ji27)).length : Int)
                 ·
                  rw [if_pos c30] at H
                  have c30b0 : decide (0 < ((rd_L2 t165 (ji27)).length : Int)) = true := decide_eq_true c30
                  have c30b1 : decide (0 < (rd_L2 t165 (ji27)).length) = true := decide_eq_true (by omega)
                  clear c30
                  by_cases c31 : 0 < ((rd_L2 t165 x10_3).length : Int)
                  ·
                   rw [if_pos c31] at H
                   have c31b0 : decide (0 < ((rd_L2 t165 x10_3).length : Int)) = true := decide_eq_true c31
                   have c31b1 : decide (0 < (rd_L2 t165 x10_3).length) = true := decide_eq_true (by omega)
                   clear c31
                   by_cases c32 : ((rd_T29 (rd_L2 t165 (ji27)) 0).f0) ≥ ((rd_T29 (rd_L2 t165 x10_3) 0).f0)
                   ·
                    rw [if_pos c32] at H
                    have c32b0 : decide (((rd_T29 (rd_L2 t165 x10_3) 0).f0) ≤ ((rd_T29 (rd_L2 t165 (ji27)) 0).f0)) = true := decide_eq_true c32
                    clear c32
                    exact absurd (H.trans (congrArg some hrt.out)) (by simp)
                   ·
                    rw [if_neg c32] at H
                    have c32b0 : decide (((rd_T29 (rd_L2 t165 x10_3) 0).f0) ≤ ((rd_T29 (rd_L2 t165 (ji27)) 0).f0)) = false := decide_eq_false c32
                    clear c32
                    replace H := Option.bind_eq_some_iff.mp H
                    obtain ⟨t177, A330, H⟩ := H
                    replace H : (if x9_3.length + t177.length < 17592186044416 then (thistlelaw02_SetsParts.l1 k3 x3_1 t165 (x9_3 ++ t177) (wrap64 (x10_3 + 1))) else (none)) = some r := H
                    have A33 := Aside0.mk A330
                    clear A330
                    by_cases c34 : x9_3.length + t177.length < 17592186044416
                    ·
                     rw [if_pos c34] at H
                     have LMc34 := Aside0.mk c34
                     clear c34
                     obtain ⟨y180, hy180⟩ : ∃ y_ : List Int, y_ = (x9_3 ++ t177) := ⟨_, rfl⟩
                     replace H : (thistlelaw02_SetsParts.l1 k3 x3_1 t165 y180 (wrap64 (x10_3 + 1))) = some r := by first | (rw [hy180]; with_reducible exact H) | (have H2_ := (Option.bind_some _ _).symm.trans H; rw [hy180]; with_reducible exact H2_) | (have H2_ := (Option.bind_some _ _).symm.trans H; with_reducible exact H2_) | with_reducible exact H | (rw [hy180]; exact H) | exact H
                     have Ny180 := Aside0.mk hy180
                     clear hy180
                     have H' := Aside0.mk H
                     clear H
                     obtain ⟨Ao35, co35, eo35⟩ := Kd.S_slice HO_7.out
                     subst eo35
                     try go_wp2
                     have n0_ := Aside0.mk (Kd.S_drew HO_3.out)
                     have n1_ := Aside0.mk (Kd.S_drew HO_7.out)
                     have n2_ := Aside0.mk (Kd.R_drew HO_9.out)
                     have n3_ := Aside0.mk (below_drew1 HB.out)
                     clear HO_3
                     clear HO_7
                     clear HO_9
                     clear HB
                     have HO_3 := n0_
                     have HO_7 := n1_
                     have HO_9 := n2_
                     have HB := n3_
                     clear n0_ n1_ n2_ n3_
                     have p169 : 0 ≤ (x10_3 : Int) := of_decide_eq_true (by first | (with_reducible assumption) | assumption)
                     have q169 : x10_3 < (t165.length : Int) := of_decide_eq_true (by first | (with_reducible assumption) | assumption)
                     obtain ⟨ad169, A169_0, c169_0, e169, hx169_0, hl169_0, hi169_0⟩ := at_L2 (Kd.S_reads' HO_7.out).2.2 x10_3 p169 q169
                     cases e169
                     obtain ⟨ce169, hce169, hMe169, hcc169⟩ := Kd.S_get HO_7.out [] x10_3 p169 (by first | exact q169 | exact of_decide_eq_true (by first | (with_reducible assumption) | assumption) | (have e_ := (Kd.S_reads' HO_7.out).1; omega))
                     obtain ⟨ve169_0, rfl, ge169_0⟩ := hMe169
                     have hv169_0 := hcc169 0 _ rfl
                     rw [Nat.add_zero, show ((Kd.slice 29 k29)).sz = 1 from rfl, Nat.mul_one] at hv169_0
                     replace hv169_0 := Option.some.inj (hv169_0.symm.trans hx169_0)
                     rw [hv169_0] at ge169_0
                     have HL169_0 := Aside0.mk (show Kd.R k29 29 _ _ _ _ (rd_L2 t165 x10_3) from ge169_0)
                     clear hv169_0 ge169_0
                     clear hcc169 hce169
                     have HR169_0 := Aside0.mk hi169_0
                     have HC169_0 := Aside0.mk hl169_0
                     clear hi169_0 hl169_0
                     replace p169 := eq_true p169
                     replace q169 := eq_true q169
                     have p170 : 0 ≤ (x10_3 : Int) := of_decide_eq_true (by first | (with_reducible assumption) | assumption)
                     have q170 : x10_3 < (t165.length : Int) := of_decide_eq_true (by first | (with_reducible assumption) | assumption)
                     obtain ⟨ad170, A170_0, c170_0, e170, hx170_0, hl170_0, hi170_0⟩ := at_L2 (Kd.S_reads' HO_7.out).2.2 x10_3 p170 q170
                     obtain rfl : ad169 = ad170 := (by injection e170)
                     obtain ⟨ce170, hce170, hMe170, hcc170⟩ := Kd.S_get HO_7.out [] x10_3 p170 (by first | exact q170 | exact of_decide_eq_true (by first | (with_reducible assumption) | assumption) | (have e_ := (Kd.S_reads' HO_7.out).1; omega))
                     obtain ⟨ve170_0, rfl, ge170_0⟩ := hMe170
                     have hv170_0 := hcc170 0 _ rfl
                     rw [Nat.add_zero, show ((Kd.slice 29 k29)).sz = 1 from rfl, Nat.mul_one] at hv170_0
                     replace hv170_0 := Option.some.inj (hv170_0.symm.trans hx170_0)
                     rw [hv170_0] at ge170_0
                     have HL170_0 := Aside0.mk (show Kd.R k29 29 _ _ _ _ (rd_L2 t165 x10_3) from ge170_0)
                     clear hv170_0 ge170_0
                     clear hcc170 hce170
                     have HR170_0 := Aside0.mk hi170_0
                     have HC170_0 := Aside0.mk hl170_0
                     clear hi170_0 hl170_0
                     replace p170 := eq_true p170
                     replace q170 := eq_true q170
                     have ea_ := Option.some.inj (hx169_0.symm.trans hx170_0)
                     injection ea_ with ea_ en_ ec_
                     subst ea_
                     subst ec_
                     clear en_
                     have p172 : 0 ≤ ((ji27) : Int) := of_decide_eq_true (by first | (with_reducible assumption) | assumption)
                     have q172 : (ji27) < (t165.length : Int) := of_decide_eq_true (by first | (with_reducible assumption) | assumption)
                     obtain ⟨ad172, A172_0, c172_0, e172, hx172_0, hl172_0, hi172_0⟩ := at_L2 (Kd.S_reads' HO_7.out).2.2 (ji27) p172 q172
                     obtain rfl : ad169 = ad172 := (by injection e172)
                     obtain ⟨ce172, hce172, hMe172, hcc172⟩ := Kd.S_get HO_7.out [] (ji27) p172 (by first | exact q172 | exact of_decide_eq_true (by first | (with_reducible assumption) | assumption) | (have e_ := (Kd.S_reads' HO_7.out).1; omega))
                     obtain ⟨ve172_0, rfl, ge172_0⟩ := hMe172
                     have hv172_0 := hcc172 0 _ rfl
                     rw [Nat.add_zero, show ((Kd.slice 29 k29)).sz = 1 from rfl, Nat.mul_one] at hv172_0
                     replace hv172_0 := Option.some.inj (hv172_0.symm.trans hx172_0)
                     rw [hv172_0] at ge172_0
                     have HL172_0 := Aside0.mk (show Kd.R k29 29 _ _ _ _ (rd_L2 t165 (ji27)) from ge172_0)
                     clear hv172_0 ge172_0
                     clear hcc172 hce172
                     have HR172_0 := Aside0.mk hi172_0
                     have HC172_0 := Aside0.mk hl172_0
                     clear hi172_0 hl172_0
                     replace p172 := eq_true p172
                     replace q172 := eq_true q172
                     have p174 : 0 ≤ (x10_3 : Int) := of_decide_eq_true (by first | (with_reducible assumption) | assumption)
                     have q174 : x10_3 < (t165.length : Int) := of_decide_eq_true (by first | (with_reducible assumption) | assumption)
                     obtain ⟨ad174, A174_0, c174_0, e174, hx174_0, hl174_0, hi174_0⟩ := at_L2 (Kd.S_reads' HO_7.out).2.2 x10_3 p174 q174
                     obtain rfl : ad169 = ad174 := (by injection e174)
                     obtain ⟨ce174, hce174, hMe174, hcc174⟩ := Kd.S_get HO_7.out [] x10_3 p174 (by first | exact q174 | exact of_decide_eq_true (by first | (with_reducible assumption) | assumption) | (have e_ := (Kd.S_reads' HO_7.out).1; omega))
                     obtain ⟨ve174_0, rfl, ge174_0⟩ := hMe174
                     have hv174_0 := hcc174 0 _ rfl
                     rw [Nat.add_zero, show ((Kd.slice 29 k29)).sz = 1 from rfl, Nat.mul_one] at hv174_0
                     replace hv174_0 := Option.some.inj (hv174_0.symm.trans hx174_0)
                     rw [hv174_0] at ge174_0
                     have HL174_0 := Aside0.mk (show Kd.R k29 29 _ _ _ _ (rd_L2 t165 x10_3) from ge174_0)
                     clear hv174_0 ge174_0
                     clear hcc174 hce174
                     have HR174_0 := Aside0.mk hi174_0
                     have HC174_0 := Aside0.mk hl174_0
                     clear hi174_0 hl174_0
                     replace p174 := eq_true p174
                     replace q174 := eq_true q174
                     have ea_ := Option.some.inj (hx169_0.symm.trans hx174_0)
                     injection ea_ with ea_ en_ ec_
                     subst ea_
                     subst ec_
                     clear en_
                     have p173 : 0 ≤ (0 : Int) := (by omega)
                     have q173 : 0 < ((rd_L2 t165 (ji27)).length : Int) := of_decide_eq_true (by first | (with_reducible assumption) | assumption)
                     obtain ⟨ad173, e173, hx173_0, hx173_1⟩ := at_T29 (by repeat (first | (with_reducible exact HR172_0.out) | (with_reducible refine Kd.C_alloc ?_ _) | (with_reducible refine Kd.C_drewN ?_ _) | (with_reducible refine Kd.C_drew ?_) | exact HR172_0.out)) 0 p173 q173
                     (try rw [show ((0 : Int)).toNat = 0 from rfl] at hx173_0)
                     (try rw [show 0 * 2 = 0 from rfl] at hx173_0)
                     (try rw [Addr.add_zero'] at hx173_0)
                     (try rw [show ((0 : Int)).toNat = 0 from rfl] at hx173_1)
                     (try rw [show 0 * 2 = 0 from rfl] at hx173_1)
                     (try rw [Addr.add_zero'] at hx173_1)
                     have E173 := Aside0.mk e173
                     clear e173 p173 q173
                     have p175 : 0 ≤ (0 : Int) := (by omega)
                     have q175 : 0 < ((rd_L2 t165 x10_3).length : Int) := of_decide_eq_true (by first | (with_reducible assumption) | assumption)
                     obtain ⟨ad175, e175, hx175_0, hx175_1⟩ := at_T29 (by repeat (first | (with_reducible exact HR174_0.out) | (with_reducible refine Kd.C_alloc ?_ _) | (with_reducible refine Kd.C_drewN ?_ _) | (with_reducible refine Kd.C_drew ?_) | exact HR174_0.out)) 0 p175 q175
                     (try rw [show ((0 : Int)).toNat = 0 from rfl] at hx175_0)
                     (try rw [show 0 * 2 = 0 from rfl] at hx175_0)
                     (try rw [Addr.add_zero'] at hx175_0)
                     (try rw [show ((0 : Int)).toNat = 0 from rfl] at hx175_1)
                     (try rw [show 0 * 2 = 0 from rfl] at hx175_1)
                     (try rw [Addr.add_zero'] at hx175_1)
                     have E175 := Aside0.mk e175
                     clear e175 p175 q175
                     refine start_ (n := 36) (S := fun w' => w'.cell? (ad169.add (x10_3).toNat) = some (.slice A169_0 (rd_L2 t165 x10_3).length c169_0) ∧ w'.cell? (ad169.add (x10_3).toNat) = some (.slice A169_0 (rd_L2 t165 x10_3).length c169_0) ∧ w'.cell? (ad169.add ((ji27)).toNat) = some (.slice A172_0 (rd_L2 t165 (ji27)).length c172_0) ∧ w'.cell? ad173 = some (.int .i32 ((rd_T29 (rd_L2 t165 (ji27)) 0).f0)) ∧ w'.cell? ⟨ad173.block, ad173.off + 1, none⟩ = some (.int .i32 ((rd_T29 (rd_L2 t165 (ji27)) 0).f1)) ∧ w'.cell? (ad169.add (x10_3).toNat) = some (.slice A169_0 (rd_L2 t165 x10_3).length c169_0) ∧ w'.cell? ad175 = some (.int .i32 ((rd_T29 (rd_L2 t165 x10_3) 0).f0)) ∧ w'.cell? ⟨ad175.block, ad175.off + 1, none⟩ = some (.int .i32 ((rd_T29 (rd_L2 t165 x10_3) 0).f1))) (ds := []) #[false, false, false, false, false, false, false, false, false, false, false, false, false, false, false, false, false, false, false, false, false, false, false, false, false, false, false, false, false, false, false, false, false, false, false, false] (by kernel_rfl) rfl rfl ⟨hx169_0, hx170_0, hx172_0, hx173_0, hx173_1, hx174_0, hx175_0, hx175_1⟩ (fun hHeld => ?_); refine with_tabW thistlelaw02_SetsParts.tab17 thistlelaw02_SetsParts.bits17 (fun HT_ HW_ => ?_)
                     generalize wr.drew = w36 at HO_3 HO_7 HO_9 HB HL169_0 HL170_0 HL172_0 HL174_0 HR169_0 HR170_0 HR172_0 HR174_0 hx169_0 hx170_0 hx172_0 hx174_0 hx173_0 hx173_1 hx175_0 hx175_1 hHeld ⊢
                     refine pure_ (i := 0) (N := some 57) (v := ?_) (a' := ?_) #[true, false, false, false, false, false, false, false, false, false, false, false, false, false, false, false, false, false, false, false, false, false, false, false, false, false, false, false, false, false, false, false, false, false, false, false] rfl rfl (any_of HT_.out (by kernel_rfl)) (fun _ _ _ h => h) (Or.inl ⟨by rfl, ?_⟩) ?_ ?_
                     rotate_left
                     ·
                      intro w'
                      go_simp
                      with_reducible rfl
                     rotate_left
                     ·
                      simp only [Act.put, List.setIfInBounds_toArray, List.set_cons_zero, List.set_cons_succ, i64_w, i32_w]
                      rfl
                     refine pure_ (i := 1) (N := some 58) (v := ?_) (a' := ?_) #[true, true, false, false, false, false, false, false, false, false, false, false, false, false, false, false, false, false, false, false, false, false, false, false, false, false, false, false, false, false, false, false, false, false, false, false] rfl rfl (any_of HT_.out (by kernel_rfl)) (fun _ _ _ h => h) (Or.inl ⟨by rfl, ?_⟩) ?_ ?_
                     rotate_left
                     ·
                      intro w'
                      go_simp
                      with_reducible rfl
                     rotate_left
                     ·
                      simp only [Act.put, List.setIfInBounds_toArray, List.set_cons_zero, List.set_cons_succ, i64_w, i32_w]
                      rfl
                     refine pure_ (i := 2) (N := some 59) (v := ?_) (a' := ?_) #[true, true, true, false, false, false, false, false, false, false, false, false, false, false, false, false, false, false, false, false, false, false, false, false, false, false, false, false, false, false, false, false, false, false, false, false] rfl rfl (any_of HT_.out (by kernel_rfl)) (fun _ _ _ h => h) (Or.inl ⟨by rfl, ?_⟩) ?_ ?_
                     rotate_left
                     ·
                      intro w'
                      go_simp
                      with_reducible rfl
                     rotate_left
                     ·
                      simp only [Act.put, List.setIfInBounds_toArray, List.set_cons_zero, List.set_cons_succ, i64_w, i32_w]
                      rfl
                     refine take_ (i := 3) (N := some 60) (v := ?_) (a' := ?_) #[true, true, true, true, false, false, false, false, false, false, false, false, false, false, false, false, false, false, false, false, false, false, false, false, false, false, false, false, false, false, false, false, false, false, false, false] rfl rfl (take_ofW HT_.out HW_.out (by kernel_rfl)) (fun _ _ _ h => h) (Or.inl ⟨by rfl, ?_⟩) hHeld ?_ ?_
                     rotate_left
                     ·
                      rintro w' ⟨s0, s1, s2, s3, s4, s5, s6, s7⟩
                      go_simp
                      with_reducible rfl
                     rotate_left
                     ·
                      simp only [Act.put, List.setIfInBounds_toArray, List.set_cons_zero, List.set_cons_succ, i64_w, i32_w]
                      rfl
                     refine pure_ (i := 4) (N := some 61) (v := ?_) (a' := ?_) #[true, true, true, true, true, false, false, false, false, false, false, false, false, false, false, false, false, false, false, false, false, false, false, false, false, false, false, false, false, false, false, false, false, false, false, false] rfl rfl (any_of HT_.out (by kernel_rfl)) (fun _ _ _ h => h) (Or.inl ⟨by rfl, ?_⟩) ?_ ?_
                     rotate_left
                     ·
                      intro w'
                      go_simp
                      with_reducible rfl
                     rotate_left
                     ·
                      simp only [Act.put, List.setIfInBounds_toArray, List.set_cons_zero, List.set_cons_succ, i64_w, i32_w]
                      rfl
                     refine pure_ (i := 5) (N := some 62) (v := ?_) (a' := ?_) #[true, true, true, true, true, true, false, false, false, false, false, false, false, false, false, false, false, false, false, false, false, false, false, false, false, false, false, false, false, false, false, false, false, false, false, false] rfl rfl (any_of HT_.out (by kernel_rfl)) (fun _ _ _ h => h) (Or.inl ⟨by rfl, ?_⟩) ?_ ?_
                     rotate_left
                     ·
                      intro w'
                      go_simp
                      with_reducible rfl
                     rotate_left
                     ·
                      simp only [Act.put, List.setIfInBounds_toArray, List.set_cons_zero, List.set_cons_succ, i64_w, i32_w]
                      rfl
                     refine pure_ (i := 6) (N := some 63) (v := ?_) (a' := ?_) #[true, true, true, true, true, true, true, false, false, false, false, false, false, false, false, false, false, false, false, false, false, false, false, false, false, false, false, false, false, false, false, false, false, false, false, false] rfl rfl (any_of HT_.out (by kernel_rfl)) (fun _ _ _ h => h) (Or.inl ⟨by rfl, ?_⟩) ?_ ?_
                     rotate_left
                     ·
                      intro w'
                      go_simp
                      with_reducible rfl
                     rotate_left
                     ·
                      simp only [Act.put, List.setIfInBounds_toArray, List.set_cons_zero, List.set_cons_succ, i64_w, i32_w]
                      rfl
                     refine pure_ (i := 7) (N := some 64) (v := ?_) (a' := ?_) #[true, true, true, true, true, true, true, true, false, false, false, false, false, false, false, false, false, false, false, false, false, false, false, false, false, false, false, false, false, false, false, false, false, false, false, false] rfl rfl (any_of HT_.out (by kernel_rfl)) (fun _ _ _ h => h) (Or.inl ⟨by rfl, ?_⟩) ?_ ?_
                     rotate_left
                     ·
                      intro w'
                      go_simp
                      with_reducible rfl
                     rotate_left
                     ·
                      simp only [Act.put, List.setIfInBounds_toArray, List.set_cons_zero, List.set_cons_succ, i64_w, i32_w]
                      rfl
                     refine pure_ (i := 8) (N := some 65) (v := ?_) (a' := ?_) #[true, true, true, true, true, true, true, true, true, false, false, false, false, false, false, false, false, false, false, false, false, false, false, false, false, false, false, false, false, false, false, false, false, false, false, false] rfl rfl (any_of HT_.out (by kernel_rfl)) (fun _ _ _ h => h) (Or.inl ⟨by rfl, ?_⟩) ?_ ?_
                     rotate_left
                     ·
                      intro w'
                      go_simp
                      with_reducible rfl
                     rotate_left
                     ·
                      simp only [Act.put, List.setIfInBounds_toArray, List.set_cons_zero, List.set_cons_succ, i64_w, i32_w]
                      rfl
                     refine pure_ (i := 9) (N := some 66) (v := ?_) (a' := ?_) #[true, true, true, true, true, true, true, true, true, true, false, false, false, false, false, false, false, false, false, false, false, false, false, false, false, false, false, false, false, false, false, false, false, false, false, false] rfl rfl (any_of HT_.out (by kernel_rfl)) (fun _ _ _ h => h) (Or.inl ⟨by rfl, ?_⟩) ?_ ?_
                     rotate_left
                     ·
                      intro w'
                      go_simp
                      with_reducible rfl
                     rotate_left
                     ·
                      simp only [Act.put, List.setIfInBounds_toArray, List.set_cons_zero, List.set_cons_succ, i64_w, i32_w]
                      rfl
                     refine take_ (i := 10) (N := some 67) (v := ?_) (a' := ?_) #[true, true, true, true, true, true, true, true, true, true, true, false, false, false, false, false, false, false, false, false, false, false, false, false, false, false, false, false, false, false, false, false, false, false, false, false] rfl rfl (take_ofW HT_.out HW_.out (by kernel_rfl)) (fun _ _ _ h => h) (Or.inl ⟨by rfl, ?_⟩) hHeld ?_ ?_
                     rotate_left
                     ·
                      rintro w' ⟨s0, s1, s2, s3, s4, s5, s6, s7⟩
                      go_simp
                      with_reducible rfl
                     rotate_left
                     ·
                      simp only [Act.put, List.setIfInBounds_toArray, List.set_cons_zero, List.set_cons_succ, i64_w, i32_w]
                      rfl
                     refine one_ (i := 11) (N := some 68) #[true, true, true, true, true, true, true, true, true, true, true, true, false, false, false, false, false, false, false, false, false, false, false, false, false, false, false, false, false, false, false, false, false, false, false, false] rfl rfl (one_of HT_.out (by kernel_rfl)) (by decide) (fun K hK => ?_)
                     refine goes_ Tryd.func11 (by kernel_rfl) rfl #[.slice A169_0 (rd_L2 t165 x10_3).length c169_0] (by rfl) rfl rfl (by (try simp only [List.map_toArray, List.map_cons, List.map_nil]); first | done | rfl | (simp only [List.length_drop, List.length_take]; rfl)) ?_
                     with_reducible refine (thistlelaw02_sound.calls k3 _ _ (rd_L2 t165 x10_3) true _ ?side1 ?side2 A24.out).mono ?_
                     (case side1 => repeat (first | exact (by repeat (first | (with_reducible exact HR170_0.out) | (with_reducible refine Kd.C_alloc ?_ _) | (with_reducible refine Kd.C_drewN ?_ _) | (with_reducible refine Kd.C_drew ?_) | exact HR170_0.out)) | (with_reducible refine Kd.C_alloc ?_ _) | (with_reducible refine Kd.C_drewN ?_ _) | (with_reducible refine Kd.C_drew ?_)))
                     (case side2 => exact HC170_0.out)
                     rintro e w' ⟨rfl, ⟨nd, rfl⟩⟩
                     refine ⟨_, rfl, ?_⟩
                     have p173 : 0 ≤ (0 : Int) := (by omega)
                     have q173 : 0 < ((rd_L2 t165 (ji27)).length : Int) := of_decide_eq_true (by first | (with_reducible assumption) | assumption)
                     obtain ⟨ad173b, e173b, hx173_0, hx173_1⟩ := at_T29 (by repeat (first | (with_reducible exact HR172_0.out) | (with_reducible refine Kd.C_alloc ?_ _) | (with_reducible refine Kd.C_drewN ?_ _) | (with_reducible refine Kd.C_drew ?_) | exact HR172_0.out)) 0 p173 q173
                     obtain rfl : ad173 = ad173b := (by have h_ := E173.out.symm.trans e173b; injection h_)
                     have e173 := E173.out
                     clear e173b E173
                     cases e173
                     have qi173 : (0 < (rd_L2 t165 (ji27)).length) = True := eq_true (by omega)
                     (try rw [show ((0 : Int)).toNat = 0 from rfl] at hx173_0)
                     (try rw [show 0 * 2 = 0 from rfl] at hx173_0)
                     (try rw [Addr.add_zero'] at hx173_0)
                     (try rw [show ((0 : Int)).toNat = 0 from rfl] at hx173_1)
                     (try rw [show 0 * 2 = 0 from rfl] at hx173_1)
                     (try rw [Addr.add_zero'] at hx173_1)
                     replace p173 := eq_true p173
                     replace q173 := eq_true q173
                     have p175 : 0 ≤ (0 : Int) := (by omega)
                     have q175 : 0 < ((rd_L2 t165 x10_3).length : Int) := of_decide_eq_true (by first | (with_reducible assumption) | assumption)
                     obtain ⟨ad175b, e175b, hx175_0, hx175_1⟩ := at_T29 (by repeat (first | (with_reducible exact HR174_0.out) | (with_reducible refine Kd.C_alloc ?_ _) | (with_reducible refine Kd.C_drewN ?_ _) | (with_reducible refine Kd.C_drew ?_) | exact HR174_0.out)) 0 p175 q175
                     obtain rfl : ad175 = ad175b := (by have h_ := E175.out.symm.trans e175b; injection h_)
                     have e175 := E175.out
                     clear e175b E175
                     cases e175
                     have qi175 : (0 < (rd_L2 t165 x10_3).length) = True := eq_true (by omega)
                     (try rw [show ((0 : Int)).toNat = 0 from rfl] at hx175_0)
                     (try rw [show 0 * 2 = 0 from rfl] at hx175_0)
                     (try rw [Addr.add_zero'] at hx175_0)
                     (try rw [show ((0 : Int)).toNat = 0 from rfl] at hx175_1)
                     (try rw [show 0 * 2 = 0 from rfl] at hx175_1)
                     (try rw [Addr.add_zero'] at hx175_1)
                     replace p175 := eq_true p175
                     replace q175 := eq_true q175
                     refine hK.out _ _ ⟨hHeld.1, hHeld.2.1, hHeld.2.2.1, hHeld.2.2.2.1, hHeld.2.2.2.2.1, hHeld.2.2.2.2.2.1, hHeld.2.2.2.2.2.2.1, hHeld.2.2.2.2.2.2.2⟩ (fun hHeld => ?_)
                     clear hK K
                     refine norm_ (a' := ?_) ?_ ?_
                     rotate_left
                     ·
                      show Act.put _ (some 68) _ = _
                      simp only [Act.put, List.setIfInBounds_toArray, List.set_cons_zero, List.set_cons_succ, i64_w, i32_w]
                      rfl
                     refine pure_ (i := 12) (N := some 69) (v := ?_) (a' := ?_) #[true, true, true, true, true, true, true, true, true, true, true, true, true, false, false, false, false, false, false, false, false, false, false, false, false, false, false, false, false, false, false, false, false, false, false, false] rfl rfl (any_of HT_.out (by kernel_rfl)) (fun _ _ _ h => h) (Or.inl ⟨by rfl, ?_⟩) ?_ ?_
                     rotate_left
                     ·
                      intro w'
                      go_simp
                      with_reducible rfl
                     rotate_left
                     ·
                      simp only [Act.put, List.setIfInBounds_toArray, List.set_cons_zero, List.set_cons_succ, i64_w, i32_w]
                      rfl
                     refine pure_ (i := 13) (N := some 70) (v := ?_) (a' := ?_) #[true, true, true, true, true, true, true, true, true, true, true, true, true, true, false, false, false, false, false, false, false, false, false, false, false, false, false, false, false, false, false, false, false, false, false, false] rfl rfl (any_of HT_.out (by kernel_rfl)) (fun _ _ _ h => h) (Or.inl ⟨by rfl, ?_⟩) ?_ ?_
                     rotate_left
                     ·
                      intro w'
                      go_simp
                      with_reducible rfl
                     rotate_left
                     ·
                      simp only [Act.put, List.setIfInBounds_toArray, List.set_cons_zero, List.set_cons_succ, i64_w, i32_w]
                      rfl
                     refine pure_ (i := 14) (N := some 71) (v := ?_) (a' := ?_) #[true, true, true, true, true, true, true, true, true, true, true, true, true, true, true, false, false, false, false, false, false, false, false, false, false, false, false, false, false, false, false, false, false, false, false, false] rfl rfl (any_of HT_.out (by kernel_rfl)) (fun _ _ _ h => h) (Or.inl ⟨by rfl, ?_⟩) ?_ ?_
                     rotate_left
                     ·
                      intro w'
                      go_simp
                      with_reducible rfl
                     rotate_left
                     ·
                      simp only [Act.put, List.setIfInBounds_toArray, List.set_cons_zero, List.set_cons_succ, i64_w, i32_w]
                      rfl
                     refine pure_ (i := 15) (N := some 72) (v := ?_) (a' := ?_) #[true, true, true, true, true, true, true, true, true, true, true, true, true, true, true, true, false, false, false, false, false, false, false, false, false, false, false, false, false, false, false, false, false, false, false, false] rfl rfl (any_of HT_.out (by kernel_rfl)) (fun _ _ _ h => h) (Or.inl ⟨by rfl, ?_⟩) ?_ ?_
                     rotate_left
                     ·
                      intro w'
                      go_simp
                      with_reducible rfl
                     rotate_left
                     ·
                      simp only [Act.put, List.setIfInBounds_toArray, List.set_cons_zero, List.set_cons_succ, i64_w, i32_w]
                      rfl
                     refine pure_ (i := 16) (N := some 73) (v := ?_) (a' := ?_) #[true, true, true, true, true, true, true, true, true, true, true, true, true, true, true, true, true, false, false, false, false, false, false, false, false, false, false, false, false, false, false, false, false, false, false, false] rfl rfl (any_of HT_.out (by kernel_rfl)) (fun _ _ _ h => h) (Or.inl ⟨by rfl, ?_⟩) ?_ ?_
                     rotate_left
                     ·
                      intro w'
                      go_simp
                      with_reducible rfl
                     rotate_left
                     ·
                      simp only [Act.put, List.setIfInBounds_toArray, List.set_cons_zero, List.set_cons_succ, i64_w, i32_w]
                      rfl
                     refine pure_ (i := 17) (N := some 74) (v := ?_) (a' := ?_) #[true, true, true, true, true, true, true, true, true, true, true, true, true, true, true, true, true, true, false, false, false, false, false, false, false, false, false, false, false, false, false, false, false, false, false, false] rfl rfl (any_of HT_.out (by kernel_rfl)) (fun _ _ _ h => h) (Or.inl ⟨by rfl, ?_⟩) ?_ ?_
                     rotate_left
                     ·
                      intro w'
                      go_simp
                      with_reducible rfl
                     rotate_left
                     ·
                      simp only [Act.put, List.setIfInBounds_toArray, List.set_cons_zero, List.set_cons_succ, i64_w, i32_w]
                      rfl
                     refine pure_ (i := 18) (N := some 75) (v := ?_) (a' := ?_) #[true, true, true, true, true, true, true, true, true, true, true, true, true, true, true, true, true, true, true, false, false, false, false, false, false, false, false, false, false, false, false, false, false, false, false, false] rfl rfl (any_of HT_.out (by kernel_rfl)) (fun _ _ _ h => h) (Or.inl ⟨by rfl, ?_⟩) ?_ ?_
                     rotate_left
                     ·
                      intro w'
                      go_simp
                      with_reducible rfl
                     rotate_left
                     ·
                      simp only [Act.put, List.setIfInBounds_toArray, List.set_cons_zero, List.set_cons_succ, i64_w, i32_w]
                      rfl
                     refine pure_ (i := 19) (N := some 76) (v := ?_) (a' := ?_) #[true, true, true, true, true, true, true, true, true, true, true, true, true, true, true, true, true, true, true, true, false, false, false, false, false, false, false, false, false, false, false, false, false, false, false, false] rfl rfl (any_of HT_.out (by kernel_rfl)) (fun _ _ _ h => h) (Or.inl ⟨by rfl, ?_⟩) ?_ ?_
                     rotate_left
                     ·
                      intro w'
                      go_simp
                      with_reducible rfl
                     rotate_left
                     ·
                      simp only [Act.put, List.setIfInBounds_toArray, List.set_cons_zero, List.set_cons_succ, i64_w, i32_w]
                      rfl
                     refine pure_ (i := 20) (N := some 77) (v := ?_) (a' := ?_) #[true, true, true, true, true, true, true, true, true, true, true, true, true, true, true, true, true, true, true, true, true, false, false, false, false, false, false, false, false, false, false, false, false, false, false, false] rfl rfl (any_of HT_.out (by kernel_rfl)) (fun _ _ _ h => h) (Or.inl ⟨by rfl, ?_⟩) ?_ ?_
                     rotate_left
                     ·
                      intro w'
                      go_simp
                      with_reducible rfl
                     rotate_left
                     ·
                      simp only [Act.put, List.setIfInBounds_toArray, List.set_cons_zero, List.set_cons_succ, i64_w, i32_w]
                      rfl
                     refine pure_ (i := 21) (N := some 78) (v := ?_) (a' := ?_) #[true, true, true, true, true, true, true, true, true, true, true, true, true, true, true, true, true, true, true, true, true, true, false, false, false, false, false, false, false, false, false, false, false, false, false, false] rfl rfl (any_of HT_.out (by kernel_rfl)) (fun _ _ _ h => h) (Or.inl ⟨by rfl, ?_⟩) ?_ ?_
                     rotate_left
                     ·
                      intro w'
                      go_simp
                      with_reducible rfl
                     rotate_left
                     ·
                      simp only [Act.put, List.setIfInBounds_toArray, List.set_cons_zero, List.set_cons_succ, i64_w, i32_w]
                      rfl
                     refine pure_ (i := 26) (N := some 83) (v := ?_) (a' := ?_) #[true, true, true, true, true, true, true, true, true, true, true, true, true, true, true, true, true, true, true, true, true, true, false, false, false, false, true, false, false, false, false, false, false, false, false, false] rfl rfl (any_of HT_.out (by kernel_rfl)) (fun _ _ _ h => h) (Or.inl ⟨by rfl, ?_⟩) ?_ ?_
                     rotate_left
                     ·
                      intro w'
                      go_simp
                      with_reducible rfl
                     rotate_left
                     ·
                      simp only [Act.put, List.setIfInBounds_toArray, List.set_cons_zero, List.set_cons_succ, i64_w, i32_w]
                      rfl
                     refine pure_ (i := 27) (N := some 84) (v := ?_) (a' := ?_) #[true, true, true, true, true, true, true, true, true, true, true, true, true, true, true, true, true, true, true, true, true, true, false, false, false, false, true, true, false, false, false, false, false, false, false, false] rfl rfl (any_of HT_.out (by kernel_rfl)) (fun _ _ _ h => h) (Or.inl ⟨by rfl, ?_⟩) ?_ ?_
                     rotate_left
                     ·
                      intro w'
                      go_simp
                      with_reducible rfl
                     rotate_left
                     ·
                      simp only [Act.put, List.setIfInBounds_toArray, List.set_cons_zero, List.set_cons_succ, i64_w, i32_w]
                      rfl
                     refine pure_ (i := 28) (N := some 85) (v := ?_) (a' := ?_) #[true, true, true, true, true, true, true, true, true, true, true, true, true, true, true, true, true, true, true, true, true, true, false, false, false, false, true, true, true, false, false, false, false, false, false, false] rfl rfl (any_of HT_.out (by kernel_rfl)) (fun _ _ _ h => h) (Or.inl ⟨by rfl, ?_⟩) ?_ ?_
                     rotate_left
                     ·
                      intro w'
                      go_simp
                      with_reducible rfl
                     rotate_left
                     ·
                      simp only [Act.put, List.setIfInBounds_toArray, List.set_cons_zero, List.set_cons_succ, i64_w, i32_w]
                      rfl
                     refine take_ (i := 22) (N := some 79) (v := ?_) (a' := ?_) #[true, true, true, true, true, true, true, true, true, true, true, true, true, true, true, true, true, true, true, true, true, true, true, false, false, false, true, true, true, false, false, false, false, false, false, false] rfl rfl (take_ofW HT_.out HW_.out (by kernel_rfl)) (fun _ _ _ h => h) (Or.inl ⟨by rfl, ?_⟩) hHeld ?_ ?_
                     rotate_left
                     ·
                      rintro w' ⟨s0, s1, s2, s3, s4, s5, s6, s7⟩
                      go_simp
                      with_reducible rfl
                     rotate_left
                     ·
                      simp only [Act.put, List.setIfInBounds_toArray, List.set_cons_zero, List.set_cons_succ, i64_w, i32_w]
                      rfl
                     refine pure_ (i := 23) (N := some 80) (v := ?_) (a' := ?_) #[true, true, true, true, true, true, true, true, true, true, true, true, true, true, true, true, true, true, true, true, true, true, true, true, false, false, true, true, true, false, false, false, false, false, false, false] rfl rfl (any_of HT_.out (by kernel_rfl)) (fun _ _ _ h => h) (Or.inl ⟨by rfl, ?_⟩) ?_ ?_
                     rotate_left
                     ·
                      intro w'
                      go_simp
                      with_reducible rfl
                     rotate_left
                     ·
                      simp only [Act.put, List.setIfInBounds_toArray, List.set_cons_zero, List.set_cons_succ, i64_w, i32_w]
                      rfl
                     refine pure_ (i := 24) (N := some 81) (v := ?_) (a' := ?_) #[true, true, true, true, true, true, true, true, true, true, true, true, true, true, true, true, true, true, true, true, true, true, true, true, true, false, true, true, true, false, false, false, false, false, false, false] rfl rfl (any_of HT_.out (by kernel_rfl)) (fun _ _ _ h => h) (Or.inl ⟨by rfl, ?_⟩) ?_ ?_
                     rotate_left
                     ·
                      intro w'
                      go_simp
                      with_reducible rfl
                     rotate_left
                     ·
                      simp only [Act.put, List.setIfInBounds_toArray, List.set_cons_zero, List.set_cons_succ, i64_w, i32_w]
                      rfl
                     refine take_ (i := 25) (N := some 82) (v := ?_) (a' := ?_) #[true, true, true, true, true, true, true, true, true, true, true, true, true, true, true, true, true, true, true, true, true, true, true, true, true, true, true, true, true, false, false, false, false, false, false, false] rfl rfl (take_ofW HT_.out HW_.out (by kernel_rfl)) (fun _ _ _ h => h) (Or.inl ⟨by rfl, ?_⟩) hHeld ?_ ?_
                     rotate_left
                     ·
                      rintro w' ⟨s0, s1, s2, s3, s4, s5, s6, s7⟩
                      go_simp
                      with_reducible rfl
                     rotate_left
                     ·
                      simp only [Act.put, List.setIfInBounds_toArray, List.set_cons_zero, List.set_cons_succ, i64_w, i32_w]
                      rfl
                     refine take_ (i := 29) (N := some 86) (v := ?_) (a' := ?_) #[true, true, true, true, true, true, true, true, true, true, true, true, true, true, true, true, true, true, true, true, true, true, true, true, true, true, true, true, true, true, false, false, false, false, false, false] rfl rfl (take_ofW HT_.out HW_.out (by kernel_rfl)) (fun _ _ _ h => h) (Or.inl ⟨by rfl, ?_⟩) hHeld ?_ ?_
                     rotate_left
                     ·
                      rintro w' ⟨s0, s1, s2, s3, s4, s5, s6, s7⟩
                      go_simp
                      with_reducible rfl
                     rotate_left
                     ·
                      simp only [Act.put, List.setIfInBounds_toArray, List.set_cons_zero, List.set_cons_succ, i64_w, i32_w]
                      rfl
                     refine pure_ (i := 30) (N := some 87) (v := ?_) (a' := ?_) #[true, true, true, true, true, true, true, true, true, true, true, true, true, true, true, true, true, true, true, true, true, true, true, true, true, true, true, true, true, true, true, false, false, false, false, false] rfl rfl (any_of HT_.out (by kernel_rfl)) (fun _ _ _ h => h) (Or.inl ⟨by rfl, ?_⟩) ?_ ?_
                     rotate_left
                     ·
                      intro w'
                      go_simp
                      with_reducible rfl
                     rotate_left
                     ·
                      simp only [Act.put, List.setIfInBounds_toArray, List.set_cons_zero, List.set_cons_succ, i64_w, i32_w]
                      rfl
                     refine pure_ (i := 31) (N := some 88) (v := ?_) (a' := ?_) #[true, true, true, true, true, true, true, true, true, true, true, true, true, true, true, true, true, true, true, true, true, true, true, true, true, true, true, true, true, true, true, true, false, false, false, false] rfl rfl (any_of HT_.out (by kernel_rfl)) (fun _ _ _ h => h) (Or.inl ⟨by rfl, ?_⟩) ?_ ?_
                     rotate_left
                     ·
                      intro w'
                      go_simp
                      with_reducible rfl
                     rotate_left
                     ·
                      simp only [Act.put, List.setIfInBounds_toArray, List.set_cons_zero, List.set_cons_succ, i64_w, i32_w]
                      rfl
                     refine take_ (i := 32) (N := some 89) (v := ?_) (a' := ?_) #[true, true, true, true, true, true, true, true, true, true, true, true, true, true, true, true, true, true, true, true, true, true, true, true, true, true, true, true, true, true, true, true, true, false, false, false] rfl rfl (take_ofW HT_.out HW_.out (by kernel_rfl)) (fun _ _ _ h => h) (Or.inl ⟨by rfl, ?_⟩) hHeld ?_ ?_
                     rotate_left
                     ·
                      rintro w' ⟨s0, s1, s2, s3, s4, s5, s6, s7⟩
                      go_simp
                      with_reducible rfl
                     rotate_left
                     ·
                      simp only [Act.put, List.setIfInBounds_toArray, List.set_cons_zero, List.set_cons_succ, i64_w, i32_w]
                      rfl
                     refine pure_ (i := 33) (N := some 90) (v := ?_) (a' := ?_) #[true, true, true, true, true, true, true, true, true, true, true, true, true, true, true, true, true, true, true, true, true, true, true, true, true, true, true, true, true, true, true, true, true, true, false, false] rfl rfl (any_of HT_.out (by kernel_rfl)) (fun _ _ _ h => h) (Or.inl ⟨by rfl, ?_⟩) ?_ ?_
                     rotate_left
                     ·
                      intro w'
                      go_simp
                      with_reducible rfl
                     rotate_left
                     ·
                      simp only [Act.put, List.setIfInBounds_toArray, List.set_cons_zero, List.set_cons_succ, i64_w, i32_w]
                      rfl
                     refine pure_ (i := 34) (N := some 91) (v := ?_) (a' := ?_) #[true, true, true, true, true, true, true, true, true, true, true, true, true, true, true, true, true, true, true, true, true, true, true, true, true, true, true, true, true, true, true, true, true, true, true, false] rfl rfl (any_of HT_.out (by kernel_rfl)) (fun _ _ _ h => h) (Or.inl ⟨by rfl, ?_⟩) ?_ ?_
                     rotate_left
                     ·
                      intro w'
                      go_simp
                      with_reducible rfl
                     rotate_left
                     ·
                      simp only [Act.put, List.setIfInBounds_toArray, List.set_cons_zero, List.set_cons_succ, i64_w, i32_w]
                      rfl
                     refine pure_ (i := 35) (N := some 92) (v := ?_) (a' := ?_) #[true, true, true, true, true, true, true, true, true, true, true, true, true, true, true, true, true, true, true, true, true, true, true, true, true, true, true, true, true, true, true, true, true, true, true, true] rfl rfl (any_of HT_.out (by kernel_rfl)) (fun _ _ _ h => h) (Or.inl ⟨by rfl, ?_⟩) ?_ ?_
                     rotate_left
                     ·
                      intro w'
                      go_simp
                      with_reducible rfl
                     rotate_left
                     ·
                      simp only [Act.put, List.setIfInBounds_toArray, List.set_cons_zero, List.set_cons_succ, i64_w, i32_w]
                      rfl
                     refine done_ (done_of HT_.out (by kernel_rfl)) ?_
                     have p176 : 0 ≤ (x10_3 : Int) := of_decide_eq_true (by first | (with_reducible assumption) | assumption)
                     have q176 : x10_3 < (t165.length : Int) := of_decide_eq_true (by first | (with_reducible assumption) | assumption)
                     obtain ⟨ad176, A176_0, c176_0, e176, hx176_0, hl176_0, hi176_0⟩ := at_L2 (Kd.S_reads' HO_7.out).2.2 x10_3 p176 q176
                     obtain rfl : ad169 = ad176 := (by injection e176)
                     obtain ⟨ce176, hce176, hMe176, hcc176⟩ := Kd.S_get HO_7.out [] x10_3 p176 (by first | exact q176 | exact of_decide_eq_true (by first | (with_reducible assumption) | assumption) | (have e_ := (Kd.S_reads' HO_7.out).1; omega))
                     obtain ⟨ve176_0, rfl, ge176_0⟩ := hMe176
                     have hv176_0 := hcc176 0 _ rfl
                     rw [Nat.add_zero, show ((Kd.slice 29 k29)).sz = 1 from rfl, Nat.mul_one] at hv176_0
                     replace hv176_0 := Option.some.inj (hv176_0.symm.trans hx176_0)
                     rw [hv176_0] at ge176_0
                     have HL176_0 := Aside0.mk (show Kd.R k29 29 _ _ _ _ (rd_L2 t165 x10_3) from ge176_0)
                     clear hv176_0 ge176_0
                     clear hcc176 hce176
                     have HR176_0 := Aside0.mk hi176_0
                     have HC176_0 := Aside0.mk hl176_0
                     clear hi176_0 hl176_0
                     replace p176 := eq_true p176
                     replace q176 := eq_true q176
                     have ea_ := Option.some.inj (hx169_0.symm.trans hx176_0)
                     injection ea_ with ea_ en_ ec_
                     subst ea_
                     subst ec_
                     clear en_
                     try go_wp2_with (first | ((with_reducible refine gate_callee (f := 12) rfl ?_); refine goesL_ (some 98) rfl rfl Tryd.func12 (by kernel_rfl) rfl #[.slice (some ad175) (rd_L2 t165 x10_3).length c169_0] rfl (by (try simp only [List.map_toArray, List.map_cons, List.map_nil]); first | done | rfl | (simp only [List.length_drop, List.length_take]; rfl)) ?_; (with_reducible refine (thistlelaw02_ends.calls k3 _ _ (rd_L2 t165 x10_3) t177 _ ?side1 ?side2 A33.out).mono ?_); (case side1 => repeat (first | exact (by repeat (first | (with_reducible exact HR176_0.out) | (with_reducible refine Kd.C_alloc ?_ _) | (with_reducible refine Kd.C_drewN ?_ _) | (with_reducible refine Kd.C_drew ?_) | exact HR176_0.out)) | (with_reducible refine Kd.C_alloc ?_ _) | (with_reducible refine Kd.C_drewN ?_ _) | (with_reducible refine Kd.C_drew ?_))); (case side2 => exact HC176_0.out); rintro e w37 ⟨v178, rfl, ho0, hb⟩; refine ⟨_, rfl, ?_⟩; have n0_ := Aside0.mk (Kd.S_below (by (with_reducible repeat (first | apply Kd.S_alloc | apply Kd.S_drewN | apply Kd.S_drew)); exact HO_3.out) hb); have n1_ := Aside0.mk (Kd.S_below (by (with_reducible repeat (first | apply Kd.S_alloc | apply Kd.S_drewN | apply Kd.S_drew)); exact HO_7.out) hb); have n2_ := Aside0.mk (Kd.R_elder' (by (with_reducible repeat (first | apply Kd.R_alloc | apply Kd.R_drewN | apply Kd.R_drew)); exact HO_9.out) (Kd.R_base ho0) hb); have n3_ := Aside0.mk (Kd.R_below (by (with_reducible repeat (first | apply Kd.R_alloc | apply Kd.R_drewN | apply Kd.R_drew)); exact HL169_0.out) hb); have n4_ := Aside0.mk (Kd.R_below (by (with_reducible repeat (first | apply Kd.R_alloc | apply Kd.R_drewN | apply Kd.R_drew)); exact HL170_0.out) hb); have n5_ := Aside0.mk (Kd.R_below (by (with_reducible repeat (first | apply Kd.R_alloc | apply Kd.R_drewN | apply Kd.R_drew)); exact HL172_0.out) hb); have n6_ := Aside0.mk (Kd.R_below (by (with_reducible repeat (first | apply Kd.R_alloc | apply Kd.R_drewN | apply Kd.R_drew)); exact HL174_0.out) hb); have n7_ := Aside0.mk (Kd.R_below (by (with_reducible repeat (first | apply Kd.R_alloc | apply Kd.R_drewN | apply Kd.R_drew)); exact HL176_0.out) hb); have n8_ := Aside0.mk (Kd.R_lower (Kd.R_new' ho0 (Kd.R_lt (by (with_reducible repeat (first | apply Kd.R_alloc | apply Kd.R_drewN | apply Kd.R_drew)); exact HO_9.out))) (below_size (by repeat (first | (with_reducible first | exact HB.out | apply below_alloc | apply pw_below_drewN | apply below_drew1) | exact HB.out)))); have n9_ := Aside0.mk (Kd.C_below (by repeat (first | (with_reducible exact HR169_0.out) | (with_reducible refine Kd.C_alloc ?_ _) | (with_reducible refine Kd.C_drewN ?_ _) | (with_reducible refine Kd.C_drew ?_) | exact HR169_0.out)) hb); have n10_ := Aside0.mk (Kd.C_below (by repeat (first | (with_reducible exact HR170_0.out) | (with_reducible refine Kd.C_alloc ?_ _) | (with_reducible refine Kd.C_drewN ?_ _) | (with_reducible refine Kd.C_drew ?_) | exact HR170_0.out)) hb); have n11_ := Aside0.mk (Kd.C_below (by repeat (first | (with_reducible exact HR172_0.out) | (with_reducible refine Kd.C_alloc ?_ _) | (with_reducible refine Kd.C_drewN ?_ _) | (with_reducible refine Kd.C_drew ?_) | exact HR172_0.out)) hb); have n12_ := Aside0.mk (Kd.C_below (by repeat (first | (with_reducible exact HR174_0.out) | (with_reducible refine Kd.C_alloc ?_ _) | (with_reducible refine Kd.C_drewN ?_ _) | (with_reducible refine Kd.C_drew ?_) | exact HR174_0.out)) hb); have n13_ := Aside0.mk (Kd.C_below (by repeat (first | (with_reducible exact HR176_0.out) | (with_reducible refine Kd.C_alloc ?_ _) | (with_reducible refine Kd.C_drewN ?_ _) | (with_reducible refine Kd.C_drew ?_) | exact HR176_0.out)) hb); have n14_ := Aside0.mk (below_step (by repeat (first | (with_reducible first | exact HB.out | apply below_alloc | apply pw_below_drewN | apply below_drew1) | exact HB.out)) hb); clear HO_3; clear HO_7; clear HO_9; clear HL169_0; clear HL170_0; clear HL172_0; clear HL174_0; clear HL176_0; clear HR169_0; clear HR170_0; clear HR172_0; clear HR174_0; clear HR176_0; clear HB; have HO_3 := n0_; have HO_7 := n1_; have HO_9 := n2_; have HL169_0 := n3_; have HL170_0 := n4_; have HL172_0 := n5_; have HL174_0 := n6_; have HL176_0 := n7_; have HO179 := n8_; have HR169_0 := n9_; have HR170_0 := n10_; have HR172_0 := n11_; have HR174_0 := n12_; have HR176_0 := n13_; have HB := n14_; clear n0_ n1_ n2_ n3_ n4_ n5_ n6_ n7_ n8_ n9_ n10_ n11_ n12_ n13_ n14_; (try clear hb); (try clear hb2); (try clear hk); (try clear hi); (try clear ho0); obtain ⟨Ao39, co39, eo39⟩ := Kd.R_slice HO179.out; subst eo39) | ((with_reducible refine gate_builtin (b := .append) (xs := #[.tmp 93, .tmp 98]) rfl ?_); (try (refine gate_guard (by rfl) ?_; dsimp only)); at_builtin; refine Kd.R_append_rows (Kd.int .i64) (w0 := w) w.heap.size rfl (.tmp 93) (.tmp 98) 32 3 (.int .i64 0) 8 rfl Tryd.underlying32 info3 rfl (by decide) (by omega) u9 x9_3 t177 _ _ _ (fun k_ => some k_ ≠ (.slice Ao39 t177.length co39 : Value).ownBlock) (fun _ => False) rfl rfl ?aO ?aR (fun _ _ h => h) (fun _ h => h.elim) ?aF ?aB ?aS ?aL ?_; (case aR => repeat (first | exact (Kd.R_reads' HO179.out).2.2 | (with_reducible refine Kd.C_alloc ?_ _) | (with_reducible refine Kd.C_drewN ?_ _) | (with_reducible refine Kd.C_drew ?_))); (case aB => exact (by repeat (first | (with_reducible first | exact HB.out | apply below_alloc | apply pw_below_drewN | apply below_drew1) | exact HB.out))); (case aF => exact (fun k_ hk => Kd.fresh' (Kd.R_lt (by (with_reducible repeat (first | apply Kd.R_alloc | apply Kd.R_drewN | apply Kd.R_drew)); exact HO179.out)) k_ hk)); (case aO => exact (by (with_reducible repeat (first | apply Kd.R_alloc | apply Kd.R_drewN | apply Kd.R_drew)); exact Kd.R_mono HO_9.out (fun _ hk => hk.2))); (case aS => exact (below_size (by repeat (first | (with_reducible first | exact HB.out | apply below_alloc | apply pw_below_drewN | apply below_drew1) | exact HB.out)))); (case aL => have := LMc34.out; omega); intro v181 w38 ho hb hg hat; rw [← Ny180.out] at ho; have n0_ := Aside0.mk (Kd.S_over' (by (with_reducible repeat (first | apply Kd.S_alloc | apply Kd.S_drewN | apply Kd.S_drew)); exact HO_3.out) (Kd.R_typed (by (with_reducible repeat (first | apply Kd.R_alloc | apply Kd.R_drewN | apply Kd.R_drew)); exact HO_9.out)) (by decide) hg); have n1_ := Aside0.mk (Kd.S_over' (by (with_reducible repeat (first | apply Kd.S_alloc | apply Kd.S_drewN | apply Kd.S_drew)); exact HO_7.out) (Kd.R_typed (by (with_reducible repeat (first | apply Kd.R_alloc | apply Kd.R_drewN | apply Kd.R_drew)); exact HO_9.out)) (by decide) hg); have n2_ := Aside0.mk (Kd.R_over' (by (with_reducible repeat (first | apply Kd.R_alloc | apply Kd.R_drewN | apply Kd.R_drew)); exact HL169_0.out) (Kd.R_typed (by (with_reducible repeat (first | apply Kd.R_alloc | apply Kd.R_drewN | apply Kd.R_drew)); exact HO_9.out)) (by decide) hg); have n3_ := Aside0.mk (Kd.R_over' (by (with_reducible repeat (first | apply Kd.R_alloc | apply Kd.R_drewN | apply Kd.R_drew)); exact HL170_0.out) (Kd.R_typed (by (with_reducible repeat (first | apply Kd.R_alloc | apply Kd.R_drewN | apply Kd.R_drew)); exact HO_9.out)) (by decide) hg); have n4_ := Aside0.mk (Kd.R_over' (by (with_reducible repeat (first | apply Kd.R_alloc | apply Kd.R_drewN | apply Kd.R_drew)); exact HL172_0.out) (Kd.R_typed (by (with_reducible repeat (first | apply Kd.R_alloc | apply Kd.R_drewN | apply Kd.R_drew)); exact HO_9.out)) (by decide) hg); have n5_ := Aside0.mk (Kd.R_over' (by (with_reducible repeat (first | apply Kd.R_alloc | apply Kd.R_drewN | apply Kd.R_drew)); exact HL174_0.out) (Kd.R_typed (by (with_reducible repeat (first | apply Kd.R_alloc | apply Kd.R_drewN | apply Kd.R_drew)); exact HO_9.out)) (by decide) hg); have n6_ := Aside0.mk (Kd.R_over' (by (with_reducible repeat (first | apply Kd.R_alloc | apply Kd.R_drewN | apply Kd.R_drew)); exact HL176_0.out) (Kd.R_typed (by (with_reducible repeat (first | apply Kd.R_alloc | apply Kd.R_drewN | apply Kd.R_drew)); exact HO_9.out)) (by decide) hg); have n7_ := Aside0.mk (Kd.R_after (ok := (fun _ => True)) (by (with_reducible repeat (first | apply Kd.R_alloc | apply Kd.R_drewN | apply Kd.R_drew)); exact HO179.out) hg hat); have n8_ := Aside0.mk (hb); have n9_ := Aside0.mk (ho); clear HO_3; clear HO_7; clear HL169_0; clear HL170_0; clear HL172_0; clear HL174_0; clear HL176_0; clear HO179; clear HB; clear HO_9; have HO_3 := n0_; have HO_7 := n1_; have HL169_0 := n2_; have HL170_0 := n3_; have HL172_0 := n4_; have HL174_0 := n5_; have HL176_0 := n6_; have HO179 := n7_; have HB := n8_; have HO182 := n9_; clear n0_ n1_ n2_ n3_ n4_ n5_ n6_ n7_ n8_ n9_; clear ho hb hg hat))
                     go_roundg k3
                     case measure => have := HK1.out; have := HJ14.out; have := HK3.out; omega
                     case rel => exact ⟨(y180), (wrap64 (x10_3 + 1)), (by first | rfl | (simp; done) | (simp [*]; done)), H', ⟨by have := HK1.out; have := HJ14.out; have := HK3.out; omega⟩, ⟨by (with_reducible repeat (first | apply Kd.S_alloc | apply Kd.S_drewN | apply Kd.S_drew)); exact HO_3.out⟩, ⟨by (with_reducible repeat (first | apply Kd.S_alloc | apply Kd.S_drewN | apply Kd.S_drew)); exact HO_7.out⟩, ⟨by (with_reducible repeat (first | apply Kd.R_alloc | apply Kd.R_drewN | apply Kd.R_drew)); exact Kd.R_mono HO182.out (fun _ hk => trivial)⟩, ⟨by repeat (first | (with_reducible first | exact HB.out | apply below_alloc | apply pw_below_drewN | apply below_drew1) | exact HB.out)⟩⟩
                    ·
                     rw [if_neg c34] at H
                     exact absurd H (by simp)
                  ·
                   rw [if_neg c31] at H
                   exact absurd H (by simp)
                 ·
                  rw [if_neg c30] at H
                  exact absurd H (by simp)
                ·
                 rw [if_neg c29] at H
                 exact absurd H (by simp)
               ·
                rw [if_neg c28] at H
                exact absurd H (by simp)
              ·
               rw [if_neg c26] at H
               have c26b0 : decide (0 < x10_3) = false := decide_eq_false c26
               clear c26
               replace H := Option.bind_eq_some_iff.mp H
               obtain ⟨t184, A400, H⟩ := H
               replace H : (if x9_3.length + t184.length < 17592186044416 then (thistlelaw02_SetsParts.l1 k3 x3_1 t165 (x9_3 ++ t184) (wrap64 (x10_3 + 1))) else (none)) = some r := H
               have A40 := Aside0.mk A400
               clear A400
               by_cases c41 : x9_3.length + t184.length < 17592186044416
               ·
                rw [if_pos c41] at H
                have LMc41 := Aside0.mk c41
                clear c41
                obtain ⟨y187, hy187⟩ : ∃ y_ : List Int, y_ = (x9_3 ++ t184) := ⟨_, rfl⟩
                replace H : (thistlelaw02_SetsParts.l1 k3 x3_1 t165 y187 (wrap64 (x10_3 + 1))) = some r := by first | (rw [hy187]; with_reducible exact H) | (have H2_ := (Option.bind_some _ _).symm.trans H; rw [hy187]; with_reducible exact H2_) | (have H2_ := (Option.bind_some _ _).symm.trans H; with_reducible exact H2_) | with_reducible exact H | (rw [hy187]; exact H) | exact H
                have Ny187 := Aside0.mk hy187
                clear hy187
                have H' := Aside0.mk H
                clear H
                obtain ⟨Ao42, co42, eo42⟩ := Kd.S_slice HO_7.out
                subst eo42
                try go_wp2
                have n0_ := Aside0.mk (Kd.S_drew HO_3.out)
                have n1_ := Aside0.mk (Kd.S_drew HO_7.out)
                have n2_ := Aside0.mk (Kd.R_drew HO_9.out)
                have n3_ := Aside0.mk (below_drew1 HB.out)
                clear HO_3
                clear HO_7
                clear HO_9
                clear HB
                have HO_3 := n0_
                have HO_7 := n1_
                have HO_9 := n2_
                have HB := n3_
                clear n0_ n1_ n2_ n3_
                have p169 : 0 ≤ (x10_3 : Int) := of_decide_eq_true (by first | (with_reducible assumption) | assumption)
                have q169 : x10_3 < (t165.length : Int) := of_decide_eq_true (by first | (with_reducible assumption) | assumption)
                obtain ⟨ad169, A169_0, c169_0, e169, hx169_0, hl169_0, hi169_0⟩ := at_L2 (Kd.S_reads' HO_7.out).2.2 x10_3 p169 q169
                cases e169
                obtain ⟨ce169, hce169, hMe169, hcc169⟩ := Kd.S_get HO_7.out [] x10_3 p169 (by first | exact q169 | exact of_decide_eq_true (by first | (with_reducible assumption) | assumption) | (have e_ := (Kd.S_reads' HO_7.out).1; omega))
                obtain ⟨ve169_0, rfl, ge169_0⟩ := hMe169
                have hv169_0 := hcc169 0 _ rfl
                rw [Nat.add_zero, show ((Kd.slice 29 k29)).sz = 1 from rfl, Nat.mul_one] at hv169_0
                replace hv169_0 := Option.some.inj (hv169_0.symm.trans hx169_0)
                rw [hv169_0] at ge169_0
                have HL169_0 := Aside0.mk (show Kd.R k29 29 _ _ _ _ (rd_L2 t165 x10_3) from ge169_0)
                clear hv169_0 ge169_0
                clear hcc169 hce169
                have HR169_0 := Aside0.mk hi169_0
                have HC169_0 := Aside0.mk hl169_0
                clear hi169_0 hl169_0
                replace p169 := eq_true p169
                replace q169 := eq_true q169
                have p170 : 0 ≤ (x10_3 : Int) := of_decide_eq_true (by first | (with_reducible assumption) | assumption)
                have q170 : x10_3 < (t165.length : Int) := of_decide_eq_true (by first | (with_reducible assumption) | assumption)
                obtain ⟨ad170, A170_0, c170_0, e170, hx170_0, hl170_0, hi170_0⟩ := at_L2 (Kd.S_reads' HO_7.out).2.2 x10_3 p170 q170
                obtain rfl : ad169 = ad170 := (by injection e170)
                obtain ⟨ce170, hce170, hMe170, hcc170⟩ := Kd.S_get HO_7.out [] x10_3 p170 (by first | exact q170 | exact of_decide_eq_true (by first | (with_reducible assumption) | assumption) | (have e_ := (Kd.S_reads' HO_7.out).1; omega))
                obtain ⟨ve170_0, rfl, ge170_0⟩ := hMe170
                have hv170_0 := hcc170 0 _ rfl
                rw [Nat.add_zero, show ((Kd.slice 29 k29)).sz = 1 from rfl, Nat.mul_one] at hv170_0
                replace hv170_0 := Option.some.inj (hv170_0.symm.trans hx170_0)
                rw [hv170_0] at ge170_0
                have HL170_0 := Aside0.mk (show Kd.R k29 29 _ _ _ _ (rd_L2 t165 x10_3) from ge170_0)
                clear hv170_0 ge170_0
                clear hcc170 hce170
                have HR170_0 := Aside0.mk hi170_0
                have HC170_0 := Aside0.mk hl170_0
                clear hi170_0 hl170_0
                replace p170 := eq_true p170
                replace q170 := eq_true q170
                have ea_ := Option.some.inj (hx169_0.symm.trans hx170_0)
                injection ea_ with ea_ en_ ec_
                subst ea_
                subst ec_
                clear en_
                refine start_ (n := 36) (S := fun w' => w'.cell? (ad169.add (x10_3).toNat) = some (.slice A169_0 (rd_L2 t165 x10_3).length c169_0) ∧ w'.cell? (ad169.add (x10_3).toNat) = some (.slice A169_0 (rd_L2 t165 x10_3).length c169_0)) (ds := []) #[false, false, false, false, false, false, false, false, false, false, false, false, false, false, false, false, false, false, false, false, false, false, false, false, false, false, false, false, false, false, false, false, false, false, false, false] (by kernel_rfl) rfl rfl ⟨hx169_0, hx170_0⟩ (fun hHeld => ?_); refine with_tabW thistlelaw02_SetsParts.tab17 thistlelaw02_SetsParts.bits17 (fun HT_ HW_ => ?_)
                generalize wr.drew = w43 at HO_3 HO_7 HO_9 HB HL169_0 HL170_0 HR169_0 HR170_0 hx169_0 hx170_0 hHeld ⊢
                refine pure_ (i := 0) (N := some 57) (v := ?_) (a' := ?_) #[true, false, false, false, false, false, false, false, false, false, false, false, false, false, false, false, false, false, false, false, false, false, false, false, false, false, false, false, false, false, false, false, false, false, false, false] rfl rfl (any_of HT_.out (by kernel_rfl)) (fun _ _ _ h => h) (Or.inl ⟨by rfl, ?_⟩) ?_ ?_
                rotate_left
                ·
                 intro w'
                 go_simp
                 with_reducible rfl
                rotate_left
                ·
                 simp only [Act.put, List.setIfInBounds_toArray, List.set_cons_zero, List.set_cons_succ, i64_w, i32_w]
                 rfl
                refine pure_ (i := 1) (N := some 58) (v := ?_) (a' := ?_) #[true, true, false, false, false, false, false, false, false, false, false, false, false, false, false, false, false, false, false, false, false, false, false, false, false, false, false, false, false, false, false, false, false, false, false, false] rfl rfl (any_of HT_.out (by kernel_rfl)) (fun _ _ _ h => h) (Or.inl ⟨by rfl, ?_⟩) ?_ ?_
                rotate_left
                ·
                 intro w'
                 go_simp
                 with_reducible rfl
                rotate_left
                ·
                 simp only [Act.put, List.setIfInBounds_toArray, List.set_cons_zero, List.set_cons_succ, i64_w, i32_w]
                 rfl
                refine pure_ (i := 2) (N := some 59) (v := ?_) (a' := ?_) #[true, true, true, false, false, false, false, false, false, false, false, false, false, false, false, false, false, false, false, false, false, false, false, false, false, false, false, false, false, false, false, false, false, false, false, false] rfl rfl (any_of HT_.out (by kernel_rfl)) (fun _ _ _ h => h) (Or.inl ⟨by rfl, ?_⟩) ?_ ?_
                rotate_left
                ·
                 intro w'
                 go_simp
                 with_reducible rfl
                rotate_left
                ·
                 simp only [Act.put, List.setIfInBounds_toArray, List.set_cons_zero, List.set_cons_succ, i64_w, i32_w]
                 rfl
                refine take_ (i := 3) (N := some 60) (v := ?_) (a' := ?_) #[true, true, true, true, false, false, false, false, false, false, false, false, false, false, false, false, false, false, false, false, false, false, false, false, false, false, false, false, false, false, false, false, false, false, false, false] rfl rfl (take_ofW HT_.out HW_.out (by kernel_rfl)) (fun _ _ _ h => h) (Or.inl ⟨by rfl, ?_⟩) hHeld ?_ ?_
                rotate_left
                ·
                 rintro w' ⟨s0, s1⟩
                 go_simp
                 with_reducible rfl
                rotate_left
                ·
                 simp only [Act.put, List.setIfInBounds_toArray, List.set_cons_zero, List.set_cons_succ, i64_w, i32_w]
                 rfl
                refine pure_ (i := 4) (N := some 61) (v := ?_) (a' := ?_) #[true, true, true, true, true, false, false, false, false, false, false, false, false, false, false, false, false, false, false, false, false, false, false, false, false, false, false, false, false, false, false, false, false, false, false, false] rfl rfl (any_of HT_.out (by kernel_rfl)) (fun _ _ _ h => h) (Or.inl ⟨by rfl, ?_⟩) ?_ ?_
                rotate_left
                ·
                 intro w'
                 go_simp
                 with_reducible rfl
                rotate_left
                ·
                 simp only [Act.put, List.setIfInBounds_toArray, List.set_cons_zero, List.set_cons_succ, i64_w, i32_w]
                 rfl
                refine pure_ (i := 5) (N := some 62) (v := ?_) (a' := ?_) #[true, true, true, true, true, true, false, false, false, false, false, false, false, false, false, false, false, false, false, false, false, false, false, false, false, false, false, false, false, false, false, false, false, false, false, false] rfl rfl (any_of HT_.out (by kernel_rfl)) (fun _ _ _ h => h) (Or.inl ⟨by rfl, ?_⟩) ?_ ?_
                rotate_left
                ·
                 intro w'
                 go_simp
                 with_reducible rfl
                rotate_left
                ·
                 simp only [Act.put, List.setIfInBounds_toArray, List.set_cons_zero, List.set_cons_succ, i64_w, i32_w]
                 rfl
                refine pure_ (i := 6) (N := some 63) (v := ?_) (a' := ?_) #[true, true, true, true, true, true, true, false, false, false, false, false, false, false, false, false, false, false, false, false, false, false, false, false, false, false, false, false, false, false, false, false, false, false, false, false] rfl rfl (any_of HT_.out (by kernel_rfl)) (fun _ _ _ h => h) (Or.inl ⟨by rfl, ?_⟩) ?_ ?_
                rotate_left
                ·
                 intro w'
                 go_simp
                 with_reducible rfl
                rotate_left
                ·
                 simp only [Act.put, List.setIfInBounds_toArray, List.set_cons_zero, List.set_cons_succ, i64_w, i32_w]
                 rfl
                refine pure_ (i := 7) (N := some 64) (v := ?_) (a' := ?_) #[true, true, true, true, true, true, true, true, false, false, false, false, false, false, false, false, false, false, false, false, false, false, false, false, false, false, false, false, false, false, false, false, false, false, false, false] rfl rfl (any_of HT_.out (by kernel_rfl)) (fun _ _ _ h => h) (Or.inl ⟨by rfl, ?_⟩) ?_ ?_
                rotate_left
                ·
                 intro w'
                 go_simp
                 with_reducible rfl
                rotate_left
                ·
                 simp only [Act.put, List.setIfInBounds_toArray, List.set_cons_zero, List.set_cons_succ, i64_w, i32_w]
                 rfl
                refine pure_ (i := 8) (N := some 65) (v := ?_) (a' := ?_) #[true, true, true, true, true, true, true, true, true, false, false, false, false, false, false, false, false, false, false, false, false, false, false, false, false, false, false, false, false, false, false, false, false, false, false, false] rfl rfl (any_of HT_.out (by kernel_rfl)) (fun _ _ _ h => h) (Or.inl ⟨by rfl, ?_⟩) ?_ ?_
                rotate_left
                ·
                 intro w'
                 go_simp
                 with_reducible rfl
                rotate_left
                ·
                 simp only [Act.put, List.setIfInBounds_toArray, List.set_cons_zero, List.set_cons_succ, i64_w, i32_w]
                 rfl
                refine pure_ (i := 9) (N := some 66) (v := ?_) (a' := ?_) #[true, true, true, true, true, true, true, true, true, true, false, false, false, false, false, false, false, false, false, false, false, false, false, false, false, false, false, false, false, false, false, false, false, false, false, false] rfl rfl (any_of HT_.out (by kernel_rfl)) (fun _ _ _ h => h) (Or.inl ⟨by rfl, ?_⟩) ?_ ?_
                rotate_left
                ·
                 intro w'
                 go_simp
                 with_reducible rfl
                rotate_left
                ·
                 simp only [Act.put, List.setIfInBounds_toArray, List.set_cons_zero, List.set_cons_succ, i64_w, i32_w]
                 rfl
                refine take_ (i := 10) (N := some 67) (v := ?_) (a' := ?_) #[true, true, true, true, true, true, true, true, true, true, true, false, false, false, false, false, false, false, false, false, false, false, false, false, false, false, false, false, false, false, false, false, false, false, false, false] rfl rfl (take_ofW HT_.out HW_.out (by kernel_rfl)) (fun _ _ _ h => h) (Or.inl ⟨by rfl, ?_⟩) hHeld ?_ ?_
                rotate_left
                ·
                 rintro w' ⟨s0, s1⟩
                 go_simp
                 with_reducible rfl
                rotate_left
                ·
                 simp only [Act.put, List.setIfInBounds_toArray, List.set_cons_zero, List.set_cons_succ, i64_w, i32_w]
                 rfl
                refine one_ (i := 11) (N := some 68) #[true, true, true, true, true, true, true, true, true, true, true, true, false, false, false, false, false, false, false, false, false, false, false, false, false, false, false, false, false, false, false, false, false, false, false, false] rfl rfl (one_of HT_.out (by kernel_rfl)) (by decide) (fun K hK => ?_)
                refine goes_ Tryd.func11 (by kernel_rfl) rfl #[.slice A169_0 (rd_L2 t165 x10_3).length c169_0] (by rfl) rfl rfl (by (try simp only [List.map_toArray, List.map_cons, List.map_nil]); first | done | rfl | (simp only [List.length_drop, List.length_take]; rfl)) ?_
                with_reducible refine (thistlelaw02_sound.calls k3 _ _ (rd_L2 t165 x10_3) true _ ?side1 ?side2 A24.out).mono ?_
                (case side1 => repeat (first | exact (by repeat (first | (with_reducible exact HR170_0.out) | (with_reducible refine Kd.C_alloc ?_ _) | (with_reducible refine Kd.C_drewN ?_ _) | (with_reducible refine Kd.C_drew ?_) | exact HR170_0.out)) | (with_reducible refine Kd.C_alloc ?_ _) | (with_reducible refine Kd.C_drewN ?_ _) | (with_reducible refine Kd.C_drew ?_)))
                (case side2 => exact HC170_0.out)
                rintro e w' ⟨rfl, ⟨nd, rfl⟩⟩
                refine ⟨_, rfl, ?_⟩
                refine hK.out _ _ ⟨hHeld.1, hHeld.2⟩ (fun hHeld => ?_)
                clear hK K
                refine norm_ (a' := ?_) ?_ ?_
                rotate_left
                ·
                 show Act.put _ (some 68) _ = _
                 simp only [Act.put, List.setIfInBounds_toArray, List.set_cons_zero, List.set_cons_succ, i64_w, i32_w]
                 rfl
                refine pure_ (i := 12) (N := some 69) (v := ?_) (a' := ?_) #[true, true, true, true, true, true, true, true, true, true, true, true, true, false, false, false, false, false, false, false, false, false, false, false, false, false, false, false, false, false, false, false, false, false, false, false] rfl rfl (any_of HT_.out (by kernel_rfl)) (fun _ _ _ h => h) (Or.inl ⟨by rfl, ?_⟩) ?_ ?_
                rotate_left
                ·
                 intro w'
                 go_simp
                 with_reducible rfl
                rotate_left
                ·
                 simp only [Act.put, List.setIfInBounds_toArray, List.set_cons_zero, List.set_cons_succ, i64_w, i32_w]
                 rfl
                refine pure_ (i := 13) (N := some 70) (v := ?_) (a' := ?_) #[true, true, true, true, true, true, true, true, true, true, true, true, true, true, false, false, false, false, false, false, false, false, false, false, false, false, false, false, false, false, false, false, false, false, false, false] rfl rfl (any_of HT_.out (by kernel_rfl)) (fun _ _ _ h => h) (Or.inl ⟨by rfl, ?_⟩) ?_ ?_
                rotate_left
                ·
                 intro w'
                 go_simp
                 with_reducible rfl
                rotate_left
                ·
                 simp only [Act.put, List.setIfInBounds_toArray, List.set_cons_zero, List.set_cons_succ, i64_w, i32_w]
                 rfl
                refine pure_ (i := 14) (N := some 71) (v := ?_) (a' := ?_) #[true, true, true, true, true, true, true, true, true, true, true, true, true, true, true, false, false, false, false, false, false, false, false, false, false, false, false, false, false, false, false, false, false, false, false, false] rfl rfl (any_of HT_.out (by kernel_rfl)) (fun _ _ _ h => h) (Or.inl ⟨by rfl, ?_⟩) ?_ ?_
                rotate_left
                ·
                 intro w'
                 go_simp
                 with_reducible rfl
                rotate_left
                ·
                 simp only [Act.put, List.setIfInBounds_toArray, List.set_cons_zero, List.set_cons_succ, i64_w, i32_w]
                 rfl
                refine pure_ (i := 15) (N := some 72) (v := ?_) (a' := ?_) #[true, true, true, true, true, true, true, true, true, true, true, true, true, true, true, true, false, false, false, false, false, false, false, false, false, false, false, false, false, false, false, false, false, false, false, false] rfl rfl (any_of HT_.out (by kernel_rfl)) (fun _ _ _ h => h) (Or.inl ⟨by rfl, ?_⟩) ?_ ?_
                rotate_left
                ·
                 intro w'
                 go_simp
                 with_reducible rfl
                rotate_left
                ·
                 simp only [Act.put, List.setIfInBounds_toArray, List.set_cons_zero, List.set_cons_succ, i64_w, i32_w]
                 rfl
                refine pure_ (i := 16) (N := some 73) (v := ?_) (a' := ?_) #[true, true, true, true, true, true, true, true, true, true, true, true, true, true, true, true, true, false, false, false, false, false, false, false, false, false, false, false, false, false, false, false, false, false, false, false] rfl rfl (any_of HT_.out (by kernel_rfl)) (fun _ _ _ h => h) (Or.inl ⟨by rfl, ?_⟩) ?_ ?_
                rotate_left
                ·
                 intro w'
                 go_simp
                 with_reducible rfl
                rotate_left
                ·
                 simp only [Act.put, List.setIfInBounds_toArray, List.set_cons_zero, List.set_cons_succ, i64_w, i32_w]
                 rfl
                refine pure_ (i := 17) (N := some 74) (v := ?_) (a' := ?_) #[true, true, true, true, true, true, true, true, true, true, true, true, true, true, true, true, true, true, false, false, false, false, false, false, false, false, false, false, false, false, false, false, false, false, false, false] rfl rfl (any_of HT_.out (by kernel_rfl)) (fun _ _ _ h => h) (Or.inl ⟨by rfl, ?_⟩) ?_ ?_
                rotate_left
                ·
                 intro w'
                 go_simp
                 with_reducible rfl
                rotate_left
                ·
                 simp only [Act.put, List.setIfInBounds_toArray, List.set_cons_zero, List.set_cons_succ, i64_w, i32_w]
                 rfl
                refine pure_ (i := 18) (N := some 75) (v := undef) (a' := ?_) #[true, true, true, true, true, true, true, true, true, true, true, true, true, true, true, true, true, true, true, false, false, false, false, false, false, false, false, false, false, false, false, false, false, false, false, false] rfl rfl (any_of HT_.out (by kernel_rfl)) (fun _ _ _ h => h) (Or.inr ⟨by rfl, rfl⟩) ?_ ?_
                rotate_left
                ·
                 simp only [Act.put, List.setIfInBounds_toArray, List.set_cons_zero, List.set_cons_succ, i64_w, i32_w]
                 rfl
                refine pure_ (i := 19) (N := some 76) (v := undef) (a' := ?_) #[true, true, true, true, true, true, true, true, true, true, true, true, true, true, true, true, true, true, true, true, false, false, false, false, false, false, false, false, false, false, false, false, false, false, false, false] rfl rfl (any_of HT_.out (by kernel_rfl)) (fun _ _ _ h => h) (Or.inr ⟨by rfl, rfl⟩) ?_ ?_
                rotate_left
                ·
                 simp only [Act.put, List.setIfInBounds_toArray, List.set_cons_zero, List.set_cons_succ, i64_w, i32_w]
                 rfl
                refine pure_ (i := 20) (N := some 77) (v := undef) (a' := ?_) #[true, true, true, true, true, true, true, true, true, true, true, true, true, true, true, true, true, true, true, true, true, false, false, false, false, false, false, false, false, false, false, false, false, false, false, false] rfl rfl (any_of HT_.out (by kernel_rfl)) (fun _ _ _ h => h) (Or.inr ⟨by rfl, rfl⟩) ?_ ?_
                rotate_left
                ·
                 simp only [Act.put, List.setIfInBounds_toArray, List.set_cons_zero, List.set_cons_succ, i64_w, i32_w]
                 rfl
                refine pure_ (i := 21) (N := some 78) (v := undef) (a' := ?_) #[true, true, true, true, true, true, true, true, true, true, true, true, true, true, true, true, true, true, true, true, true, true, false, false, false, false, false, false, false, false, false, false, false, false, false, false] rfl rfl (any_of HT_.out (by kernel_rfl)) (fun _ _ _ h => h) (Or.inr ⟨by rfl, rfl⟩) ?_ ?_
                rotate_left
                ·
                 simp only [Act.put, List.setIfInBounds_toArray, List.set_cons_zero, List.set_cons_succ, i64_w, i32_w]
                 rfl
                refine pure_ (i := 22) (N := some 79) (v := undef) (a' := ?_) #[true, true, true, true, true, true, true, true, true, true, true, true, true, true, true, true, true, true, true, true, true, true, true, false, false, false, false, false, false, false, false, false, false, false, false, false] rfl rfl (any_of HT_.out (by kernel_rfl)) (fun _ _ _ h => h) (Or.inr ⟨by rfl, rfl⟩) ?_ ?_
                rotate_left
                ·
                 simp only [Act.put, List.setIfInBounds_toArray, List.set_cons_zero, List.set_cons_succ, i64_w, i32_w]
                 rfl
                refine pure_ (i := 23) (N := some 80) (v := undef) (a' := ?_) #[true, true, true, true, true, true, true, true, true, true, true, true, true, true, true, true, true, true, true, true, true, true, true, true, false, false, false, false, false, false, false, false, false, false, false, false] rfl rfl (any_of HT_.out (by kernel_rfl)) (fun _ _ _ h => h) (Or.inr ⟨by rfl, rfl⟩) ?_ ?_
                rotate_left
                ·
                 simp only [Act.put, List.setIfInBounds_toArray, List.set_cons_zero, List.set_cons_succ, i64_w, i32_w]
                 rfl
                refine pure_ (i := 24) (N := some 81) (v := undef) (a' := ?_) #[true, true, true, true, true, true, true, true, true, true, true, true, true, true, true, true, true, true, true, true, true, true, true, true, true, false, false, false, false, false, false, false, false, false, false, false] rfl rfl (any_of HT_.out (by kernel_rfl)) (fun _ _ _ h => h) (Or.inr ⟨by rfl, rfl⟩) ?_ ?_
                rotate_left
                ·
                 simp only [Act.put, List.setIfInBounds_toArray, List.set_cons_zero, List.set_cons_succ, i64_w, i32_w]
                 rfl
                refine pure_ (i := 25) (N := some 82) (v := undef) (a' := ?_) #[true, true, true, true, true, true, true, true, true, true, true, true, true, true, true, true, true, true, true, true, true, true, true, true, true, true, false, false, false, false, false, false, false, false, false, false] rfl rfl (any_of HT_.out (by kernel_rfl)) (fun _ _ _ h => h) (Or.inr ⟨by rfl, rfl⟩) ?_ ?_
                rotate_left
                ·
                 simp only [Act.put, List.setIfInBounds_toArray, List.set_cons_zero, List.set_cons_succ, i64_w, i32_w]
                 rfl
                refine pure_ (i := 26) (N := some 83) (v := undef) (a' := ?_) #[true, true, true, true, true, true, true, true, true, true, true, true, true, true, true, true, true, true, true, true, true, true, true, true, true, true, true, false, false, false, false, false, false, false, false, false] rfl rfl (any_of HT_.out (by kernel_rfl)) (fun _ _ _ h => h) (Or.inr ⟨by rfl, rfl⟩) ?_ ?_
                rotate_left
                ·
                 simp only [Act.put, List.setIfInBounds_toArray, List.set_cons_zero, List.set_cons_succ, i64_w, i32_w]
                 rfl
                refine pure_ (i := 27) (N := some 84) (v := undef) (a' := ?_) #[true, true, true, true, true, true, true, true, true, true, true, true, true, true, true, true, true, true, true, true, true, true, true, true, true, true, true, true, false, false, false, false, false, false, false, false] rfl rfl (any_of HT_.out (by kernel_rfl)) (fun _ _ _ h => h) (Or.inr ⟨by rfl, rfl⟩) ?_ ?_
                rotate_left
                ·
                 simp only [Act.put, List.setIfInBounds_toArray, List.set_cons_zero, List.set_cons_succ, i64_w, i32_w]
                 rfl
                refine pure_ (i := 28) (N := some 85) (v := undef) (a' := ?_) #[true, true, true, true, true, true, true, true, true, true, true, true, true, true, true, true, true, true, true, true, true, true, true, true, true, true, true, true, true, false, false, false, false, false, false, false] rfl rfl (any_of HT_.out (by kernel_rfl)) (fun _ _ _ h => h) (Or.inr ⟨by rfl, rfl⟩) ?_ ?_
                rotate_left
                ·
                 simp only [Act.put, List.setIfInBounds_toArray, List.set_cons_zero, List.set_cons_succ, i64_w, i32_w]
                 rfl
                refine pure_ (i := 29) (N := some 86) (v := undef) (a' := ?_) #[true, true, true, true, true, true, true, true, true, true, true, true, true, true, true, true, true, true, true, true, true, true, true, true, true, true, true, true, true, true, false, false, false, false, false, false] rfl rfl (any_of HT_.out (by kernel_rfl)) (fun _ _ _ h => h) (Or.inr ⟨by rfl, rfl⟩) ?_ ?_
                rotate_left
                ·
                 simp only [Act.put, List.setIfInBounds_toArray, List.set_cons_zero, List.set_cons_succ, i64_w, i32_w]
                 rfl
                refine pure_ (i := 30) (N := some 87) (v := undef) (a' := ?_) #[true, true, true, true, true, true, true, true, true, true, true, true, true, true, true, true, true, true, true, true, true, true, true, true, true, true, true, true, true, true, true, false, false, false, false, false] rfl rfl (any_of HT_.out (by kernel_rfl)) (fun _ _ _ h => h) (Or.inr ⟨by rfl, rfl⟩) ?_ ?_
                rotate_left
                ·
                 simp only [Act.put, List.setIfInBounds_toArray, List.set_cons_zero, List.set_cons_succ, i64_w, i32_w]
                 rfl
                refine pure_ (i := 31) (N := some 88) (v := undef) (a' := ?_) #[true, true, true, true, true, true, true, true, true, true, true, true, true, true, true, true, true, true, true, true, true, true, true, true, true, true, true, true, true, true, true, true, false, false, false, false] rfl rfl (any_of HT_.out (by kernel_rfl)) (fun _ _ _ h => h) (Or.inr ⟨by rfl, rfl⟩) ?_ ?_
                rotate_left
                ·
                 simp only [Act.put, List.setIfInBounds_toArray, List.set_cons_zero, List.set_cons_succ, i64_w, i32_w]
                 rfl
                refine pure_ (i := 32) (N := some 89) (v := undef) (a' := ?_) #[true, true, true, true, true, true, true, true, true, true, true, true, true, true, true, true, true, true, true, true, true, true, true, true, true, true, true, true, true, true, true, true, true, false, false, false] rfl rfl (any_of HT_.out (by kernel_rfl)) (fun _ _ _ h => h) (Or.inr ⟨by rfl, rfl⟩) ?_ ?_
                rotate_left
                ·
                 simp only [Act.put, List.setIfInBounds_toArray, List.set_cons_zero, List.set_cons_succ, i64_w, i32_w]
                 rfl
                refine pure_ (i := 33) (N := some 90) (v := undef) (a' := ?_) #[true, true, true, true, true, true, true, true, true, true, true, true, true, true, true, true, true, true, true, true, true, true, true, true, true, true, true, true, true, true, true, true, true, true, false, false] rfl rfl (any_of HT_.out (by kernel_rfl)) (fun _ _ _ h => h) (Or.inr ⟨by rfl, rfl⟩) ?_ ?_
                rotate_left
                ·
                 simp only [Act.put, List.setIfInBounds_toArray, List.set_cons_zero, List.set_cons_succ, i64_w, i32_w]
                 rfl
                refine pure_ (i := 34) (N := some 91) (v := ?_) (a' := ?_) #[true, true, true, true, true, true, true, true, true, true, true, true, true, true, true, true, true, true, true, true, true, true, true, true, true, true, true, true, true, true, true, true, true, true, true, false] rfl rfl (any_of HT_.out (by kernel_rfl)) (fun _ _ _ h => h) (Or.inl ⟨by rfl, ?_⟩) ?_ ?_
                rotate_left
                ·
                 intro w'
                 go_simp
                 with_reducible rfl
                rotate_left
                ·
                 simp only [Act.put, List.setIfInBounds_toArray, List.set_cons_zero, List.set_cons_succ, i64_w, i32_w]
                 rfl
                refine pure_ (i := 35) (N := some 92) (v := ?_) (a' := ?_) #[true, true, true, true, true, true, true, true, true, true, true, true, true, true, true, true, true, true, true, true, true, true, true, true, true, true, true, true, true, true, true, true, true, true, true, true] rfl rfl (any_of HT_.out (by kernel_rfl)) (fun _ _ _ h => h) (Or.inl ⟨by rfl, ?_⟩) ?_ ?_
                rotate_left
                ·
                 intro w'
                 go_simp
                 with_reducible rfl
                rotate_left
                ·
                 simp only [Act.put, List.setIfInBounds_toArray, List.set_cons_zero, List.set_cons_succ, i64_w, i32_w]
                 rfl
                refine done_ (done_of HT_.out (by kernel_rfl)) ?_
                have p183 : 0 ≤ (x10_3 : Int) := of_decide_eq_true (by first | (with_reducible assumption) | assumption)
                have q183 : x10_3 < (t165.length : Int) := of_decide_eq_true (by first | (with_reducible assumption) | assumption)
                obtain ⟨ad183, A183_0, c183_0, e183, hx183_0, hl183_0, hi183_0⟩ := at_L2 (Kd.S_reads' HO_7.out).2.2 x10_3 p183 q183
                obtain rfl : ad169 = ad183 := (by injection e183)
                obtain ⟨ce183, hce183, hMe183, hcc183⟩ := Kd.S_get HO_7.out [] x10_3 p183 (by first | exact q183 | exact of_decide_eq_true (by first | (with_reducible assumption) | assumption) | (have e_ := (Kd.S_reads' HO_7.out).1; omega))
                obtain ⟨ve183_0, rfl, ge183_0⟩ := hMe183
                have hv183_0 := hcc183 0 _ rfl
                rw [Nat.add_zero, show ((Kd.slice 29 k29)).sz = 1 from rfl, Nat.mul_one] at hv183_0
                replace hv183_0 := Option.some.inj (hv183_0.symm.trans hx183_0)
                rw [hv183_0] at ge183_0
                have HL183_0 := Aside0.mk (show Kd.R k29 29 _ _ _ _ (rd_L2 t165 x10_3) from ge183_0)
                clear hv183_0 ge183_0
                clear hcc183 hce183
                have HR183_0 := Aside0.mk hi183_0
                have HC183_0 := Aside0.mk hl183_0
                clear hi183_0 hl183_0
                replace p183 := eq_true p183
                replace q183 := eq_true q183
                have ea_ := Option.some.inj (hx169_0.symm.trans hx183_0)
                injection ea_ with ea_ en_ ec_
                subst ea_
                subst ec_
                clear en_
                try go_wp2_with (first | ((with_reducible refine gate_callee (f := 12) rfl ?_); refine goesL_ (some 98) rfl rfl Tryd.func12 (by kernel_rfl) rfl #[.slice A169_0 (rd_L2 t165 x10_3).length c169_0] rfl (by (try simp only [List.map_toArray, List.map_cons, List.map_nil]); first | done | rfl | (simp only [List.length_drop, List.length_take]; rfl)) ?_; (with_reducible refine (thistlelaw02_ends.calls k3 _ _ (rd_L2 t165 x10_3) t184 _ ?side1 ?side2 A40.out).mono ?_); (case side1 => repeat (first | exact (by repeat (first | (with_reducible exact HR183_0.out) | (with_reducible refine Kd.C_alloc ?_ _) | (with_reducible refine Kd.C_drewN ?_ _) | (with_reducible refine Kd.C_drew ?_) | exact HR183_0.out)) | (with_reducible refine Kd.C_alloc ?_ _) | (with_reducible refine Kd.C_drewN ?_ _) | (with_reducible refine Kd.C_drew ?_))); (case side2 => exact HC183_0.out); rintro e w44 ⟨v185, rfl, ho0, hb⟩; refine ⟨_, rfl, ?_⟩; have n0_ := Aside0.mk (Kd.S_below (by (with_reducible repeat (first | apply Kd.S_alloc | apply Kd.S_drewN | apply Kd.S_drew)); exact HO_3.out) hb); have n1_ := Aside0.mk (Kd.S_below (by (with_reducible repeat (first | apply Kd.S_alloc | apply Kd.S_drewN | apply Kd.S_drew)); exact HO_7.out) hb); have n2_ := Aside0.mk (Kd.R_elder' (by (with_reducible repeat (first | apply Kd.R_alloc | apply Kd.R_drewN | apply Kd.R_drew)); exact HO_9.out) (Kd.R_base ho0) hb); have n3_ := Aside0.mk (Kd.R_below (by (with_reducible repeat (first | apply Kd.R_alloc | apply Kd.R_drewN | apply Kd.R_drew)); exact HL169_0.out) hb); have n4_ := Aside0.mk (Kd.R_below (by (with_reducible repeat (first | apply Kd.R_alloc | apply Kd.R_drewN | apply Kd.R_drew)); exact HL170_0.out) hb); have n5_ := Aside0.mk (Kd.R_below (by (with_reducible repeat (first | apply Kd.R_alloc | apply Kd.R_drewN | apply Kd.R_drew)); exact HL183_0.out) hb); have n6_ := Aside0.mk (Kd.R_lower (Kd.R_new' ho0 (Kd.R_lt (by (with_reducible repeat (first | apply Kd.R_alloc | apply Kd.R_drewN | apply Kd.R_drew)); exact HO_9.out))) (below_size (by repeat (first | (with_reducible first | exact HB.out | apply below_alloc | apply pw_below_drewN | apply below_drew1) | exact HB.out)))); have n7_ := Aside0.mk (Kd.C_below (by repeat (first | (with_reducible exact HR169_0.out) | (with_reducible refine Kd.C_alloc ?_ _) | (with_reducible refine Kd.C_drewN ?_ _) | (with_reducible refine Kd.C_drew ?_) | exact HR169_0.out)) hb); have n8_ := Aside0.mk (Kd.C_below (by repeat (first | (with_reducible exact HR170_0.out) | (with_reducible refine Kd.C_alloc ?_ _) | (with_reducible refine Kd.C_drewN ?_ _) | (with_reducible refine Kd.C_drew ?_) | exact HR170_0.out)) hb); have n9_ := Aside0.mk (Kd.C_below (by repeat (first | (with_reducible exact HR183_0.out) | (with_reducible refine Kd.C_alloc ?_ _) | (with_reducible refine Kd.C_drewN ?_ _) | (with_reducible refine Kd.C_drew ?_) | exact HR183_0.out)) hb); have n10_ := Aside0.mk (below_step (by repeat (first | (with_reducible first | exact HB.out | apply below_alloc | apply pw_below_drewN | apply below_drew1) | exact HB.out)) hb); clear HO_3; clear HO_7; clear HO_9; clear HL169_0; clear HL170_0; clear HL183_0; clear HR169_0; clear HR170_0; clear HR183_0; clear HB; have HO_3 := n0_; have HO_7 := n1_; have HO_9 := n2_; have HL169_0 := n3_; have HL170_0 := n4_; have HL183_0 := n5_; have HO186 := n6_; have HR169_0 := n7_; have HR170_0 := n8_; have HR183_0 := n9_; have HB := n10_; clear n0_ n1_ n2_ n3_ n4_ n5_ n6_ n7_ n8_ n9_ n10_; (try clear hb); (try clear hb2); (try clear hk); (try clear hi); (try clear ho0); obtain ⟨Ao46, co46, eo46⟩ := Kd.R_slice HO186.out; subst eo46) | ((with_reducible refine gate_builtin (b := .append) (xs := #[.tmp 93, .tmp 98]) rfl ?_); (try (refine gate_guard (by rfl) ?_; dsimp only)); at_builtin; refine Kd.R_append_rows (Kd.int .i64) (w0 := w) w.heap.size rfl (.tmp 93) (.tmp 98) 32 3 (.int .i64 0) 8 rfl Tryd.underlying32 info3 rfl (by decide) (by omega) u9 x9_3 t184 _ _ _ (fun k_ => some k_ ≠ (.slice Ao46 t184.length co46 : Value).ownBlock) (fun _ => False) rfl rfl ?aO ?aR (fun _ _ h => h) (fun _ h => h.elim) ?aF ?aB ?aS ?aL ?_; (case aR => repeat (first | exact (Kd.R_reads' HO186.out).2.2 | (with_reducible refine Kd.C_alloc ?_ _) | (with_reducible refine Kd.C_drewN ?_ _) | (with_reducible refine Kd.C_drew ?_))); (case aB => exact (by repeat (first | (with_reducible first | exact HB.out | apply below_alloc | apply pw_below_drewN | apply below_drew1) | exact HB.out))); (case aF => exact (fun k_ hk => Kd.fresh' (Kd.R_lt (by (with_reducible repeat (first | apply Kd.R_alloc | apply Kd.R_drewN | apply Kd.R_drew)); exact HO186.out)) k_ hk)); (case aO => exact (by (with_reducible repeat (first | apply Kd.R_alloc | apply Kd.R_drewN | apply Kd.R_drew)); exact Kd.R_mono HO_9.out (fun _ hk => hk.2))); (case aS => exact (below_size (by repeat (first | (with_reducible first | exact HB.out | apply below_alloc | apply pw_below_drewN | apply below_drew1) | exact HB.out)))); (case aL => have := LMc41.out; omega); intro v188 w45 ho hb hg hat; rw [← Ny187.out] at ho; have n0_ := Aside0.mk (Kd.S_over' (by (with_reducible repeat (first | apply Kd.S_alloc | apply Kd.S_drewN | apply Kd.S_drew)); exact HO_3.out) (Kd.R_typed (by (with_reducible repeat (first | apply Kd.R_alloc | apply Kd.R_drewN | apply Kd.R_drew)); exact HO_9.out)) (by decide) hg); have n1_ := Aside0.mk (Kd.S_over' (by (with_reducible repeat (first | apply Kd.S_alloc | apply Kd.S_drewN | apply Kd.S_drew)); exact HO_7.out) (Kd.R_typed (by (with_reducible repeat (first | apply Kd.R_alloc | apply Kd.R_drewN | apply Kd.R_drew)); exact HO_9.out)) (by decide) hg); have n2_ := Aside0.mk (Kd.R_over' (by (with_reducible repeat (first | apply Kd.R_alloc | apply Kd.R_drewN | apply Kd.R_drew)); exact HL169_0.out) (Kd.R_typed (by (with_reducible repeat (first | apply Kd.R_alloc | apply Kd.R_drewN | apply Kd.R_drew)); exact HO_9.out)) (by decide) hg); have n3_ := Aside0.mk (Kd.R_over' (by (with_reducible repeat (first | apply Kd.R_alloc | apply Kd.R_drewN | apply Kd.R_drew)); exact HL170_0.out) (Kd.R_typed (by (with_reducible repeat (first | apply Kd.R_alloc | apply Kd.R_drewN | apply Kd.R_drew)); exact HO_9.out)) (by decide) hg); have n4_ := Aside0.mk (Kd.R_over' (by (with_reducible repeat (first | apply Kd.R_alloc | apply Kd.R_drewN | apply Kd.R_drew)); exact HL183_0.out) (Kd.R_typed (by (with_reducible repeat (first | apply Kd.R_alloc | apply Kd.R_drewN | apply Kd.R_drew)); exact HO_9.out)) (by decide) hg); have n5_ := Aside0.mk (Kd.R_after (ok := (fun _ => True)) (by (with_reducible repeat (first | apply Kd.R_alloc | apply Kd.R_drewN | apply Kd.R_drew)); exact HO186.out) hg hat); have n6_ := Aside0.mk (hb); have n7_ := Aside0.mk (ho); clear HO_3; clear HO_7; clear HL169_0; clear HL170_0; clear HL183_0; clear HO186; clear HB; clear HO_9; have HO_3 := n0_; have HO_7 := n1_; have HL169_0 := n2_; have HL170_0 := n3_; have HL183_0 := n4_; have HO186 := n5_; have HB := n6_; have HO189 := n7_; clear n0_ n1_ n2_ n3_ n4_ n5_ n6_ n7_; clear ho hb hg hat))
                go_roundg k3
                case measure => have := HK1.out; have := HJ14.out; have := HK3.out; omega
                case rel => exact ⟨(y187), (wrap64 (x10_3 + 1)), (by first | rfl | (simp; done) | (simp [*]; done)), H', ⟨by have := HK1.out; have := HJ14.out; have := HK3.out; omega⟩, ⟨by (with_reducible repeat (first | apply Kd.S_alloc | apply Kd.S_drewN | apply Kd.S_drew)); exact HO_3.out⟩, ⟨by (with_reducible repeat (first | apply Kd.S_alloc | apply Kd.S_drewN | apply Kd.S_drew)); exact HO_7.out⟩, ⟨by (with_reducible repeat (first | apply Kd.R_alloc | apply Kd.R_drewN | apply Kd.R_drew)); exact Kd.R_mono HO189.out (fun _ hk => trivial)⟩, ⟨by repeat (first | (with_reducible first | exact HB.out | apply below_alloc | apply pw_below_drewN | apply below_drew1) | exact HB.out)⟩⟩
               ·
                rw [if_neg c41] at H
                exact absurd H (by simp)
             ·
              replace c25 := Bool.eq_false_iff.mpr c25
              subst c25
              have H1 : (some false) = some r := by rw [if_neg (show ¬ (false = true) by decide)] at H; exact H
              clear H
              have H := H1
              clear H1
              exact absurd (H.trans (congrArg some hrt.out)) (by simp)
           ·
            rw [if_neg c22] at H
            exact absurd H (by simp)
          ·
           rw [if_neg c21] at H
           have c21b0 : decide (x10_3 < (t165.length : Int)) = false := decide_eq_false c21
           clear c21
           have H' := Aside0.mk H
           clear H
           obtain ⟨Ao47, co47, eo47⟩ := Kd.S_slice HO_7.out
           subst eo47
           go_wp2
           go_loopg [9, 11] k3 (fun kq v9 v11 w' => ∃ (x9_4 : List Int) (x11_4 : Int), v11 = .int .i64 x11_4 ∧ Aside0 (thistlelaw02_SetsParts.l2 kq x3_1 t165 x9_4 x11_4 = some r) ∧ Aside0 (kq ≤ k3) ∧ Aside0 (Kd.S (Kd.slice 29 k29) 22 w' w.heap.size (fun k_ => some k_ ≠ ((.slice Ao47 t165.length co47) : Value).ownBlock) (.slice Ao16 x3_1.length co16) x3_1) ∧ Aside0 (Kd.S (Kd.slice 29 k29) 22 w' w.heap.size (fun k_ => some k_ ≠ ((.slice Ao16 x3_1.length co16) : Value).ownBlock) (.slice Ao47 t165.length co47) t165) ∧ Aside0 (Kd.R (Kd.int .i64) 3 w' w.heap.size (fun _ => True) v9 x9_4) ∧ Aside0 (Below w.heap.size w w'))
           case atStart => exact ⟨(x9_3), (0), (by first | rfl | (simp; done) | (simp [*]; done)), H', ⟨Nat.le_refl _⟩, ⟨by (with_reducible repeat (first | apply Kd.S_alloc | apply Kd.S_drewN | apply Kd.S_drew)); exact HO_3.out⟩, ⟨by (with_reducible repeat (first | apply Kd.S_alloc | apply Kd.S_drewN | apply Kd.S_drew)); exact HO_7.out⟩, ⟨by (with_reducible repeat (first | apply Kd.R_alloc | apply Kd.R_drewN | apply Kd.R_drew)); exact HO_9.out⟩, ⟨by repeat (first | (with_reducible first | exact HB.out | apply below_alloc | apply pw_below_drewN | apply below_drew1) | exact HB.out)⟩⟩
           case round =>
            clear H'
            try clear c1
            try clear p1
            try clear q1
            try clear hx1
            try clear c2
            try clear p2
            try clear c3
            try clear c4
            try clear p6
            try clear c11
            try clear c12
            try clear c16
            try clear p16
            try clear q16
            try clear hx16
            try clear c17
            try clear p17
            try clear q17
            try clear hx17
            try clear c18
            try clear p18
            try clear q18
            try clear hx18
            try clear c21
            try clear c21b0
            try clear c22
            try clear c25
            try clear c26
            try clear c26b0
            try clear c28
            try clear c29
            try clear c30
            try clear c31
            try clear c34
            try clear c41
            try clear hx169_0
            try clear hx170_0
            try clear hx175_1
            try clear hx176_0
            try clear hx183_0
            try clear p169
            try clear p170
            try clear p175
            try clear p176
            try clear p183
            try clear q169
            try clear q170
            try clear q175
            try clear q176
            try clear q183
            obtain ⟨x9_4, x11_4, rfl, HA, HK4, HO_3, HO_7, HO_9, HB⟩ := hrel
            cases gk with
            | zero => exact absurd HA.out (by simp [thistlelaw02_SetsParts.l2])
            | succ k4 =>
             have H := HA.out
             clear HA
             simp only [thistlelaw02_SetsParts.l2] at H
             by_cases c48 : x11_4 < (x3_1.length : Int)
             ·
              rw [if_pos c48] at H
              have c48b0 : decide (x11_4 < (x3_1.length : Int)) = true := decide_eq_true c48
              clear c48
              by_cases c49 : 0 ≤ x11_4
              ·
               rw [if_pos c49] at H
               have c49b0 : decide (0 ≤ x11_4) = true := decide_eq_true c49
               clear c49
               replace H := Option.bind_eq_some_iff.mp H
               obtain ⟨t191, A500, H⟩ := H
               replace H : (if x9_4.length + t191.length < 17592186044416 then (thistlelaw02_SetsParts.l2 k4 x3_1 t165 (x9_4 ++ t191) (wrap64 (x11_4 + 1))) else (none)) = some r := H
               have A50 := Aside0.mk A500
               clear A500
               by_cases c51 : x9_4.length + t191.length < 17592186044416
               ·
                rw [if_pos c51] at H
                have LMc51 := Aside0.mk c51
                clear c51
                obtain ⟨y194, hy194⟩ : ∃ y_ : List Int, y_ = (x9_4 ++ t191) := ⟨_, rfl⟩
                replace H : (thistlelaw02_SetsParts.l2 k4 x3_1 t165 y194 (wrap64 (x11_4 + 1))) = some r := by first | (rw [hy194]; with_reducible exact H) | (have H2_ := (Option.bind_some _ _).symm.trans H; rw [hy194]; with_reducible exact H2_) | (have H2_ := (Option.bind_some _ _).symm.trans H; with_reducible exact H2_) | with_reducible exact H | (rw [hy194]; exact H) | exact H
                have Ny194 := Aside0.mk hy194
                clear hy194
                have H' := Aside0.mk H
                clear H
                have p190 : 0 ≤ (x11_4 : Int) := of_decide_eq_true (by first | (with_reducible assumption) | assumption)
                have q190 : x11_4 < (x3_1.length : Int) := of_decide_eq_true (by first | (with_reducible assumption) | assumption)
                obtain ⟨ad190, A190_0, c190_0, e190, hx190_0, hl190_0, hi190_0⟩ := at_L2 (Kd.S_reads' HO_3.out).2.2 x11_4 p190 q190
                cases e190
                obtain ⟨ce190, hce190, hMe190, hcc190⟩ := Kd.S_get HO_3.out [] x11_4 p190 (by first | exact q190 | exact of_decide_eq_true (by first | (with_reducible assumption) | assumption) | (have e_ := (Kd.S_reads' HO_3.out).1; omega))
                obtain ⟨ve190_0, rfl, ge190_0⟩ := hMe190
                have hv190_0 := hcc190 0 _ rfl
                rw [Nat.add_zero, show ((Kd.slice 29 k29)).sz = 1 from rfl, Nat.mul_one] at hv190_0
                replace hv190_0 := Option.some.inj (hv190_0.symm.trans hx190_0)
                rw [hv190_0] at ge190_0
                have HL190_0 := Aside0.mk (show Kd.R k29 29 _ _ _ _ (rd_L2 x3_1 x11_4) from ge190_0)
                clear hv190_0 ge190_0
                clear hcc190 hce190
                have HR190_0 := Aside0.mk hi190_0
                have HC190_0 := Aside0.mk hl190_0
                clear hi190_0 hl190_0
                replace p190 := eq_true p190
                replace q190 := eq_true q190
                go_wp2_with (first | ((with_reducible refine gate_callee (f := 12) rfl ?_); refine goesL_ (some 111) rfl rfl Tryd.func12 (by kernel_rfl) rfl #[.slice A190_0 (rd_L2 x3_1 x11_4).length c190_0] rfl (by (try simp only [List.map_toArray, List.map_cons, List.map_nil]); first | done | rfl | (simp only [List.length_drop, List.length_take]; rfl)) ?_; (with_reducible refine (thistlelaw02_ends.calls k4 _ _ (rd_L2 x3_1 x11_4) t191 _ ?side1 ?side2 A50.out).mono ?_); (case side1 => repeat (first | exact (by repeat (first | (with_reducible exact HR190_0.out) | (with_reducible refine Kd.C_alloc ?_ _) | (with_reducible refine Kd.C_drewN ?_ _) | (with_reducible refine Kd.C_drew ?_) | exact HR190_0.out)) | (with_reducible refine Kd.C_alloc ?_ _) | (with_reducible refine Kd.C_drewN ?_ _) | (with_reducible refine Kd.C_drew ?_))); (case side2 => exact HC190_0.out); rintro e w52 ⟨v192, rfl, ho0, hb⟩; refine ⟨_, rfl, ?_⟩; have n0_ := Aside0.mk (Kd.S_below (by (with_reducible repeat (first | apply Kd.S_alloc | apply Kd.S_drewN | apply Kd.S_drew)); exact HO_3.out) hb); have n1_ := Aside0.mk (Kd.S_below (by (with_reducible repeat (first | apply Kd.S_alloc | apply Kd.S_drewN | apply Kd.S_drew)); exact HO_7.out) hb); have n2_ := Aside0.mk (Kd.R_elder' (by (with_reducible repeat (first | apply Kd.R_alloc | apply Kd.R_drewN | apply Kd.R_drew)); exact HO_9.out) (Kd.R_base ho0) hb); have n3_ := Aside0.mk (Kd.R_below (by (with_reducible repeat (first | apply Kd.R_alloc | apply Kd.R_drewN | apply Kd.R_drew)); exact HL190_0.out) hb); have n4_ := Aside0.mk (Kd.R_lower (Kd.R_new' ho0 (Kd.R_lt (by (with_reducible repeat (first | apply Kd.R_alloc | apply Kd.R_drewN | apply Kd.R_drew)); exact HO_9.out))) (below_size (by repeat (first | (with_reducible first | exact HB.out | apply below_alloc | apply pw_below_drewN | apply below_drew1) | exact HB.out)))); have n5_ := Aside0.mk (Kd.C_below (by repeat (first | (with_reducible exact HR190_0.out) | (with_reducible refine Kd.C_alloc ?_ _) | (with_reducible refine Kd.C_drewN ?_ _) | (with_reducible refine Kd.C_drew ?_) | exact HR190_0.out)) hb); have n6_ := Aside0.mk (below_step (by repeat (first | (with_reducible first | exact HB.out | apply below_alloc | apply pw_below_drewN | apply below_drew1) | exact HB.out)) hb); clear HO_3; clear HO_7; clear HO_9; clear HL190_0; clear HR190_0; clear HB; have HO_3 := n0_; have HO_7 := n1_; have HO_9 := n2_; have HL190_0 := n3_; have HO193 := n4_; have HR190_0 := n5_; have HB := n6_; clear n0_ n1_ n2_ n3_ n4_ n5_ n6_; (try clear hb); (try clear hb2); (try clear hk); (try clear hi); (try clear ho0); obtain ⟨Ao54, co54, eo54⟩ := Kd.R_slice HO193.out; subst eo54) | ((with_reducible refine gate_builtin (b := .append) (xs := #[.tmp 106, .tmp 111]) rfl ?_); (try (refine gate_guard (by rfl) ?_; dsimp only)); at_builtin; refine Kd.R_append_rows (Kd.int .i64) (w0 := w) w.heap.size rfl (.tmp 106) (.tmp 111) 32 3 (.int .i64 0) 8 rfl Tryd.underlying32 info3 rfl (by decide) (by omega) u9 x9_4 t191 _ _ _ (fun k_ => some k_ ≠ (.slice Ao54 t191.length co54 : Value).ownBlock) (fun _ => False) rfl rfl ?aO ?aR (fun _ _ h => h) (fun _ h => h.elim) ?aF ?aB ?aS ?aL ?_; (case aR => repeat (first | exact (Kd.R_reads' HO193.out).2.2 | (with_reducible refine Kd.C_alloc ?_ _) | (with_reducible refine Kd.C_drewN ?_ _) | (with_reducible refine Kd.C_drew ?_))); (case aB => exact (by repeat (first | (with_reducible first | exact HB.out | apply below_alloc | apply pw_below_drewN | apply below_drew1) | exact HB.out))); (case aF => exact (fun k_ hk => Kd.fresh' (Kd.R_lt (by (with_reducible repeat (first | apply Kd.R_alloc | apply Kd.R_drewN | apply Kd.R_drew)); exact HO193.out)) k_ hk)); (case aO => exact (by (with_reducible repeat (first | apply Kd.R_alloc | apply Kd.R_drewN | apply Kd.R_drew)); exact Kd.R_mono HO_9.out (fun _ hk => hk.2))); (case aS => exact (below_size (by repeat (first | (with_reducible first | exact HB.out | apply below_alloc | apply pw_below_drewN | apply below_drew1) | exact HB.out)))); (case aL => have := LMc51.out; omega); intro v195 w53 ho hb hg hat; rw [← Ny194.out] at ho; have n0_ := Aside0.mk (Kd.S_over' (by (with_reducible repeat (first | apply Kd.S_alloc | apply Kd.S_drewN | apply Kd.S_drew)); exact HO_3.out) (Kd.R_typed (by (with_reducible repeat (first | apply Kd.R_alloc | apply Kd.R_drewN | apply Kd.R_drew)); exact HO_9.out)) (by decide) hg); have n1_ := Aside0.mk (Kd.S_over' (by (with_reducible repeat (first | apply Kd.S_alloc | apply Kd.S_drewN | apply Kd.S_drew)); exact HO_7.out) (Kd.R_typed (by (with_reducible repeat (first | apply Kd.R_alloc | apply Kd.R_drewN | apply Kd.R_drew)); exact HO_9.out)) (by decide) hg); have n2_ := Aside0.mk (Kd.R_over' (by (with_reducible repeat (first | apply Kd.R_alloc | apply Kd.R_drewN | apply Kd.R_drew)); exact HL190_0.out) (Kd.R_typed (by (with_reducible repeat (first | apply Kd.R_alloc | apply Kd.R_drewN | apply Kd.R_drew)); exact HO_9.out)) (by decide) hg); have n3_ := Aside0.mk (Kd.R_after (ok := (fun _ => True)) (by (with_reducible repeat (first | apply Kd.R_alloc | apply Kd.R_drewN | apply Kd.R_drew)); exact HO193.out) hg hat); have n4_ := Aside0.mk (hb); have n5_ := Aside0.mk (ho); clear HO_3; clear HO_7; clear HL190_0; clear HO193; clear HB; clear HO_9; have HO_3 := n0_; have HO_7 := n1_; have HL190_0 := n2_; have HO193 := n3_; have HB := n4_; have HO196 := n5_; clear n0_ n1_ n2_ n3_ n4_ n5_; clear ho hb hg hat))
                go_roundg k4
                case measure => have := HK1.out; have := HJ14.out; have := HK3.out; have := HK4.out; omega
                case rel => exact ⟨(y194), (wrap64 (x11_4 + 1)), (by first | rfl | (simp; done) | (simp [*]; done)), H', ⟨by have := HK1.out; have := HJ14.out; have := HK3.out; have := HK4.out; omega⟩, ⟨by (with_reducible repeat (first | apply Kd.S_alloc | apply Kd.S_drewN | apply Kd.S_drew)); exact HO_3.out⟩, ⟨by (with_reducible repeat (first | apply Kd.S_alloc | apply Kd.S_drewN | apply Kd.S_drew)); exact HO_7.out⟩, ⟨by (with_reducible repeat (first | apply Kd.R_alloc | apply Kd.R_drewN | apply Kd.R_drew)); exact Kd.R_mono HO196.out (fun _ hk => trivial)⟩, ⟨by repeat (first | (with_reducible first | exact HB.out | apply below_alloc | apply pw_below_drewN | apply below_drew1) | exact HB.out)⟩⟩
               ·
                rw [if_neg c51] at H
                exact absurd H (by simp)
              ·
               rw [if_neg c49] at H
               exact absurd H (by simp)
             ·
              rw [if_neg c48] at H
              have c48b0 : decide (x11_4 < (x3_1.length : Int)) = false := decide_eq_false c48
              clear c48
              have H' := Aside0.mk H
              clear H
              go_wp2
              go_loopg [12] k4 (fun kq v12 w' => ∃ (x12_5 : Int), v12 = .int .i64 x12_5 ∧ Aside0 (thistlelaw02_SetsParts.l3 kq x3_1 t165 x9_4 x12_5 = some r) ∧ Aside0 (kq ≤ k4) ∧ Aside0 (Kd.S (Kd.slice 29 k29) 22 w' w.heap.size (fun k_ => some k_ ≠ ((.slice Ao47 t165.length co47) : Value).ownBlock) (.slice Ao16 x3_1.length co16) x3_1) ∧ Aside0 (Kd.S (Kd.slice 29 k29) 22 w' w.heap.size (fun k_ => some k_ ≠ ((.slice Ao16 x3_1.length co16) : Value).ownBlock) (.slice Ao47 t165.length co47) t165) ∧ Aside0 (Kd.R (Kd.int .i64) 3 w' w.heap.size (fun _ => True) u9 x9_4) ∧ Aside0 (Below w.heap.size w w'))
              case atStart => exact ⟨(0), (by first | rfl | (simp; done) | (simp [*]; done)), H', ⟨Nat.le_refl _⟩, ⟨by (with_reducible repeat (first | apply Kd.S_alloc | apply Kd.S_drewN | apply Kd.S_drew)); exact HO_3.out⟩, ⟨by (with_reducible repeat (first | apply Kd.S_alloc | apply Kd.S_drewN | apply Kd.S_drew)); exact HO_7.out⟩, ⟨by (with_reducible repeat (first | apply Kd.R_alloc | apply Kd.R_drewN | apply Kd.R_drew)); exact HO_9.out⟩, ⟨by repeat (first | (with_reducible first | exact HB.out | apply below_alloc | apply pw_below_drewN | apply below_drew1) | exact HB.out)⟩⟩
              case round =>
               clear H'
               try clear c1
               try clear p1
               try clear q1
               try clear hx1
               try clear c2
               try clear p2
               try clear c3
               try clear c4
               try clear c5
               try clear p6
               try clear c11
               try clear c12
               try clear c16
               try clear p16
               try clear q16
               try clear hx16
               try clear c17
               try clear p17
               try clear q17
               try clear hx17
               try clear c18
               try clear p18
               try clear q18
               try clear hx18
               try clear c19
               try clear p19
               try clear q19
               try clear hx19
               try clear c21
               try clear c21b0
               try clear c22
               try clear c25
               try clear c26
               try clear c26b0
               try clear c28
               try clear c29
               try clear c30
               try clear c31
               try clear c34
               try clear c41
               try clear c48
               try clear c48b0
               try clear c49
               try clear c49b0
               try clear c51
               try clear hx169_0
               try clear hx170_0
               try clear hx175_1
               try clear hx176_0
               try clear hx183_0
               try clear hx190_0
               try clear p1
               try clear p16
               try clear p169
               try clear p17
               try clear p170
               try clear p175
               try clear p176
               try clear p18
               try clear p183
               try clear p190
               try clear p2
               try clear p6
               try clear q1
               try clear q16
               try clear q169
               try clear q17
               try clear q170
               try clear q175
               try clear q176
               try clear q18
               try clear q183
               try clear q190
               obtain ⟨x12_5, rfl, HA, HK5, HO_3, HO_7, HO_9, HB⟩ := hrel
               cases gk with
               | zero => exact absurd HA.out (by simp [thistlelaw02_SetsParts.l3])
               | succ k5 =>
                have H := HA.out
                clear HA
                simp only [thistlelaw02_SetsParts.l3] at H
                by_cases c55 : x12_5 < (x9_4.length : Int)
                ·
                 rw [if_pos c55] at H
                 have c55b0 : decide (x12_5 < (x9_4.length : Int)) = true := decide_eq_true c55
                 clear c55
                 have H' := Aside0.mk H
                 clear H
                 obtain ⟨Ao56, co56, eo56⟩ := Kd.R_slice HO_9.out
                 subst eo56
                 go_wp2
                 go_loopg [13, 14] k5 (fun kq v13 v14 w' => ∃ (x13_6 : Int) (x14_6 : Int), v13 = .int .i64 x13_6 ∧ v14 = .int .i64 x14_6 ∧ Aside0 (thistlelaw02_SetsParts.l4 kq x3_1 t165 x9_4 x12_5 x13_6 x14_6 = some r) ∧ Aside0 (kq ≤ k5) ∧ Aside0 (Kd.S (Kd.slice 29 k29) 22 w' w.heap.size (fun k_ => some k_ ≠ ((.slice Ao47 t165.length co47) : Value).ownBlock) (.slice Ao16 x3_1.length co16) x3_1) ∧ Aside0 (Kd.S (Kd.slice 29 k29) 22 w' w.heap.size (fun k_ => some k_ ≠ ((.slice Ao16 x3_1.length co16) : Value).ownBlock) (.slice Ao47 t165.length co47) t165) ∧ Aside0 (Kd.R (Kd.int .i64) 3 w' w.heap.size (fun _ => True) (.slice Ao56 x9_4.length co56) x9_4) ∧ Aside0 (Below w.heap.size w w'))
                 case atStart => exact ⟨(0), (0), (by first | rfl | (simp; done) | (simp [*]; done)), (by first | rfl | (simp; done) | (simp [*]; done)), H', ⟨Nat.le_refl _⟩, ⟨by (with_reducible repeat (first | apply Kd.S_alloc | apply Kd.S_drewN | apply Kd.S_drew)); exact HO_3.out⟩, ⟨by (with_reducible repeat (first | apply Kd.S_alloc | apply Kd.S_drewN | apply Kd.S_drew)); exact HO_7.out⟩, ⟨by (with_reducible repeat (first | apply Kd.R_alloc | apply Kd.R_drewN | apply Kd.R_drew)); exact HO_9.out⟩, ⟨by repeat (first | (with_reducible first | exact HB.out | apply below_alloc | apply pw_below_drewN | apply below_drew1) | exact HB.out)⟩⟩
                 case round =>
                  clear H'
                  try clear c1
                  try clear p1
                  try clear q1
                  try clear hx1
                  try clear c2
                  try clear p2
                  try clear c3
                  try clear c4
                  try clear c5
                  try clear p6
                  try clear c11
                  try clear c12
                  try clear c16
                  try clear p16
                  try clear q16
                  try clear hx16
                  try clear c17
                  try clear p17
                  try clear q17
                  try clear hx17
                  try clear c18
                  try clear p18
                  try clear q18
                  try clear hx18
                  try clear c19
                  try clear p19
                  try clear q19
                  try clear hx19
                  try clear c21
                  try clear c21b0
                  try clear c22
                  try clear c25
                  try clear c26
                  try clear c26b0
                  try clear c28
                  try clear c29
                  try clear c30
                  try clear c31
                  try clear c34
                  try clear c41
                  try clear c48
                  try clear c48b0
                  try clear c49
                  try clear c49b0
                  try clear c51
                  try clear c55
                  try clear c55b0
                  try clear hx169_0
                  try clear hx170_0
                  try clear hx175_1
                  try clear hx176_0
                  try clear hx183_0
                  try clear hx190_0
                  try clear p1
                  try clear p16
                  try clear p169
                  try clear p17
                  try clear p170
                  try clear p175
                  try clear p176
                  try clear p18
                  try clear p183
                  try clear p19
                  try clear p190
                  try clear p2
                  try clear p6
                  try clear q1
                  try clear q16
                  try clear q169
                  try clear q17
                  try clear q170
                  try clear q175
                  try clear q176
                  try clear q18
                  try clear q183
                  try clear q19
                  try clear q190
                  obtain ⟨x13_6, x14_6, rfl, rfl, HA, HK6, HO_3, HO_7, HO_9, HB⟩ := hrel
                  cases gk with
                  | zero => exact absurd HA.out (by simp [thistlelaw02_SetsParts.l4])
                  | succ k6 =>
                   have H := HA.out
                   clear HA
                   simp only [thistlelaw02_SetsParts.l4] at H
                   by_cases c57 : x14_6 < (t165.length : Int)
                   ·
                    rw [if_pos c57] at H
                    have c57b0 : decide (x14_6 < (t165.length : Int)) = true := decide_eq_true c57
                    clear c57
                    by_cases c58 : 0 ≤ x14_6
                    ·
                     rw [if_pos c58] at H
                     have c58b0 : decide (0 ≤ x14_6) = true := decide_eq_true c58
                     clear c58
                     by_cases c59 : 0 ≤ x12_5
                     ·
                      rw [if_pos c59] at H
                      have c59b0 : decide (0 ≤ x12_5) = true := decide_eq_true c59
                      clear c59
                      by_cases c60 : x12_5 < (x9_4.length : Int)
                      ·
                       rw [if_pos c60] at H
                       have c60b0 : decide (x12_5 < (x9_4.length : Int)) = true := decide_eq_true c60
                       clear c60
                       replace H := Option.bind_eq_some_iff.mp H
                       obtain ⟨t201, A610, H⟩ := H
                       replace H : (if t201 = true then ((thistlelaw02_told.f k6 x3_1 (rd x9_4 x12_5)).bind fun t203 => (if 0 < ((rd_L2 t165 x14_6).length : Int) then ((thistlelaw02_told.f k6 x3_1 (wrap64 ((rd_T29 (rd_L2 t165 x14_6) 0).f0))).bind fun t208 => ((thistlelaw02_alike.f k6 t203 t208).bind fun t211 => (if t211 = true then (thistlelaw02_SetsParts.l4 k6 x3_1 t165 x9_4 x12_5 (wrap64 (x13_6 + 1)) (wrap64 (x14_6 + 1))) else (some false)))) else (none))) else (thistlelaw02_SetsParts.l4 k6 x3_1 t165 x9_4 x12_5 x13_6 (wrap64 (x14_6 + 1)))) = some r := H
                       have A61 := Aside0.mk A610
                       clear A610
                       by_cases c62 : t201 = true
                       ·
                        subst c62
                        have H1 : ((thistlelaw02_told.f k6 x3_1 (rd x9_4 x12_5)).bind fun t203 => (if 0 < ((rd_L2 t165 x14_6).length : Int) then ((thistlelaw02_told.f k6 x3_1 (wrap64 ((rd_T29 (rd_L2 t165 x14_6) 0).f0))).bind fun t208 => ((thistlelaw02_alike.f k6 t203 t208).bind fun t211 => (if t211 = true then (thistlelaw02_SetsParts.l4 k6 x3_1 t165 x9_4 x12_5 (wrap64 (x13_6 + 1)) (wrap64 (x14_6 + 1))) else (some false)))) else (none))) = some r := by rw [if_pos rfl] at H; exact H
                        clear H
                        have H := H1
                        clear H1
                        replace H := Option.bind_eq_some_iff.mp H
                        obtain ⟨t203, A630, H⟩ := H
                        replace H : (if 0 < ((rd_L2 t165 x14_6).length : Int) then ((thistlelaw02_told.f k6 x3_1 (wrap64 ((rd_T29 (rd_L2 t165 x14_6) 0).f0))).bind fun t208 => ((thistlelaw02_alike.f k6 t203 t208).bind fun t211 => (if t211 = true then (thistlelaw02_SetsParts.l4 k6 x3_1 t165 x9_4 x12_5 (wrap64 (x13_6 + 1)) (wrap64 (x14_6 + 1))) else (some false)))) else (none)) = some r := H
                        have A63 := Aside0.mk A630
                        clear A630
                        by_cases c64 : 0 < ((rd_L2 t165 x14_6).length : Int)
                        ·
                         rw [if_pos c64] at H
                         have c64b0 : decide (0 < ((rd_L2 t165 x14_6).length : Int)) = true := decide_eq_true c64
                         have c64b1 : decide (0 < (rd_L2 t165 x14_6).length) = true := decide_eq_true (by omega)
                         clear c64
                         replace H := Option.bind_eq_some_iff.mp H
                         obtain ⟨t208, A650, H⟩ := H
                         replace H : ((thistlelaw02_alike.f k6 t203 t208).bind fun t211 => (if t211 = true then (thistlelaw02_SetsParts.l4 k6 x3_1 t165 x9_4 x12_5 (wrap64 (x13_6 + 1)) (wrap64 (x14_6 + 1))) else (some false))) = some r := H
                         have A65 := Aside0.mk A650
                         clear A650
                         replace H := Option.bind_eq_some_iff.mp H
                         obtain ⟨t211, A660, H⟩ := H
                         replace H : (if t211 = true then (thistlelaw02_SetsParts.l4 k6 x3_1 t165 x9_4 x12_5 (wrap64 (x13_6 + 1)) (wrap64 (x14_6 + 1))) else (some false)) = some r := H
                         have A66 := Aside0.mk A660
                         clear A660
                         by_cases c67 : t211 = true
                         ·
                          subst c67
                          have H1 : (thistlelaw02_SetsParts.l4 k6 x3_1 t165 x9_4 x12_5 (wrap64 (x13_6 + 1)) (wrap64 (x14_6 + 1))) = some r := by rw [if_pos rfl] at H; exact H
                          clear H
                          have H := H1
                          clear H1
                          have H' := Aside0.mk H
                          clear H
                          try go_wp2
                          have n0_ := Aside0.mk (Kd.S_drew HO_3.out)
                          have n1_ := Aside0.mk (Kd.S_drew HO_7.out)
                          have n2_ := Aside0.mk (Kd.R_drew HO_9.out)
                          have n3_ := Aside0.mk (below_drew1 HB.out)
                          clear HO_3
                          clear HO_7
                          clear HO_9
                          clear HB
                          have HO_3 := n0_
                          have HO_7 := n1_
                          have HO_9 := n2_
                          have HB := n3_
                          clear n0_ n1_ n2_ n3_
                          have p199 : 0 ≤ (x14_6 : Int) := of_decide_eq_true (by first | (with_reducible assumption) | assumption)
                          have q199 : x14_6 < (t165.length : Int) := of_decide_eq_true (by first | (with_reducible assumption) | assumption)
                          obtain ⟨ad199, A199_0, c199_0, e199, hx199_0, hl199_0, hi199_0⟩ := at_L2 (Kd.S_reads' HO_7.out).2.2 x14_6 p199 q199
                          cases e199
                          obtain ⟨ce199, hce199, hMe199, hcc199⟩ := Kd.S_get HO_7.out [] x14_6 p199 (by first | exact q199 | exact of_decide_eq_true (by first | (with_reducible assumption) | assumption) | (have e_ := (Kd.S_reads' HO_7.out).1; omega))
                          obtain ⟨ve199_0, rfl, ge199_0⟩ := hMe199
                          have hv199_0 := hcc199 0 _ rfl
                          rw [Nat.add_zero, show ((Kd.slice 29 k29)).sz = 1 from rfl, Nat.mul_one] at hv199_0
                          replace hv199_0 := Option.some.inj (hv199_0.symm.trans hx199_0)
                          rw [hv199_0] at ge199_0
                          have HL199_0 := Aside0.mk (show Kd.R k29 29 _ _ _ _ (rd_L2 t165 x14_6) from ge199_0)
                          clear hv199_0 ge199_0
                          clear hcc199 hce199
                          have HR199_0 := Aside0.mk hi199_0
                          have HC199_0 := Aside0.mk hl199_0
                          clear hi199_0 hl199_0
                          replace p199 := eq_true p199
                          replace q199 := eq_true q199
                          have p200 : 0 ≤ (x12_5 : Int) := of_decide_eq_true (by first | (with_reducible assumption) | assumption)
                          have q200 : x12_5 < (x9_4.length : Int) := of_decide_eq_true (by first | (with_reducible assumption) | assumption)
                          obtain ⟨ad200, e200, hx200_0⟩ := Kd.at_int (Kd.R_reads' HO_9.out).2.2 x12_5 p200 q200
                          cases e200
                          replace p200 := eq_true p200
                          replace q200 := eq_true q200
                          refine start_ (n := 9) (S := fun w' => w'.cell? (ad199.add (x14_6).toNat) = some (.slice A199_0 (rd_L2 t165 x14_6).length c199_0) ∧ w'.cell? (ad200.add (x12_5).toNat) = some (.int .i64 (rd x9_4 x12_5))) (ds := []) #[false, false, false, false, false, false, false, false, false] (by kernel_rfl) rfl rfl ⟨hx199_0, hx200_0⟩ (fun hHeld => ?_); refine with_tabW thistlelaw02_SetsParts.tab31 thistlelaw02_SetsParts.bits31 (fun HT_ HW_ => ?_)
                          generalize wr.drew = w68 at HO_3 HO_7 HO_9 HB HL199_0 HR199_0 hx199_0 hx200_0 hHeld ⊢
                          refine pure_ (i := 0) (N := some 125) (v := ?_) (a' := ?_) #[true, false, false, false, false, false, false, false, false] rfl rfl (any_of HT_.out (by kernel_rfl)) (fun _ _ _ h => h) (Or.inl ⟨by rfl, ?_⟩) ?_ ?_
                          rotate_left
                          ·
                           intro w'
                           go_simp
                           with_reducible rfl
                          rotate_left
                          ·
                           simp only [Act.put, List.setIfInBounds_toArray, List.set_cons_zero, List.set_cons_succ, i64_w, i32_w]
                           rfl
                          refine pure_ (i := 1) (N := some 126) (v := ?_) (a' := ?_) #[true, true, false, false, false, false, false, false, false] rfl rfl (any_of HT_.out (by kernel_rfl)) (fun _ _ _ h => h) (Or.inl ⟨by rfl, ?_⟩) ?_ ?_
                          rotate_left
                          ·
                           intro w'
                           go_simp
                           with_reducible rfl
                          rotate_left
                          ·
                           simp only [Act.put, List.setIfInBounds_toArray, List.set_cons_zero, List.set_cons_succ, i64_w, i32_w]
                           rfl
                          refine pure_ (i := 2) (N := some 127) (v := ?_) (a' := ?_) #[true, true, true, false, false, false, false, false, false] rfl rfl (any_of HT_.out (by kernel_rfl)) (fun _ _ _ h => h) (Or.inl ⟨by rfl, ?_⟩) ?_ ?_
                          rotate_left
                          ·
                           intro w'
                           go_simp
                           with_reducible rfl
                          rotate_left
                          ·
                           simp only [Act.put, List.setIfInBounds_toArray, List.set_cons_zero, List.set_cons_succ, i64_w, i32_w]
                           rfl
                          refine pure_ (i := 4) (N := some 129) (v := ?_) (a' := ?_) #[true, true, true, false, true, false, false, false, false] rfl rfl (any_of HT_.out (by kernel_rfl)) (fun _ _ _ h => h) (Or.inl ⟨by rfl, ?_⟩) ?_ ?_
                          rotate_left
                          ·
                           intro w'
                           go_simp
                           with_reducible rfl
                          rotate_left
                          ·
                           simp only [Act.put, List.setIfInBounds_toArray, List.set_cons_zero, List.set_cons_succ, i64_w, i32_w]
                           rfl
                          refine pure_ (i := 5) (N := some 130) (v := ?_) (a' := ?_) #[true, true, true, false, true, true, false, false, false] rfl rfl (any_of HT_.out (by kernel_rfl)) (fun _ _ _ h => h) (Or.inl ⟨by rfl, ?_⟩) ?_ ?_
                          rotate_left
                          ·
                           intro w'
                           go_simp
                           with_reducible rfl
                          rotate_left
                          ·
                           simp only [Act.put, List.setIfInBounds_toArray, List.set_cons_zero, List.set_cons_succ, i64_w, i32_w]
                           rfl
                          refine pure_ (i := 6) (N := some 131) (v := ?_) (a' := ?_) #[true, true, true, false, true, true, true, false, false] rfl rfl (any_of HT_.out (by kernel_rfl)) (fun _ _ _ h => h) (Or.inl ⟨by rfl, ?_⟩) ?_ ?_
                          rotate_left
                          ·
                           intro w'
                           go_simp
                           with_reducible rfl
                          rotate_left
                          ·
                           simp only [Act.put, List.setIfInBounds_toArray, List.set_cons_zero, List.set_cons_succ, i64_w, i32_w]
                           rfl
                          refine take_ (i := 3) (N := some 128) (v := ?_) (a' := ?_) #[true, true, true, true, true, true, true, false, false] rfl rfl (take_ofW HT_.out HW_.out (by kernel_rfl)) (fun _ _ _ h => h) (Or.inl ⟨by rfl, ?_⟩) hHeld ?_ ?_
                          rotate_left
                          ·
                           rintro w' ⟨s0, s1⟩
                           go_simp
                           with_reducible rfl
                          rotate_left
                          ·
                           simp only [Act.put, List.setIfInBounds_toArray, List.set_cons_zero, List.set_cons_succ, i64_w, i32_w]
                           rfl
                          refine take_ (i := 7) (N := some 132) (v := ?_) (a' := ?_) #[true, true, true, true, true, true, true, true, false] rfl rfl (take_ofW HT_.out HW_.out (by kernel_rfl)) (fun _ _ _ h => h) (Or.inl ⟨by rfl, ?_⟩) hHeld ?_ ?_
                          rotate_left
                          ·
                           rintro w' ⟨s0, s1⟩
                           go_simp
                           with_reducible rfl
                          rotate_left
                          ·
                           simp only [Act.put, List.setIfInBounds_toArray, List.set_cons_zero, List.set_cons_succ, i64_w, i32_w]
                           rfl
                          refine one_ (i := 8) (N := some 133) #[true, true, true, true, true, true, true, true, true] rfl rfl (one_of HT_.out (by kernel_rfl)) (by decide) (fun K hK => ?_)
                          refine goes_ Tryd.func16 (by kernel_rfl) rfl #[.slice A199_0 (rd_L2 t165 x14_6).length c199_0, .int .i64 (rd x9_4 x12_5)] (by rfl) rfl rfl (by (try simp only [List.map_toArray, List.map_cons, List.map_nil]); first | done | rfl | (simp only [List.length_drop, List.length_take]; rfl)) ?_
                          with_reducible refine (thistlelaw02_within.calls k6 _ _ (rd_L2 t165 x14_6) (rd x9_4 x12_5) true _ ?side1 ?side2 A61.out).mono ?_
                          (case side1 => repeat (first | exact (by repeat (first | (with_reducible exact HR199_0.out) | (with_reducible refine Kd.C_alloc ?_ _) | (with_reducible refine Kd.C_drewN ?_ _) | (with_reducible refine Kd.C_drew ?_) | exact HR199_0.out)) | (with_reducible refine Kd.C_alloc ?_ _) | (with_reducible refine Kd.C_drewN ?_ _) | (with_reducible refine Kd.C_drew ?_)))
                          (case side2 => exact HC199_0.out)
                          rintro e w' ⟨rfl, ⟨nd, rfl⟩⟩
                          refine ⟨_, rfl, ?_⟩
                          refine hK.out _ _ ⟨hHeld.1, hHeld.2⟩ (fun hHeld => ?_)
                          clear hK K
                          refine norm_ (a' := ?_) ?_ ?_
                          rotate_left
                          ·
                           show Act.put _ (some 133) _ = _
                           simp only [Act.put, List.setIfInBounds_toArray, List.set_cons_zero, List.set_cons_succ, i64_w, i32_w]
                           rfl
                          refine done_ (done_of HT_.out (by kernel_rfl)) ?_
                          try go_wp2
                          (try (rw [drewN_self w68]; generalize hq_ : World.drewN w68 _ = w68; have n0_ : Aside0 (Kd.R k29 29 w68 w.heap.size (fun k_ => some k_ ≠ (.slice Ao16 x3_1.length co16 : Value).ownBlock ∧ some k_ ≠ (.slice (some ad199) t165.length co47 : Value).ownBlock) (.slice A199_0 (rd_L2 t165 x14_6).length c199_0) (rd_L2 t165 x14_6)) := ⟨by rw [← hq_]; exact (by (with_reducible repeat (first | apply Kd.R_alloc | apply Kd.R_drewN | apply Kd.R_drew)); exact HL199_0.out)⟩; have n1_ : Aside0 (Kd.S (Kd.slice 29 k29) 22 w68 w.heap.size (fun k_ => some k_ ≠ (.slice (some ad199) t165.length co47 : Value).ownBlock) (.slice Ao16 x3_1.length co16) x3_1) := ⟨by rw [← hq_]; exact (by (with_reducible repeat (first | apply Kd.S_alloc | apply Kd.S_drewN | apply Kd.S_drew)); exact HO_3.out)⟩; have n2_ : Aside0 (Kd.S (Kd.slice 29 k29) 22 w68 w.heap.size (fun k_ => some k_ ≠ (.slice Ao16 x3_1.length co16 : Value).ownBlock) (.slice (some ad199) t165.length co47) t165) := ⟨by rw [← hq_]; exact (by (with_reducible repeat (first | apply Kd.S_alloc | apply Kd.S_drewN | apply Kd.S_drew)); exact HO_7.out)⟩; have n3_ : Aside0 (Kd.R (Kd.int .i64) 3 w68 w.heap.size (fun _ => True) (.slice (some ad200) x9_4.length co56) x9_4) := ⟨by rw [← hq_]; exact (by (with_reducible repeat (first | apply Kd.R_alloc | apply Kd.R_drewN | apply Kd.R_drew)); exact HO_9.out)⟩; have n4_ : Aside0 (Below w.heap.size w w68) := ⟨by rw [← hq_]; exact (by repeat (first | (with_reducible first | exact HB.out | apply below_alloc | apply pw_below_drewN | apply below_drew1) | exact HB.out))⟩; have n5_ : Aside0 (Kd.C k29 w68 A199_0 (rd_L2 t165 x14_6).length (rd_L2 t165 x14_6)) := ⟨by rw [← hq_]; exact (by repeat (first | (with_reducible exact HR199_0.out) | (with_reducible refine Kd.C_alloc ?_ _) | (with_reducible refine Kd.C_drewN ?_ _) | (with_reducible refine Kd.C_drew ?_) | exact HR199_0.out))⟩; clear HL199_0 HO_3 HO_7 HO_9 HB HR199_0 hq_; have HL199_0 := n0_; have HO_3 := n1_; have HO_7 := n2_; have HO_9 := n3_; have HB := n4_; have HR199_0 := n5_; clear n0_ n1_ n2_ n3_ n4_ n5_))
                          have n0_ := Aside0.mk (Kd.S_drew HO_3.out)
                          have n1_ := Aside0.mk (Kd.S_drew HO_7.out)
                          have n2_ := Aside0.mk (Kd.R_drew HO_9.out)
                          have n3_ := Aside0.mk (Kd.R_drew HL199_0.out)
                          have n4_ := Aside0.mk (Kd.C_drew HR199_0.out)
                          have n5_ := Aside0.mk (below_drew1 HB.out)
                          clear HO_3
                          clear HO_7
                          clear HO_9
                          clear HL199_0
                          clear HR199_0
                          clear HB
                          have HO_3 := n0_
                          have HO_7 := n1_
                          have HO_9 := n2_
                          have HL199_0 := n3_
                          have HR199_0 := n4_
                          have HB := n5_
                          clear n0_ n1_ n2_ n3_ n4_ n5_
                          have p202 : 0 ≤ (x12_5 : Int) := of_decide_eq_true (by first | (with_reducible assumption) | assumption)
                          have q202 : x12_5 < (x9_4.length : Int) := of_decide_eq_true (by first | (with_reducible assumption) | assumption)
                          obtain ⟨ad202, e202, hx202_0⟩ := Kd.at_int (Kd.R_reads' HO_9.out).2.2 x12_5 p202 q202
                          obtain rfl : ad200 = ad202 := (by injection e202)
                          replace p202 := eq_true p202
                          replace q202 := eq_true q202
                          have p206 : 0 ≤ (x14_6 : Int) := of_decide_eq_true (by first | (with_reducible assumption) | assumption)
                          have q206 : x14_6 < (t165.length : Int) := of_decide_eq_true (by first | (with_reducible assumption) | assumption)
                          obtain ⟨ad206, A206_0, c206_0, e206, hx206_0, hl206_0, hi206_0⟩ := at_L2 (Kd.S_reads' HO_7.out).2.2 x14_6 p206 q206
                          obtain rfl : ad199 = ad206 := (by injection e206)
                          obtain ⟨ce206, hce206, hMe206, hcc206⟩ := Kd.S_get HO_7.out [] x14_6 p206 (by first | exact q206 | exact of_decide_eq_true (by first | (with_reducible assumption) | assumption) | (have e_ := (Kd.S_reads' HO_7.out).1; omega))
                          obtain ⟨ve206_0, rfl, ge206_0⟩ := hMe206
                          have hv206_0 := hcc206 0 _ rfl
                          rw [Nat.add_zero, show ((Kd.slice 29 k29)).sz = 1 from rfl, Nat.mul_one] at hv206_0
                          replace hv206_0 := Option.some.inj (hv206_0.symm.trans hx206_0)
                          rw [hv206_0] at ge206_0
                          have HL206_0 := Aside0.mk (show Kd.R k29 29 _ _ _ _ (rd_L2 t165 x14_6) from ge206_0)
                          clear hv206_0 ge206_0
                          clear hcc206 hce206
                          have HR206_0 := Aside0.mk hi206_0
                          have HC206_0 := Aside0.mk hl206_0
                          clear hi206_0 hl206_0
                          replace p206 := eq_true p206
                          replace q206 := eq_true q206
                          have p207 : 0 ≤ (0 : Int) := (by omega)
                          have q207 : 0 < ((rd_L2 t165 x14_6).length : Int) := of_decide_eq_true (by first | (with_reducible assumption) | assumption)
                          obtain ⟨ad207, e207, hx207_0, hx207_1⟩ := at_T29 (by repeat (first | (with_reducible exact HR206_0.out) | (with_reducible refine Kd.C_alloc ?_ _) | (with_reducible refine Kd.C_drewN ?_ _) | (with_reducible refine Kd.C_drew ?_) | exact HR206_0.out)) 0 p207 q207
                          cases e207
                          have qi207 : (0 < (rd_L2 t165 x14_6).length) = True := eq_true (by omega)
                          (try rw [show ((0 : Int)).toNat = 0 from rfl] at hx207_0)
                          (try rw [show 0 * 2 = 0 from rfl] at hx207_0)
                          (try rw [Addr.add_zero'] at hx207_0)
                          (try rw [show ((0 : Int)).toNat = 0 from rfl] at hx207_1)
                          (try rw [show 0 * 2 = 0 from rfl] at hx207_1)
                          (try rw [Addr.add_zero'] at hx207_1)
                          replace p207 := eq_true p207
                          replace q207 := eq_true q207
                          refine start_ (n := 18) (S := fun w' => w'.cell? (ad200.add (x12_5).toNat) = some (.int .i64 (rd x9_4 x12_5)) ∧ w'.cell? (ad199.add (x14_6).toNat) = some (.slice (some ad207) (rd_L2 t165 x14_6).length c206_0) ∧ w'.cell? ad207 = some (.int .i32 ((rd_T29 (rd_L2 t165 x14_6) 0).f0)) ∧ w'.cell? ⟨ad207.block, ad207.off + 1, none⟩ = some (.int .i32 ((rd_T29 (rd_L2 t165 x14_6) 0).f1))) (ds := []) #[false, false, false, false, false, false, false, false, false, false, false, false, false, false, false, false, false, false] (by kernel_rfl) rfl rfl ⟨hx202_0, hx206_0, hx207_0, hx207_1⟩ (fun hHeld => ?_); refine with_tabW thistlelaw02_SetsParts.tab33 thistlelaw02_SetsParts.bits33 (fun HT_ HW_ => ?_)
                          generalize w68.drew = w69 at HO_3 HO_7 HO_9 HL199_0 HR199_0 HB HL206_0 HR206_0 hx202_0 hx206_0 hx207_0 hx207_1 hHeld ⊢
                          refine pure_ (i := 0) (N := some 136) (v := ?_) (a' := ?_) #[true, false, false, false, false, false, false, false, false, false, false, false, false, false, false, false, false, false] rfl rfl (any_of HT_.out (by kernel_rfl)) (fun _ _ _ h => h) (Or.inl ⟨by rfl, ?_⟩) ?_ ?_
                          rotate_left
                          ·
                           intro w'
                           go_simp
                           with_reducible rfl
                          rotate_left
                          ·
                           simp only [Act.put, List.setIfInBounds_toArray, List.set_cons_zero, List.set_cons_succ, i64_w, i32_w]
                           rfl
                          refine pure_ (i := 1) (N := some 137) (v := ?_) (a' := ?_) #[true, true, false, false, false, false, false, false, false, false, false, false, false, false, false, false, false, false] rfl rfl (any_of HT_.out (by kernel_rfl)) (fun _ _ _ h => h) (Or.inl ⟨by rfl, ?_⟩) ?_ ?_
                          rotate_left
                          ·
                           intro w'
                           go_simp
                           with_reducible rfl
                          rotate_left
                          ·
                           simp only [Act.put, List.setIfInBounds_toArray, List.set_cons_zero, List.set_cons_succ, i64_w, i32_w]
                           rfl
                          refine pure_ (i := 2) (N := some 138) (v := ?_) (a' := ?_) #[true, true, true, false, false, false, false, false, false, false, false, false, false, false, false, false, false, false] rfl rfl (any_of HT_.out (by kernel_rfl)) (fun _ _ _ h => h) (Or.inl ⟨by rfl, ?_⟩) ?_ ?_
                          rotate_left
                          ·
                           intro w'
                           go_simp
                           with_reducible rfl
                          rotate_left
                          ·
                           simp only [Act.put, List.setIfInBounds_toArray, List.set_cons_zero, List.set_cons_succ, i64_w, i32_w]
                           rfl
                          refine pure_ (i := 3) (N := some 139) (v := ?_) (a' := ?_) #[true, true, true, true, false, false, false, false, false, false, false, false, false, false, false, false, false, false] rfl rfl (any_of HT_.out (by kernel_rfl)) (fun _ _ _ h => h) (Or.inl ⟨by rfl, ?_⟩) ?_ ?_
                          rotate_left
                          ·
                           intro w'
                           go_simp
                           with_reducible rfl
                          rotate_left
                          ·
                           simp only [Act.put, List.setIfInBounds_toArray, List.set_cons_zero, List.set_cons_succ, i64_w, i32_w]
                           rfl
                          refine pure_ (i := 6) (N := some 142) (v := ?_) (a' := ?_) #[true, true, true, true, false, false, true, false, false, false, false, false, false, false, false, false, false, false] rfl rfl (any_of HT_.out (by kernel_rfl)) (fun _ _ _ h => h) (Or.inl ⟨by rfl, ?_⟩) ?_ ?_
                          rotate_left
                          ·
                           intro w'
                           go_simp
                           with_reducible rfl
                          rotate_left
                          ·
                           simp only [Act.put, List.setIfInBounds_toArray, List.set_cons_zero, List.set_cons_succ, i64_w, i32_w]
                           rfl
                          refine pure_ (i := 7) (N := some 143) (v := ?_) (a' := ?_) #[true, true, true, true, false, false, true, true, false, false, false, false, false, false, false, false, false, false] rfl rfl (any_of HT_.out (by kernel_rfl)) (fun _ _ _ h => h) (Or.inl ⟨by rfl, ?_⟩) ?_ ?_
                          rotate_left
                          ·
                           intro w'
                           go_simp
                           with_reducible rfl
                          rotate_left
                          ·
                           simp only [Act.put, List.setIfInBounds_toArray, List.set_cons_zero, List.set_cons_succ, i64_w, i32_w]
                           rfl
                          refine pure_ (i := 8) (N := some 144) (v := ?_) (a' := ?_) #[true, true, true, true, false, false, true, true, true, false, false, false, false, false, false, false, false, false] rfl rfl (any_of HT_.out (by kernel_rfl)) (fun _ _ _ h => h) (Or.inl ⟨by rfl, ?_⟩) ?_ ?_
                          rotate_left
                          ·
                           intro w'
                           go_simp
                           with_reducible rfl
                          rotate_left
                          ·
                           simp only [Act.put, List.setIfInBounds_toArray, List.set_cons_zero, List.set_cons_succ, i64_w, i32_w]
                           rfl
                          refine pure_ (i := 9) (N := some 145) (v := ?_) (a' := ?_) #[true, true, true, true, false, false, true, true, true, true, false, false, false, false, false, false, false, false] rfl rfl (any_of HT_.out (by kernel_rfl)) (fun _ _ _ h => h) (Or.inl ⟨by rfl, ?_⟩) ?_ ?_
                          rotate_left
                          ·
                           intro w'
                           go_simp
                           with_reducible rfl
                          rotate_left
                          ·
                           simp only [Act.put, List.setIfInBounds_toArray, List.set_cons_zero, List.set_cons_succ, i64_w, i32_w]
                           rfl
                          refine take_ (i := 4) (N := some 140) (v := ?_) (a' := ?_) #[true, true, true, true, true, false, true, true, true, true, false, false, false, false, false, false, false, false] rfl rfl (take_ofW HT_.out HW_.out (by kernel_rfl)) (fun _ _ _ h => h) (Or.inl ⟨by rfl, ?_⟩) hHeld ?_ ?_
                          rotate_left
                          ·
                           rintro w' ⟨s0, s1, s2, s3⟩
                           go_simp
                           with_reducible rfl
                          rotate_left
                          ·
                           simp only [Act.put, List.setIfInBounds_toArray, List.set_cons_zero, List.set_cons_succ, i64_w, i32_w]
                           rfl
                          refine take_ (i := 10) (N := some 146) (v := ?_) (a' := ?_) #[true, true, true, true, true, false, true, true, true, true, true, false, false, false, false, false, false, false] rfl rfl (take_ofW HT_.out HW_.out (by kernel_rfl)) (fun _ _ _ h => h) (Or.inl ⟨by rfl, ?_⟩) hHeld ?_ ?_
                          rotate_left
                          ·
                           rintro w' ⟨s0, s1, s2, s3⟩
                           go_simp
                           with_reducible rfl
                          rotate_left
                          ·
                           simp only [Act.put, List.setIfInBounds_toArray, List.set_cons_zero, List.set_cons_succ, i64_w, i32_w]
                           rfl
                          refine pure_ (i := 11) (N := some 147) (v := ?_) (a' := ?_) #[true, true, true, true, true, false, true, true, true, true, true, true, false, false, false, false, false, false] rfl rfl (any_of HT_.out (by kernel_rfl)) (fun _ _ _ h => h) (Or.inl ⟨by rfl, ?_⟩) ?_ ?_
                          rotate_left
                          ·
                           intro w'
                           go_simp
                           with_reducible rfl
                          rotate_left
                          ·
                           simp only [Act.put, List.setIfInBounds_toArray, List.set_cons_zero, List.set_cons_succ, i64_w, i32_w]
                           rfl
                          refine pure_ (i := 12) (N := some 148) (v := ?_) (a' := ?_) #[true, true, true, true, true, false, true, true, true, true, true, true, true, false, false, false, false, false] rfl rfl (any_of HT_.out (by kernel_rfl)) (fun _ _ _ h => h) (Or.inl ⟨by rfl, ?_⟩) ?_ ?_
                          rotate_left
                          ·
                           intro w'
                           go_simp
                           with_reducible rfl
                          rotate_left
                          ·
                           simp only [Act.put, List.setIfInBounds_toArray, List.set_cons_zero, List.set_cons_succ, i64_w, i32_w]
                           rfl
                          refine take_ (i := 13) (N := some 149) (v := ?_) (a' := ?_) #[true, true, true, true, true, false, true, true, true, true, true, true, true, true, false, false, false, false] rfl rfl (take_ofW HT_.out HW_.out (by kernel_rfl)) (fun _ _ _ h => h) (Or.inl ⟨by rfl, ?_⟩) hHeld ?_ ?_
                          rotate_left
                          ·
                           rintro w' ⟨s0, s1, s2, s3⟩
                           go_simp
                           with_reducible rfl
                          rotate_left
                          ·
                           simp only [Act.put, List.setIfInBounds_toArray, List.set_cons_zero, List.set_cons_succ, i64_w, i32_w]
                           rfl
                          refine pure_ (i := 14) (N := some 150) (v := ?_) (a' := ?_) #[true, true, true, true, true, false, true, true, true, true, true, true, true, true, true, false, false, false] rfl rfl (any_of HT_.out (by kernel_rfl)) (fun _ _ _ h => h) (Or.inl ⟨by rfl, ?_⟩) ?_ ?_
                          rotate_left
                          ·
                           intro w'
                           go_simp
                           with_reducible rfl
                          rotate_left
                          ·
                           simp only [Act.put, List.setIfInBounds_toArray, List.set_cons_zero, List.set_cons_succ, i64_w, i32_w]
                           rfl
                          refine one_ (i := 5) (N := some 141) #[true, true, true, true, true, true, true, true, true, true, true, true, true, true, true, false, false, false] rfl rfl (one_of HT_.out (by kernel_rfl)) (by decide) (fun K hK => ?_)
                          refine goes_ Tryd.func30 (by kernel_rfl) rfl #[.slice Ao16 x3_1.length co16, .int .i64 (rd x9_4 x12_5)] (by rfl) rfl rfl (by (try simp only [List.map_toArray, List.map_cons, List.map_nil]); first | done | rfl | (simp only [List.length_drop, List.length_take]; rfl)) ?_
                          with_reducible refine (thistlelaw02_told.calls k6 _ _ x3_1 (rd x9_4 x12_5) t203 _ ?side1 ?side2 A63.out).mono ?_
                          (case side1 => repeat (first | exact (Kd.S_reads' HO_3.out).2.2 | (with_reducible refine Kd.C_alloc ?_ _) | (with_reducible refine Kd.C_drewN ?_ _) | (with_reducible refine Kd.C_drew ?_)))
                          (case side2 => exact (Kd.S_reads' HO_3.out).2.1)
                          rintro e w70 ⟨v204, rfl, ho0, hb⟩
                          have HS0_ := (hb.cell (World.block_lt_of_cell? _ _ (hHeld.1))).trans (hHeld.1)
                          have HS1_ := (hb.cell (World.block_lt_of_cell? _ _ (hHeld.2.1))).trans (hHeld.2.1)
                          have HS2_ := (hb.cell (World.block_lt_of_cell? _ _ (hHeld.2.2.1))).trans (hHeld.2.2.1)
                          have HS3_ := (hb.cell (World.block_lt_of_cell? _ _ (hHeld.2.2.2))).trans (hHeld.2.2.2)
                          refine ⟨_, rfl, ?_⟩
                          have n0_ := Aside0.mk (Kd.S_below (by (with_reducible repeat (first | apply Kd.S_alloc | apply Kd.S_drewN | apply Kd.S_drew)); exact HO_3.out) hb)
                          have n1_ := Aside0.mk (Kd.S_below (by (with_reducible repeat (first | apply Kd.S_alloc | apply Kd.S_drewN | apply Kd.S_drew)); exact HO_7.out) hb)
                          have n2_ := Aside0.mk (Kd.R_below (by (with_reducible repeat (first | apply Kd.R_alloc | apply Kd.R_drewN | apply Kd.R_drew)); exact HO_9.out) hb)
                          have n3_ := Aside0.mk (Kd.R_below (by (with_reducible repeat (first | apply Kd.R_alloc | apply Kd.R_drewN | apply Kd.R_drew)); exact HL199_0.out) hb)
                          have n4_ := Aside0.mk (Kd.R_below (by (with_reducible repeat (first | apply Kd.R_alloc | apply Kd.R_drewN | apply Kd.R_drew)); exact HL206_0.out) hb)
                          have n5_ := Aside0.mk (Kd.R_lower ho0 (below_size (by repeat (first | (with_reducible first | exact HB.out | apply below_alloc | apply pw_below_drewN | apply below_drew1) | exact HB.out))))
                          have n6_ := Aside0.mk (Kd.C_below (by repeat (first | (with_reducible exact HR199_0.out) | (with_reducible refine Kd.C_alloc ?_ _) | (with_reducible refine Kd.C_drewN ?_ _) | (with_reducible refine Kd.C_drew ?_) | exact HR199_0.out)) hb)
                          have n7_ := Aside0.mk (Kd.C_below (by repeat (first | (with_reducible exact HR206_0.out) | (with_reducible refine Kd.C_alloc ?_ _) | (with_reducible refine Kd.C_drewN ?_ _) | (with_reducible refine Kd.C_drew ?_) | exact HR206_0.out)) hb)
                          have n8_ := Aside0.mk (below_step (by repeat (first | (with_reducible first | exact HB.out | apply below_alloc | apply pw_below_drewN | apply below_drew1) | exact HB.out)) hb)
                          clear HO_3
                          clear HO_7
                          clear HO_9
                          clear HL199_0
                          clear HL206_0
                          clear HR199_0
                          clear HR206_0
                          clear HB
                          have HO_3 := n0_
                          have HO_7 := n1_
                          have HO_9 := n2_
                          have HL199_0 := n3_
                          have HL206_0 := n4_
                          have HO205 := n5_
                          have HR199_0 := n6_
                          have HR206_0 := n7_
                          have HB := n8_
                          clear n0_ n1_ n2_ n3_ n4_ n5_ n6_ n7_ n8_
                          (try clear hb)
                          (try clear hb2)
                          (try clear hk)
                          (try clear hi)
                          (try clear ho0)
                          refine hK.out _ _ ⟨HS0_, HS1_, HS2_, HS3_⟩ (fun hHeld => ?_)
                          clear hK K
                          refine norm_ (a' := ?_) ?_ ?_
                          rotate_left
                          ·
                           show Act.put _ (some 141) _ = _
                           simp only [Act.put, List.setIfInBounds_toArray, List.set_cons_zero, List.set_cons_succ, i64_w, i32_w]
                           rfl
                          refine one_ (i := 15) (N := some 151) #[true, true, true, true, true, true, true, true, true, true, true, true, true, true, true, true, false, false] rfl rfl (one_of HT_.out (by kernel_rfl)) (by decide) (fun K hK => ?_)
                          refine goes_ Tryd.func30 (by kernel_rfl) rfl #[.slice Ao16 x3_1.length co16, .int .i64 (wrap64 ((rd_T29 (rd_L2 t165 x14_6) 0).f0))] (by rfl) rfl rfl (by (try simp only [List.map_toArray, List.map_cons, List.map_nil]); first | done | rfl | (simp only [List.length_drop, List.length_take]; rfl)) ?_
                          with_reducible refine (thistlelaw02_told.calls k6 _ _ x3_1 (wrap64 ((rd_T29 (rd_L2 t165 x14_6) 0).f0)) t208 _ ?side1 ?side2 A65.out).mono ?_
                          (case side1 => repeat (first | exact (Kd.S_reads' HO_3.out).2.2 | (with_reducible refine Kd.C_alloc ?_ _) | (with_reducible refine Kd.C_drewN ?_ _) | (with_reducible refine Kd.C_drew ?_)))
                          (case side2 => exact (Kd.S_reads' HO_3.out).2.1)
                          rintro e w71 ⟨v209, rfl, ho0, hb⟩
                          have HS0_ := (hb.cell (World.block_lt_of_cell? _ _ (hHeld.1))).trans (hHeld.1)
                          have HS1_ := (hb.cell (World.block_lt_of_cell? _ _ (hHeld.2.1))).trans (hHeld.2.1)
                          have HS2_ := (hb.cell (World.block_lt_of_cell? _ _ (hHeld.2.2.1))).trans (hHeld.2.2.1)
                          have HS3_ := (hb.cell (World.block_lt_of_cell? _ _ (hHeld.2.2.2))).trans (hHeld.2.2.2)
                          refine ⟨_, rfl, ?_⟩
                          have n0_ := Aside0.mk (Kd.S_below (by (with_reducible repeat (first | apply Kd.S_alloc | apply Kd.S_drewN | apply Kd.S_drew)); exact HO_3.out) hb)
                          have n1_ := Aside0.mk (Kd.S_below (by (with_reducible repeat (first | apply Kd.S_alloc | apply Kd.S_drewN | apply Kd.S_drew)); exact HO_7.out) hb)
                          have n2_ := Aside0.mk (Kd.R_below (by (with_reducible repeat (first | apply Kd.R_alloc | apply Kd.R_drewN | apply Kd.R_drew)); exact HO_9.out) hb)
                          have n3_ := Aside0.mk (Kd.R_below (by (with_reducible repeat (first | apply Kd.R_alloc | apply Kd.R_drewN | apply Kd.R_drew)); exact HL199_0.out) hb)
                          have n4_ := Aside0.mk (Kd.R_below (by (with_reducible repeat (first | apply Kd.R_alloc | apply Kd.R_drewN | apply Kd.R_drew)); exact HL206_0.out) hb)
                          have n5_ := Aside0.mk (Kd.R_elder' (by (with_reducible repeat (first | apply Kd.R_alloc | apply Kd.R_drewN | apply Kd.R_drew)); exact HO205.out) (Kd.R_base ho0) hb)
                          have n6_ := Aside0.mk (Kd.R_lower (Kd.R_new' ho0 (Kd.R_lt (by (with_reducible repeat (first | apply Kd.R_alloc | apply Kd.R_drewN | apply Kd.R_drew)); exact HO205.out))) (below_size (by repeat (first | (with_reducible first | exact HB.out | apply below_alloc | apply pw_below_drewN | apply below_drew1) | exact HB.out))))
                          have n7_ := Aside0.mk (Kd.C_below (by repeat (first | (with_reducible exact HR199_0.out) | (with_reducible refine Kd.C_alloc ?_ _) | (with_reducible refine Kd.C_drewN ?_ _) | (with_reducible refine Kd.C_drew ?_) | exact HR199_0.out)) hb)
                          have n8_ := Aside0.mk (Kd.C_below (by repeat (first | (with_reducible exact HR206_0.out) | (with_reducible refine Kd.C_alloc ?_ _) | (with_reducible refine Kd.C_drewN ?_ _) | (with_reducible refine Kd.C_drew ?_) | exact HR206_0.out)) hb)
                          have n9_ := Aside0.mk (below_step (by repeat (first | (with_reducible first | exact HB.out | apply below_alloc | apply pw_below_drewN | apply below_drew1) | exact HB.out)) hb)
                          clear HO_3
                          clear HO_7
                          clear HO_9
                          clear HL199_0
                          clear HL206_0
                          clear HO205
                          clear HR199_0
                          clear HR206_0
                          clear HB
                          have HO_3 := n0_
                          have HO_7 := n1_
                          have HO_9 := n2_
                          have HL199_0 := n3_
                          have HL206_0 := n4_
                          have HO205 := n5_
                          have HO210 := n6_
                          have HR199_0 := n7_
                          have HR206_0 := n8_
                          have HB := n9_
                          clear n0_ n1_ n2_ n3_ n4_ n5_ n6_ n7_ n8_ n9_
                          (try clear hb)
                          (try clear hb2)
                          (try clear hk)
                          (try clear hi)
                          (try clear ho0)
                          obtain ⟨Ao72, co72, eo72⟩ := Kd.R_slice HO205.out
                          (first | subst eo72 | (injection eo72 with f1_ f2_ f3_; have f4_ := f1_.symm; have f5_ := f3_.symm; clear f1_ f2_ f3_; subst f4_; subst f5_))
                          obtain ⟨Ao73, co73, eo73⟩ := Kd.R_slice HO210.out
                          (first | subst eo73 | (injection eo73 with f1_ f2_ f3_; have f4_ := f1_.symm; have f5_ := f3_.symm; clear f1_ f2_ f3_; subst f4_; subst f5_))
                          refine hK.out _ _ ⟨HS0_, HS1_, HS2_, HS3_⟩ (fun hHeld => ?_)
                          clear hK K
                          refine norm_ (a' := ?_) ?_ ?_
                          rotate_left
                          ·
                           show Act.put _ (some 151) _ = _
                           simp only [Act.put, List.setIfInBounds_toArray, List.set_cons_zero, List.set_cons_succ, i64_w, i32_w]
                           rfl
                          refine one_ (i := 16) (N := some 152) #[true, true, true, true, true, true, true, true, true, true, true, true, true, true, true, true, true, false] rfl rfl (one_of HT_.out (by kernel_rfl)) (by decide) (fun K hK => ?_)
                          refine goes_ Tryd.func29 (by kernel_rfl) rfl #[.slice Ao72 t203.length co72, .slice Ao73 t208.length co73] (by rfl) rfl rfl (by (try simp only [List.map_toArray, List.map_cons, List.map_nil]); first | done | rfl | (simp only [List.length_drop, List.length_take]; rfl)) ?_
                          with_reducible refine (thistlelaw02_alike.calls k6 _ _ t203 _ _ t208 true _ ?side1 ?side2 ?side3 ?side4 A66.out).mono ?_
                          (case side1 => repeat (first | exact (Kd.R_reads' HO205.out).2.2 | (with_reducible refine Kd.C_alloc ?_ _) | (with_reducible refine Kd.C_drewN ?_ _) | (with_reducible refine Kd.C_drew ?_)))
                          (case side2 => exact (Kd.R_reads' HO205.out).2.1)
                          (case side3 => repeat (first | exact (Kd.R_reads' HO210.out).2.2 | (with_reducible refine Kd.C_alloc ?_ _) | (with_reducible refine Kd.C_drewN ?_ _) | (with_reducible refine Kd.C_drew ?_)))
                          (case side4 => exact (Kd.R_reads' HO210.out).2.1)
                          rintro e w' ⟨rfl, ⟨nd, rfl⟩⟩
                          refine ⟨_, rfl, ?_⟩
                          refine hK.out _ _ ⟨hHeld.1, hHeld.2.1, hHeld.2.2.1, hHeld.2.2.2⟩ (fun hHeld => ?_)
                          clear hK K
                          refine norm_ (a' := ?_) ?_ ?_
                          rotate_left
                          ·
                           show Act.put _ (some 152) _ = _
                           simp only [Act.put, List.setIfInBounds_toArray, List.set_cons_zero, List.set_cons_succ, i64_w, i32_w]
                           rfl
                          refine pure_ (i := 17) (N := some 153) (v := ?_) (a' := ?_) #[true, true, true, true, true, true, true, true, true, true, true, true, true, true, true, true, true, true] rfl rfl (any_of HT_.out (by kernel_rfl)) (fun _ _ _ h => h) (Or.inl ⟨by rfl, ?_⟩) ?_ ?_
                          rotate_left
                          ·
                           intro w'
                           go_simp
                           with_reducible rfl
                          rotate_left
                          ·
                           simp only [Act.put, List.setIfInBounds_toArray, List.set_cons_zero, List.set_cons_succ, i64_w, i32_w]
                           rfl
                          refine done_ (done_of HT_.out (by kernel_rfl)) ?_
                          try go_wp2
                          go_roundg k6
                          case measure => have := HK1.out; have := HJ14.out; have := HK3.out; have := HK4.out; have := HK5.out; have := HK6.out; omega
                          case rel => exact ⟨(wrap64 (x13_6 + 1)), (wrap64 (x14_6 + 1)), (by first | rfl | (simp; done) | (simp [*]; done)), (by first | rfl | (simp; done) | (simp [*]; done)), H', ⟨by have := HK1.out; have := HJ14.out; have := HK3.out; have := HK4.out; have := HK5.out; have := HK6.out; omega⟩, ⟨by (with_reducible repeat (first | apply Kd.S_alloc | apply Kd.S_drewN | apply Kd.S_drew)); exact HO_3.out⟩, ⟨by (with_reducible repeat (first | apply Kd.S_alloc | apply Kd.S_drewN | apply Kd.S_drew)); exact HO_7.out⟩, ⟨by (with_reducible repeat (first | apply Kd.R_alloc | apply Kd.R_drewN | apply Kd.R_drew)); exact HO_9.out⟩, ⟨by repeat (first | (with_reducible first | exact HB.out | apply below_alloc | apply pw_below_drewN | apply below_drew1) | exact HB.out)⟩⟩
                         ·
                          replace c67 := Bool.eq_false_iff.mpr c67
                          subst c67
                          have H1 : (some false) = some r := by rw [if_neg (show ¬ (false = true) by decide)] at H; exact H
                          clear H
                          have H := H1
                          clear H1
                          exact absurd (H.trans (congrArg some hrt.out)) (by simp)
                        ·
                         rw [if_neg c64] at H
                         exact absurd H (by simp)
                       ·
                        replace c62 := Bool.eq_false_iff.mpr c62
                        subst c62
                        have H1 : (thistlelaw02_SetsParts.l4 k6 x3_1 t165 x9_4 x12_5 x13_6 (wrap64 (x14_6 + 1))) = some r := by rw [if_neg (show ¬ (false = true) by decide)] at H; exact H
                        clear H
                        have H := H1
                        clear H1
                        have H' := Aside0.mk H
                        clear H
                        try go_wp2
                        have n0_ := Aside0.mk (Kd.S_drew HO_3.out)
                        have n1_ := Aside0.mk (Kd.S_drew HO_7.out)
                        have n2_ := Aside0.mk (Kd.R_drew HO_9.out)
                        have n3_ := Aside0.mk (below_drew1 HB.out)
                        clear HO_3
                        clear HO_7
                        clear HO_9
                        clear HB
                        have HO_3 := n0_
                        have HO_7 := n1_
                        have HO_9 := n2_
                        have HB := n3_
                        clear n0_ n1_ n2_ n3_
                        have p199 : 0 ≤ (x14_6 : Int) := of_decide_eq_true (by first | (with_reducible assumption) | assumption)
                        have q199 : x14_6 < (t165.length : Int) := of_decide_eq_true (by first | (with_reducible assumption) | assumption)
                        obtain ⟨ad199, A199_0, c199_0, e199, hx199_0, hl199_0, hi199_0⟩ := at_L2 (Kd.S_reads' HO_7.out).2.2 x14_6 p199 q199
                        cases e199
                        obtain ⟨ce199, hce199, hMe199, hcc199⟩ := Kd.S_get HO_7.out [] x14_6 p199 (by first | exact q199 | exact of_decide_eq_true (by first | (with_reducible assumption) | assumption) | (have e_ := (Kd.S_reads' HO_7.out).1; omega))
                        obtain ⟨ve199_0, rfl, ge199_0⟩ := hMe199
                        have hv199_0 := hcc199 0 _ rfl
                        rw [Nat.add_zero, show ((Kd.slice 29 k29)).sz = 1 from rfl, Nat.mul_one] at hv199_0
                        replace hv199_0 := Option.some.inj (hv199_0.symm.trans hx199_0)
                        rw [hv199_0] at ge199_0
                        have HL199_0 := Aside0.mk (show Kd.R k29 29 _ _ _ _ (rd_L2 t165 x14_6) from ge199_0)
                        clear hv199_0 ge199_0
                        clear hcc199 hce199
                        have HR199_0 := Aside0.mk hi199_0
                        have HC199_0 := Aside0.mk hl199_0
                        clear hi199_0 hl199_0
                        replace p199 := eq_true p199
                        replace q199 := eq_true q199
                        have p200 : 0 ≤ (x12_5 : Int) := of_decide_eq_true (by first | (with_reducible assumption) | assumption)
                        have q200 : x12_5 < (x9_4.length : Int) := of_decide_eq_true (by first | (with_reducible assumption) | assumption)
                        obtain ⟨ad200, e200, hx200_0⟩ := Kd.at_int (Kd.R_reads' HO_9.out).2.2 x12_5 p200 q200
                        cases e200
                        replace p200 := eq_true p200
                        replace q200 := eq_true q200
                        refine start_ (n := 9) (S := fun w' => w'.cell? (ad199.add (x14_6).toNat) = some (.slice A199_0 (rd_L2 t165 x14_6).length c199_0) ∧ w'.cell? (ad200.add (x12_5).toNat) = some (.int .i64 (rd x9_4 x12_5))) (ds := []) #[false, false, false, false, false, false, false, false, false] (by kernel_rfl) rfl rfl ⟨hx199_0, hx200_0⟩ (fun hHeld => ?_); refine with_tabW thistlelaw02_SetsParts.tab31 thistlelaw02_SetsParts.bits31 (fun HT_ HW_ => ?_)
                        generalize wr.drew = w74 at HO_3 HO_7 HO_9 HB HL199_0 HR199_0 hx199_0 hx200_0 hHeld ⊢
                        refine pure_ (i := 0) (N := some 125) (v := ?_) (a' := ?_) #[true, false, false, false, false, false, false, false, false] rfl rfl (any_of HT_.out (by kernel_rfl)) (fun _ _ _ h => h) (Or.inl ⟨by rfl, ?_⟩) ?_ ?_
                        rotate_left
                        ·
                         intro w'
                         go_simp
                         with_reducible rfl
                        rotate_left
                        ·
                         simp only [Act.put, List.setIfInBounds_toArray, List.set_cons_zero, List.set_cons_succ, i64_w, i32_w]
                         rfl
                        refine pure_ (i := 1) (N := some 126) (v := ?_) (a' := ?_) #[true, true, false, false, false, false, false, false, false] rfl rfl (any_of HT_.out (by kernel_rfl)) (fun _ _ _ h => h) (Or.inl ⟨by rfl, ?_⟩) ?_ ?_
                        rotate_left
                        ·
                         intro w'
                         go_simp
                         with_reducible rfl
                        rotate_left
                        ·
                         simp only [Act.put, List.setIfInBounds_toArray, List.set_cons_zero, List.set_cons_succ, i64_w, i32_w]
                         rfl
                        refine pure_ (i := 2) (N := some 127) (v := ?_) (a' := ?_) #[true, true, true, false, false, false, false, false, false] rfl rfl (any_of HT_.out (by kernel_rfl)) (fun _ _ _ h => h) (Or.inl ⟨by rfl, ?_⟩) ?_ ?_
                        rotate_left
                        ·
                         intro w'
                         go_simp
                         with_reducible rfl
                        rotate_left
                        ·
                         simp only [Act.put, List.setIfInBounds_toArray, List.set_cons_zero, List.set_cons_succ, i64_w, i32_w]
                         rfl
                        refine pure_ (i := 4) (N := some 129) (v := ?_) (a' := ?_) #[true, true, true, false, true, false, false, false, false] rfl rfl (any_of HT_.out (by kernel_rfl)) (fun _ _ _ h => h) (Or.inl ⟨by rfl, ?_⟩) ?_ ?_
                        rotate_left
                        ·
                         intro w'
                         go_simp
                         with_reducible rfl
                        rotate_left
                        ·
                         simp only [Act.put, List.setIfInBounds_toArray, List.set_cons_zero, List.set_cons_succ, i64_w, i32_w]
                         rfl
                        refine pure_ (i := 5) (N := some 130) (v := ?_) (a' := ?_) #[true, true, true, false, true, true, false, false, false] rfl rfl (any_of HT_.out (by kernel_rfl)) (fun _ _ _ h => h) (Or.inl ⟨by rfl, ?_⟩) ?_ ?_
                        rotate_left
                        ·
                         intro w'
                         go_simp
                         with_reducible rfl
                        rotate_left
                        ·
                         simp only [Act.put, List.setIfInBounds_toArray, List.set_cons_zero, List.set_cons_succ, i64_w, i32_w]
                         rfl
                        refine pure_ (i := 6) (N := some 131) (v := ?_) (a' := ?_) #[true, true, true, false, true, true, true, false, false] rfl rfl (any_of HT_.out (by kernel_rfl)) (fun _ _ _ h => h) (Or.inl ⟨by rfl, ?_⟩) ?_ ?_
                        rotate_left
                        ·
                         intro w'
                         go_simp
                         with_reducible rfl
                        rotate_left
                        ·
                         simp only [Act.put, List.setIfInBounds_toArray, List.set_cons_zero, List.set_cons_succ, i64_w, i32_w]
                         rfl
                        refine take_ (i := 3) (N := some 128) (v := ?_) (a' := ?_) #[true, true, true, true, true, true, true, false, false] rfl rfl (take_ofW HT_.out HW_.out (by kernel_rfl)) (fun _ _ _ h => h) (Or.inl ⟨by rfl, ?_⟩) hHeld ?_ ?_
                        rotate_left
                        ·
                         rintro w' ⟨s0, s1⟩
                         go_simp
                         with_reducible rfl
                        rotate_left
                        ·
                         simp only [Act.put, List.setIfInBounds_toArray, List.set_cons_zero, List.set_cons_succ, i64_w, i32_w]
                         rfl
                        refine take_ (i := 7) (N := some 132) (v := ?_) (a' := ?_) #[true, true, true, true, true, true, true, true, false] rfl rfl (take_ofW HT_.out HW_.out (by kernel_rfl)) (fun _ _ _ h => h) (Or.inl ⟨by rfl, ?_⟩) hHeld ?_ ?_
                        rotate_left
                        ·
                         rintro w' ⟨s0, s1⟩
                         go_simp
                         with_reducible rfl
                        rotate_left
                        ·
                         simp only [Act.put, List.setIfInBounds_toArray, List.set_cons_zero, List.set_cons_succ, i64_w, i32_w]
                         rfl
                        refine one_ (i := 8) (N := some 133) #[true, true, true, true, true, true, true, true, true] rfl rfl (one_of HT_.out (by kernel_rfl)) (by decide) (fun K hK => ?_)
                        refine goes_ Tryd.func16 (by kernel_rfl) rfl #[.slice A199_0 (rd_L2 t165 x14_6).length c199_0, .int .i64 (rd x9_4 x12_5)] (by rfl) rfl rfl (by (try simp only [List.map_toArray, List.map_cons, List.map_nil]); first | done | rfl | (simp only [List.length_drop, List.length_take]; rfl)) ?_
                        with_reducible refine (thistlelaw02_within.calls k6 _ _ (rd_L2 t165 x14_6) (rd x9_4 x12_5) false _ ?side1 ?side2 A61.out).mono ?_
                        (case side1 => repeat (first | exact (by repeat (first | (with_reducible exact HR199_0.out) | (with_reducible refine Kd.C_alloc ?_ _) | (with_reducible refine Kd.C_drewN ?_ _) | (with_reducible refine Kd.C_drew ?_) | exact HR199_0.out)) | (with_reducible refine Kd.C_alloc ?_ _) | (with_reducible refine Kd.C_drewN ?_ _) | (with_reducible refine Kd.C_drew ?_)))
                        (case side2 => exact HC199_0.out)
                        rintro e w' ⟨rfl, ⟨nd, rfl⟩⟩
                        refine ⟨_, rfl, ?_⟩
                        refine hK.out _ _ ⟨hHeld.1, hHeld.2⟩ (fun hHeld => ?_)
                        clear hK K
                        refine norm_ (a' := ?_) ?_ ?_
                        rotate_left
                        ·
                         show Act.put _ (some 133) _ = _
                         simp only [Act.put, List.setIfInBounds_toArray, List.set_cons_zero, List.set_cons_succ, i64_w, i32_w]
                         rfl
                        refine done_ (done_of HT_.out (by kernel_rfl)) ?_
                        try go_wp2
                        go_roundg k6
                        case measure => have := HK1.out; have := HJ14.out; have := HK3.out; have := HK4.out; have := HK5.out; have := HK6.out; omega
                        case rel => exact ⟨(x13_6), (wrap64 (x14_6 + 1)), (by first | rfl | (simp; done) | (simp [*]; done)), (by first | rfl | (simp; done) | (simp [*]; done)), H', ⟨by have := HK1.out; have := HJ14.out; have := HK3.out; have := HK4.out; have := HK5.out; have := HK6.out; omega⟩, ⟨by (with_reducible repeat (first | apply Kd.S_alloc | apply Kd.S_drewN | apply Kd.S_drew)); exact HO_3.out⟩, ⟨by (with_reducible repeat (first | apply Kd.S_alloc | apply Kd.S_drewN | apply Kd.S_drew)); exact HO_7.out⟩, ⟨by (with_reducible repeat (first | apply Kd.R_alloc | apply Kd.R_drewN | apply Kd.R_drew)); exact HO_9.out⟩, ⟨by repeat (first | (with_reducible first | exact HB.out | apply below_alloc | apply pw_below_drewN | apply below_drew1) | exact HB.out)⟩⟩
                      ·
                       rw [if_neg c60] at H
                       exact absurd H (by simp)
                     ·
                      rw [if_neg c59] at H
                      exact absurd H (by simp)
                    ·
                     rw [if_neg c58] at H
                     exact absurd H (by simp)
                   ·
                    rw [if_neg c57] at H
                    have c57b0 : decide (x14_6 < (t165.length : Int)) = false := decide_eq_false c57
                    clear c57
                    by_cases c75 : 0 ≤ x12_5
                    ·
                     rw [if_pos c75] at H
                     have c75b0 : decide (0 ≤ x12_5) = true := decide_eq_true c75
                     clear c75
                     by_cases c76 : x12_5 < (x9_4.length : Int)
                     ·
                      rw [if_pos c76] at H
                      have c76b0 : decide (x12_5 < (x9_4.length : Int)) = true := decide_eq_true c76
                      clear c76
                      replace H := Option.bind_eq_some_iff.mp H
                      obtain ⟨t198, A770, H⟩ := H
                      replace H : (if (t198 != (x13_6 == 1)) = true then (some false) else (if x13_6 > 1 then (some false) else (thistlelaw02_SetsParts.l3 k6 x3_1 t165 x9_4 (wrap64 (x12_5 + 1))))) = some r := H
                      have A77 := Aside0.mk A770
                      clear A770
                      by_cases c78 : (t198 != (x13_6 == 1)) = true
                      ·
                       rw [if_pos c78] at H
                       have c78b0 : (t198 != (x13_6 == 1)) = true := c78
                       (try (have c78b1 : decide (t198 = (x13_6 == 1)) = false := by simpa using c78))
                       (try (have c78b2 : (t198 == (x13_6 == 1)) = false := by simpa using c78))
                       (try (have c78b3 : ¬ (t198 = (x13_6 == 1)) := by simpa using c78))
                       clear c78
                       exact absurd (H.trans (congrArg some hrt.out)) (by simp)
                      ·
                       rw [if_neg c78] at H
                       have c78b0 : (t198 != (x13_6 == 1)) = false := by simpa using c78
                       (try (have c78b1 : decide (t198 = (x13_6 == 1)) = true := by simpa using c78))
                       (try (have c78b2 : (t198 == (x13_6 == 1)) = true := by simpa using c78))
                       clear c78
                       by_cases c79 : x13_6 > 1
                       ·
                        rw [if_pos c79] at H
                        have c79b0 : decide (1 < x13_6) = true := decide_eq_true c79
                        clear c79
                        exact absurd (H.trans (congrArg some hrt.out)) (by simp)
                       ·
                        rw [if_neg c79] at H
                        have c79b0 : decide (1 < x13_6) = false := decide_eq_false c79
                        clear c79
                        have H' := Aside0.mk H
                        clear H
                        have p197 : 0 ≤ (x12_5 : Int) := of_decide_eq_true (by first | (with_reducible assumption) | assumption)
                        have q197 : x12_5 < (x9_4.length : Int) := of_decide_eq_true (by first | (with_reducible assumption) | assumption)
                        obtain ⟨ad197, e197, hx197_0⟩ := Kd.at_int (Kd.R_reads' HO_9.out).2.2 x12_5 p197 q197
                        cases e197
                        replace p197 := eq_true p197
                        replace q197 := eq_true q197
                        go_wp2_with (first | ((with_reducible refine gate_callee (f := 15) rfl ?_); refine goesL_ (some 158) rfl rfl Tryd.func15 (by kernel_rfl) rfl #[.int .i64 (rd x9_4 x12_5)] rfl (by (try simp only [List.map_toArray, List.map_cons, List.map_nil]); first | done | rfl | (simp only [List.length_drop, List.length_take]; rfl)) ?_; (with_reducible refine (thistlelaw02_unit.calls (rd x9_4 x12_5) t198 _ A77.out).mono ?_); rintro e w' ⟨rfl, ⟨nd, rfl⟩⟩; refine ⟨_, rfl, ?_⟩))
                        go_roundg k6
                        case measure => have := HK1.out; have := HJ14.out; have := HK3.out; have := HK4.out; have := HK5.out; have := HK6.out; omega
                        case rel => exact ⟨(wrap64 (x12_5 + 1)), (by first | rfl | (simp; done) | (simp [*]; done)), H', ⟨by have := HK1.out; have := HJ14.out; have := HK3.out; have := HK4.out; have := HK5.out; have := HK6.out; omega⟩, ⟨by (with_reducible repeat (first | apply Kd.S_alloc | apply Kd.S_drewN | apply Kd.S_drew)); exact HO_3.out⟩, ⟨by (with_reducible repeat (first | apply Kd.S_alloc | apply Kd.S_drewN | apply Kd.S_drew)); exact HO_7.out⟩, ⟨by (with_reducible repeat (first | apply Kd.R_alloc | apply Kd.R_drewN | apply Kd.R_drew)); exact HO_9.out⟩, ⟨by repeat (first | (with_reducible first | exact HB.out | apply below_alloc | apply pw_below_drewN | apply below_drew1) | exact HB.out)⟩⟩
                     ·
                      rw [if_neg c76] at H
                      exact absurd H (by simp)
                    ·
                     rw [if_neg c75] at H
                     exact absurd H (by simp)
                ·
                 rw [if_neg c55] at H
                 have c55b0 : decide (x12_5 < (x9_4.length : Int)) = false := decide_eq_false c55
                 clear c55
                 have H' := Aside0.mk H
                 clear H
                 obtain ⟨Ao80, co80, eo80⟩ := Kd.R_slice HO_9.out
                 subst eo80
                 go_wp2
                 go_loopg [15] k5 (fun kq v15 w' => ∃ (x15_6 : Int), v15 = .int .i64 x15_6 ∧ Aside0 (thistlelaw02_SetsParts.l5 kq x3_1 t165 x15_6 = some r) ∧ Aside0 (kq ≤ k5) ∧ Aside0 (Kd.S (Kd.slice 29 k29) 22 w' w.heap.size (fun k_ => some k_ ≠ ((.slice Ao47 t165.length co47) : Value).ownBlock) (.slice Ao16 x3_1.length co16) x3_1) ∧ Aside0 (Kd.S (Kd.slice 29 k29) 22 w' w.heap.size (fun k_ => some k_ ≠ ((.slice Ao16 x3_1.length co16) : Value).ownBlock) (.slice Ao47 t165.length co47) t165) ∧ Aside0 (Below w.heap.size w w'))
                 case atStart => exact ⟨(0), (by first | rfl | (simp; done) | (simp [*]; done)), H', ⟨Nat.le_refl _⟩, ⟨by (with_reducible repeat (first | apply Kd.S_alloc | apply Kd.S_drewN | apply Kd.S_drew)); exact HO_3.out⟩, ⟨by (with_reducible repeat (first | apply Kd.S_alloc | apply Kd.S_drewN | apply Kd.S_drew)); exact HO_7.out⟩, ⟨by repeat (first | (with_reducible first | exact HB.out | apply below_alloc | apply pw_below_drewN | apply below_drew1) | exact HB.out)⟩⟩
                 case round =>
                  clear H'
                  try clear c1
                  try clear p1
                  try clear q1
                  try clear hx1
                  try clear c2
                  try clear p2
                  try clear q2
                  try clear hx2
                  try clear qi2
                  try clear c3
                  try clear c5
                  try clear c6
                  try clear p6
                  try clear c7
                  try clear c15
                  try clear c16
                  try clear c19
                  try clear p19
                  try clear q19
                  try clear hx19
                  try clear c20
                  try clear p20
                  try clear q20
                  try clear hx20
                  try clear qi20
                  try clear c29
                  try clear c30
                  try clear c55
                  try clear c55b0
                  try clear c57
                  try clear c57b0
                  try clear c58
                  try clear c59
                  try clear c60
                  try clear c62
                  try clear c64
                  try clear p64
                  try clear c67
                  try clear c75
                  try clear c75b0
                  try clear c76
                  try clear c76b0
                  try clear c78
                  try clear c78b0
                  try clear c78b1
                  try clear c78b2
                  try clear c79
                  try clear c79b0
                  try clear hx197_0
                  try clear hx199_0
                  try clear hx200_0
                  try clear hx202_0
                  try clear hx206_0
                  try clear hx207_0
                  try clear hx207_1
                  try clear p197
                  try clear p199
                  try clear p200
                  try clear p202
                  try clear p206
                  try clear p207
                  try clear q197
                  try clear q199
                  try clear q200
                  try clear q202
                  try clear q206
                  try clear q207
                  obtain ⟨x15_6, rfl, HA, HK6, HO_3, HO_7, HB⟩ := hrel
                  cases gk with
                  | zero => exact absurd HA.out (by simp [thistlelaw02_SetsParts.l5])
                  | succ k6 =>
                   have H := HA.out
                   clear HA
                   simp only [thistlelaw02_SetsParts.l5] at H
                   by_cases c81 : x15_6 < (t165.length : Int)
                   ·
                    rw [if_pos c81] at H
                    have c81b0 : decide (x15_6 < (t165.length : Int)) = true := decide_eq_true c81
                    clear c81
                    have H' := Aside0.mk H
                    clear H
                    go_wp2
                    go_loopg [16] k6 (fun kq v16 w' => ∃ (x16_7 : Int), v16 = .int .i64 x16_7 ∧ Aside0 (thistlelaw02_SetsParts.l6 kq x3_1 t165 x15_6 x16_7 = some r) ∧ Aside0 (kq ≤ k6) ∧ Aside0 (Kd.S (Kd.slice 29 k29) 22 w' w.heap.size (fun k_ => some k_ ≠ ((.slice Ao47 t165.length co47) : Value).ownBlock) (.slice Ao16 x3_1.length co16) x3_1) ∧ Aside0 (Kd.S (Kd.slice 29 k29) 22 w' w.heap.size (fun k_ => some k_ ≠ ((.slice Ao16 x3_1.length co16) : Value).ownBlock) (.slice Ao47 t165.length co47) t165) ∧ Aside0 (Below w.heap.size w w'))
                    case atStart => exact ⟨(0), (by first | rfl | (simp; done) | (simp [*]; done)), H', ⟨Nat.le_refl _⟩, ⟨by (with_reducible repeat (first | apply Kd.S_alloc | apply Kd.S_drewN | apply Kd.S_drew)); exact HO_3.out⟩, ⟨by (with_reducible repeat (first | apply Kd.S_alloc | apply Kd.S_drewN | apply Kd.S_drew)); exact HO_7.out⟩, ⟨by repeat (first | (with_reducible first | exact HB.out | apply below_alloc | apply pw_below_drewN | apply below_drew1) | exact HB.out)⟩⟩
                    case round =>
                     clear H'
                     try clear c1
                     try clear p1
                     try clear q1
                     try clear hx1
                     try clear c2
                     try clear p2
                     try clear q2
                     try clear hx2
                     try clear qi2
                     try clear c3
                     try clear c5
                     try clear c6
                     try clear p6
                     try clear c7
                     try clear c8
                     try clear c15
                     try clear c16
                     try clear c19
                     try clear p19
                     try clear q19
                     try clear hx19
                     try clear c20
                     try clear p20
                     try clear q20
                     try clear hx20
                     try clear qi20
                     try clear c29
                     try clear c30
                     try clear c55
                     try clear c55b0
                     try clear c57
                     try clear c57b0
                     try clear c58
                     try clear c59
                     try clear c60
                     try clear c62
                     try clear c64
                     try clear p64
                     try clear c67
                     try clear c75
                     try clear c75b0
                     try clear c76
                     try clear c76b0
                     try clear c78
                     try clear c78b0
                     try clear c78b1
                     try clear c78b2
                     try clear c79
                     try clear c79b0
                     try clear c81
                     try clear c81b0
                     try clear hx197_0
                     try clear hx199_0
                     try clear hx200_0
                     try clear hx202_0
                     try clear hx206_0
                     try clear hx207_0
                     try clear hx207_1
                     try clear p1
                     try clear p19
                     try clear p197
                     try clear p199
                     try clear p2
                     try clear p20
                     try clear p200
                     try clear p202
                     try clear p206
                     try clear p207
                     try clear p6
                     try clear p64
                     try clear q1
                     try clear q19
                     try clear q197
                     try clear q199
                     try clear q2
                     try clear q20
                     try clear q200
                     try clear q202
                     try clear q206
                     try clear q207
                     obtain ⟨x16_7, rfl, HA, HK7, HO_3, HO_7, HB⟩ := hrel
                     cases gk with
                     | zero => exact absurd HA.out (by simp [thistlelaw02_SetsParts.l6])
                     | succ k7 =>
                      have H := HA.out
                      clear HA
                      simp only [thistlelaw02_SetsParts.l6] at H
                      by_cases c82 : x16_7 < x15_6
                      ·
                       rw [if_pos c82] at H
                       have c82b0 : decide (x16_7 < x15_6) = true := decide_eq_true c82
                       clear c82
                       by_cases c83 : 0 ≤ x15_6
                       ·
                        rw [if_pos c83] at H
                        have c83b0 : decide (0 ≤ x15_6) = true := decide_eq_true c83
                        clear c83
                        by_cases c84 : x15_6 < (t165.length : Int)
                        ·
                         rw [if_pos c84] at H
                         have c84b0 : decide (x15_6 < (t165.length : Int)) = true := decide_eq_true c84
                         clear c84
                         by_cases c85 : 0 < ((rd_L2 t165 x15_6).length : Int)
                         ·
                          rw [if_pos c85] at H
                          have c85b0 : decide (0 < ((rd_L2 t165 x15_6).length : Int)) = true := decide_eq_true c85
                          have c85b1 : decide (0 < (rd_L2 t165 x15_6).length) = true := decide_eq_true (by omega)
                          clear c85
                          replace H := Option.bind_eq_some_iff.mp H
                          obtain ⟨t214, A860, H⟩ := H
                          replace H : (if 0 ≤ x16_7 then (if x16_7 < (t165.length : Int) then (if 0 < ((rd_L2 t165 x16_7).length : Int) then ((thistlelaw02_told.f k7 x3_1 (wrap64 ((rd_T29 (rd_L2 t165 x16_7) 0).f0))).bind fun t219 => ((thistlelaw02_alike.f k7 t214 t219).bind fun t222 => (if t222 = true then (some false) else (thistlelaw02_SetsParts.l6 k7 x3_1 t165 x15_6 (wrap64 (x16_7 + 1)))))) else (none)) else (none)) else (none)) = some r := H
                          have A86 := Aside0.mk A860
                          clear A860
                          by_cases c87 : 0 ≤ x16_7
                          ·
                           rw [if_pos c87] at H
                           have c87b0 : decide (0 ≤ x16_7) = true := decide_eq_true c87
                           clear c87
                           by_cases c88 : x16_7 < (t165.length : Int)
                           ·
                            rw [if_pos c88] at H
                            have c88b0 : decide (x16_7 < (t165.length : Int)) = true := decide_eq_true c88
                            clear c88
                            by_cases c89 : 0 < ((rd_L2 t165 x16_7).length : Int)
                            ·
                             rw [if_pos c89] at H
                             have c89b0 : decide (0 < ((rd_L2 t165 x16_7).length : Int)) = true := decide_eq_true c89
                             have c89b1 : decide (0 < (rd_L2 t165 x16_7).length) = true := decide_eq_true (by omega)
                             clear c89
                             replace H := Option.bind_eq_some_iff.mp H
                             obtain ⟨t219, A900, H⟩ := H
                             replace H : ((thistlelaw02_alike.f k7 t214 t219).bind fun t222 => (if t222 = true then (some false) else (thistlelaw02_SetsParts.l6 k7 x3_1 t165 x15_6 (wrap64 (x16_7 + 1))))) = some r := H
                             have A90 := Aside0.mk A900
                             clear A900
                             replace H := Option.bind_eq_some_iff.mp H
                             obtain ⟨t222, A910, H⟩ := H
                             replace H : (if t222 = true then (some false) else (thistlelaw02_SetsParts.l6 k7 x3_1 t165 x15_6 (wrap64 (x16_7 + 1)))) = some r := H
                             have A91 := Aside0.mk A910
                             clear A910
                             by_cases c92 : t222 = true
                             ·
                              subst c92
                              have H1 : (some false) = some r := by rw [if_pos rfl] at H; exact H
                              clear H
                              have H := H1
                              clear H1
                              exact absurd (H.trans (congrArg some hrt.out)) (by simp)
                             ·
                              replace c92 := Bool.eq_false_iff.mpr c92
                              subst c92
                              have H1 : (thistlelaw02_SetsParts.l6 k7 x3_1 t165 x15_6 (wrap64 (x16_7 + 1))) = some r := by rw [if_neg (show ¬ (false = true) by decide)] at H; exact H
                              clear H
                              have H := H1
                              clear H1
                              have H' := Aside0.mk H
                              clear H
                              try go_wp2
                              have n0_ := Aside0.mk (Kd.S_drew HO_3.out)
                              have n1_ := Aside0.mk (Kd.S_drew HO_7.out)
                              have n2_ := Aside0.mk (below_drew1 HB.out)
                              clear HO_3
                              clear HO_7
                              clear HB
                              have HO_3 := n0_
                              have HO_7 := n1_
                              have HB := n2_
                              clear n0_ n1_ n2_
                              have p212 : 0 ≤ (x15_6 : Int) := of_decide_eq_true (by first | (with_reducible assumption) | assumption)
                              have q212 : x15_6 < (t165.length : Int) := of_decide_eq_true (by first | (with_reducible assumption) | assumption)
                              obtain ⟨ad212, A212_0, c212_0, e212, hx212_0, hl212_0, hi212_0⟩ := at_L2 (Kd.S_reads' HO_7.out).2.2 x15_6 p212 q212
                              cases e212
                              obtain ⟨ce212, hce212, hMe212, hcc212⟩ := Kd.S_get HO_7.out [] x15_6 p212 (by first | exact q212 | exact of_decide_eq_true (by first | (with_reducible assumption) | assumption) | (have e_ := (Kd.S_reads' HO_7.out).1; omega))
                              obtain ⟨ve212_0, rfl, ge212_0⟩ := hMe212
                              have hv212_0 := hcc212 0 _ rfl
                              rw [Nat.add_zero, show ((Kd.slice 29 k29)).sz = 1 from rfl, Nat.mul_one] at hv212_0
                              replace hv212_0 := Option.some.inj (hv212_0.symm.trans hx212_0)
                              rw [hv212_0] at ge212_0
                              have HL212_0 := Aside0.mk (show Kd.R k29 29 _ _ _ _ (rd_L2 t165 x15_6) from ge212_0)
                              clear hv212_0 ge212_0
                              clear hcc212 hce212
                              have HR212_0 := Aside0.mk hi212_0
                              have HC212_0 := Aside0.mk hl212_0
                              clear hi212_0 hl212_0
                              replace p212 := eq_true p212
                              replace q212 := eq_true q212
                              have p213 : 0 ≤ (0 : Int) := (by omega)
                              have q213 : 0 < ((rd_L2 t165 x15_6).length : Int) := of_decide_eq_true (by first | (with_reducible assumption) | assumption)
                              obtain ⟨ad213, e213, hx213_0, hx213_1⟩ := at_T29 (by repeat (first | (with_reducible exact HR212_0.out) | (with_reducible refine Kd.C_alloc ?_ _) | (with_reducible refine Kd.C_drewN ?_ _) | (with_reducible refine Kd.C_drew ?_) | exact HR212_0.out)) 0 p213 q213
                              cases e213
                              have qi213 : (0 < (rd_L2 t165 x15_6).length) = True := eq_true (by omega)
                              (try rw [show ((0 : Int)).toNat = 0 from rfl] at hx213_0)
                              (try rw [show 0 * 2 = 0 from rfl] at hx213_0)
                              (try rw [Addr.add_zero'] at hx213_0)
                              (try rw [show ((0 : Int)).toNat = 0 from rfl] at hx213_1)
                              (try rw [show 0 * 2 = 0 from rfl] at hx213_1)
                              (try rw [Addr.add_zero'] at hx213_1)
                              replace p213 := eq_true p213
                              replace q213 := eq_true q213
                              have p217 : 0 ≤ (x16_7 : Int) := of_decide_eq_true (by first | (with_reducible assumption) | assumption)
                              have q217 : x16_7 < (t165.length : Int) := of_decide_eq_true (by first | (with_reducible assumption) | assumption)
                              obtain ⟨ad217, A217_0, c217_0, e217, hx217_0, hl217_0, hi217_0⟩ := at_L2 (Kd.S_reads' HO_7.out).2.2 x16_7 p217 q217
                              obtain rfl : ad212 = ad217 := (by injection e217)
                              obtain ⟨ce217, hce217, hMe217, hcc217⟩ := Kd.S_get HO_7.out [] x16_7 p217 (by first | exact q217 | exact of_decide_eq_true (by first | (with_reducible assumption) | assumption) | (have e_ := (Kd.S_reads' HO_7.out).1; omega))
                              obtain ⟨ve217_0, rfl, ge217_0⟩ := hMe217
                              have hv217_0 := hcc217 0 _ rfl
                              rw [Nat.add_zero, show ((Kd.slice 29 k29)).sz = 1 from rfl, Nat.mul_one] at hv217_0
                              replace hv217_0 := Option.some.inj (hv217_0.symm.trans hx217_0)
                              rw [hv217_0] at ge217_0
                              have HL217_0 := Aside0.mk (show Kd.R k29 29 _ _ _ _ (rd_L2 t165 x16_7) from ge217_0)
                              clear hv217_0 ge217_0
                              clear hcc217 hce217
                              have HR217_0 := Aside0.mk hi217_0
                              have HC217_0 := Aside0.mk hl217_0
                              clear hi217_0 hl217_0
                              replace p217 := eq_true p217
                              replace q217 := eq_true q217
                              have p218 : 0 ≤ (0 : Int) := (by omega)
                              have q218 : 0 < ((rd_L2 t165 x16_7).length : Int) := of_decide_eq_true (by first | (with_reducible assumption) | assumption)
                              obtain ⟨ad218, e218, hx218_0, hx218_1⟩ := at_T29 (by repeat (first | (with_reducible exact HR217_0.out) | (with_reducible refine Kd.C_alloc ?_ _) | (with_reducible refine Kd.C_drewN ?_ _) | (with_reducible refine Kd.C_drew ?_) | exact HR217_0.out)) 0 p218 q218
                              cases e218
                              have qi218 : (0 < (rd_L2 t165 x16_7).length) = True := eq_true (by omega)
                              (try rw [show ((0 : Int)).toNat = 0 from rfl] at hx218_0)
                              (try rw [show 0 * 2 = 0 from rfl] at hx218_0)
                              (try rw [Addr.add_zero'] at hx218_0)
                              (try rw [show ((0 : Int)).toNat = 0 from rfl] at hx218_1)
                              (try rw [show 0 * 2 = 0 from rfl] at hx218_1)
                              (try rw [Addr.add_zero'] at hx218_1)
                              replace p218 := eq_true p218
                              replace q218 := eq_true q218
                              refine start_ (n := 21) (S := fun w' => w'.cell? (ad212.add (x15_6).toNat) = some (.slice (some ad213) (rd_L2 t165 x15_6).length c212_0) ∧ w'.cell? ad213 = some (.int .i32 ((rd_T29 (rd_L2 t165 x15_6) 0).f0)) ∧ w'.cell? ⟨ad213.block, ad213.off + 1, none⟩ = some (.int .i32 ((rd_T29 (rd_L2 t165 x15_6) 0).f1)) ∧ w'.cell? (ad212.add (x16_7).toNat) = some (.slice (some ad218) (rd_L2 t165 x16_7).length c217_0) ∧ w'.cell? ad218 = some (.int .i32 ((rd_T29 (rd_L2 t165 x16_7) 0).f0)) ∧ w'.cell? ⟨ad218.block, ad218.off + 1, none⟩ = some (.int .i32 ((rd_T29 (rd_L2 t165 x16_7) 0).f1))) (ds := []) #[false, false, false, false, false, false, false, false, false, false, false, false, false, false, false, false, false, false, false, false, false] (by kernel_rfl) rfl rfl ⟨hx212_0, hx213_0, hx213_1, hx217_0, hx218_0, hx218_1⟩ (fun hHeld => ?_); refine with_tabW thistlelaw02_SetsParts.tab43 thistlelaw02_SetsParts.bits43 (fun HT_ HW_ => ?_)
                              generalize wr.drew = w93 at HO_3 HO_7 HB HL212_0 HL217_0 HR212_0 HR217_0 hx212_0 hx213_0 hx213_1 hx217_0 hx218_0 hx218_1 hHeld ⊢
                              refine pure_ (i := 0) (N := some 177) (v := ?_) (a' := ?_) #[true, false, false, false, false, false, false, false, false, false, false, false, false, false, false, false, false, false, false, false, false] rfl rfl (any_of HT_.out (by kernel_rfl)) (fun _ _ _ h => h) (Or.inl ⟨by rfl, ?_⟩) ?_ ?_
                              rotate_left
                              ·
                               intro w'
                               go_simp
                               with_reducible rfl
                              rotate_left
                              ·
                               simp only [Act.put, List.setIfInBounds_toArray, List.set_cons_zero, List.set_cons_succ, i64_w, i32_w]
                               rfl
                              refine pure_ (i := 1) (N := some 178) (v := ?_) (a' := ?_) #[true, true, false, false, false, false, false, false, false, false, false, false, false, false, false, false, false, false, false, false, false] rfl rfl (any_of HT_.out (by kernel_rfl)) (fun _ _ _ h => h) (Or.inl ⟨by rfl, ?_⟩) ?_ ?_
                              rotate_left
                              ·
                               intro w'
                               go_simp
                               with_reducible rfl
                              rotate_left
                              ·
                               simp only [Act.put, List.setIfInBounds_toArray, List.set_cons_zero, List.set_cons_succ, i64_w, i32_w]
                               rfl
                              refine pure_ (i := 2) (N := some 179) (v := ?_) (a' := ?_) #[true, true, true, false, false, false, false, false, false, false, false, false, false, false, false, false, false, false, false, false, false] rfl rfl (any_of HT_.out (by kernel_rfl)) (fun _ _ _ h => h) (Or.inl ⟨by rfl, ?_⟩) ?_ ?_
                              rotate_left
                              ·
                               intro w'
                               go_simp
                               with_reducible rfl
                              rotate_left
                              ·
                               simp only [Act.put, List.setIfInBounds_toArray, List.set_cons_zero, List.set_cons_succ, i64_w, i32_w]
                               rfl
                              refine pure_ (i := 3) (N := some 180) (v := ?_) (a' := ?_) #[true, true, true, true, false, false, false, false, false, false, false, false, false, false, false, false, false, false, false, false, false] rfl rfl (any_of HT_.out (by kernel_rfl)) (fun _ _ _ h => h) (Or.inl ⟨by rfl, ?_⟩) ?_ ?_
                              rotate_left
                              ·
                               intro w'
                               go_simp
                               with_reducible rfl
                              rotate_left
                              ·
                               simp only [Act.put, List.setIfInBounds_toArray, List.set_cons_zero, List.set_cons_succ, i64_w, i32_w]
                               rfl
                              refine pure_ (i := 10) (N := some 187) (v := ?_) (a' := ?_) #[true, true, true, true, false, false, false, false, false, false, true, false, false, false, false, false, false, false, false, false, false] rfl rfl (any_of HT_.out (by kernel_rfl)) (fun _ _ _ h => h) (Or.inl ⟨by rfl, ?_⟩) ?_ ?_
                              rotate_left
                              ·
                               intro w'
                               go_simp
                               with_reducible rfl
                              rotate_left
                              ·
                               simp only [Act.put, List.setIfInBounds_toArray, List.set_cons_zero, List.set_cons_succ, i64_w, i32_w]
                               rfl
                              refine pure_ (i := 11) (N := some 188) (v := ?_) (a' := ?_) #[true, true, true, true, false, false, false, false, false, false, true, true, false, false, false, false, false, false, false, false, false] rfl rfl (any_of HT_.out (by kernel_rfl)) (fun _ _ _ h => h) (Or.inl ⟨by rfl, ?_⟩) ?_ ?_
                              rotate_left
                              ·
                               intro w'
                               go_simp
                               with_reducible rfl
                              rotate_left
                              ·
                               simp only [Act.put, List.setIfInBounds_toArray, List.set_cons_zero, List.set_cons_succ, i64_w, i32_w]
                               rfl
                              refine pure_ (i := 12) (N := some 189) (v := ?_) (a' := ?_) #[true, true, true, true, false, false, false, false, false, false, true, true, true, false, false, false, false, false, false, false, false] rfl rfl (any_of HT_.out (by kernel_rfl)) (fun _ _ _ h => h) (Or.inl ⟨by rfl, ?_⟩) ?_ ?_
                              rotate_left
                              ·
                               intro w'
                               go_simp
                               with_reducible rfl
                              rotate_left
                              ·
                               simp only [Act.put, List.setIfInBounds_toArray, List.set_cons_zero, List.set_cons_succ, i64_w, i32_w]
                               rfl
                              refine pure_ (i := 13) (N := some 190) (v := ?_) (a' := ?_) #[true, true, true, true, false, false, false, false, false, false, true, true, true, true, false, false, false, false, false, false, false] rfl rfl (any_of HT_.out (by kernel_rfl)) (fun _ _ _ h => h) (Or.inl ⟨by rfl, ?_⟩) ?_ ?_
                              rotate_left
                              ·
                               intro w'
                               go_simp
                               with_reducible rfl
                              rotate_left
                              ·
                               simp only [Act.put, List.setIfInBounds_toArray, List.set_cons_zero, List.set_cons_succ, i64_w, i32_w]
                               rfl
                              refine take_ (i := 4) (N := some 181) (v := ?_) (a' := ?_) #[true, true, true, true, true, false, false, false, false, false, true, true, true, true, false, false, false, false, false, false, false] rfl rfl (take_ofW HT_.out HW_.out (by kernel_rfl)) (fun _ _ _ h => h) (Or.inl ⟨by rfl, ?_⟩) hHeld ?_ ?_
                              rotate_left
                              ·
                               rintro w' ⟨s0, s1, s2, s3, s4, s5⟩
                               go_simp
                               with_reducible rfl
                              rotate_left
                              ·
                               simp only [Act.put, List.setIfInBounds_toArray, List.set_cons_zero, List.set_cons_succ, i64_w, i32_w]
                               rfl
                              refine pure_ (i := 5) (N := some 182) (v := ?_) (a' := ?_) #[true, true, true, true, true, true, false, false, false, false, true, true, true, true, false, false, false, false, false, false, false] rfl rfl (any_of HT_.out (by kernel_rfl)) (fun _ _ _ h => h) (Or.inl ⟨by rfl, ?_⟩) ?_ ?_
                              rotate_left
                              ·
                               intro w'
                               go_simp
                               with_reducible rfl
                              rotate_left
                              ·
                               simp only [Act.put, List.setIfInBounds_toArray, List.set_cons_zero, List.set_cons_succ, i64_w, i32_w]
                               rfl
                              refine pure_ (i := 6) (N := some 183) (v := ?_) (a' := ?_) #[true, true, true, true, true, true, true, false, false, false, true, true, true, true, false, false, false, false, false, false, false] rfl rfl (any_of HT_.out (by kernel_rfl)) (fun _ _ _ h => h) (Or.inl ⟨by rfl, ?_⟩) ?_ ?_
                              rotate_left
                              ·
                               intro w'
                               go_simp
                               with_reducible rfl
                              rotate_left
                              ·
                               simp only [Act.put, List.setIfInBounds_toArray, List.set_cons_zero, List.set_cons_succ, i64_w, i32_w]
                               rfl
                              refine take_ (i := 7) (N := some 184) (v := ?_) (a' := ?_) #[true, true, true, true, true, true, true, true, false, false, true, true, true, true, false, false, false, false, false, false, false] rfl rfl (take_ofW HT_.out HW_.out (by kernel_rfl)) (fun _ _ _ h => h) (Or.inl ⟨by rfl, ?_⟩) hHeld ?_ ?_
                              rotate_left
                              ·
                               rintro w' ⟨s0, s1, s2, s3, s4, s5⟩
                               go_simp
                               with_reducible rfl
                              rotate_left
                              ·
                               simp only [Act.put, List.setIfInBounds_toArray, List.set_cons_zero, List.set_cons_succ, i64_w, i32_w]
                               rfl
                              refine pure_ (i := 8) (N := some 185) (v := ?_) (a' := ?_) #[true, true, true, true, true, true, true, true, true, false, true, true, true, true, false, false, false, false, false, false, false] rfl rfl (any_of HT_.out (by kernel_rfl)) (fun _ _ _ h => h) (Or.inl ⟨by rfl, ?_⟩) ?_ ?_
                              rotate_left
                              ·
                               intro w'
                               go_simp
                               with_reducible rfl
                              rotate_left
                              ·
                               simp only [Act.put, List.setIfInBounds_toArray, List.set_cons_zero, List.set_cons_succ, i64_w, i32_w]
                               rfl
                              refine take_ (i := 14) (N := some 191) (v := ?_) (a' := ?_) #[true, true, true, true, true, true, true, true, true, false, true, true, true, true, true, false, false, false, false, false, false] rfl rfl (take_ofW HT_.out HW_.out (by kernel_rfl)) (fun _ _ _ h => h) (Or.inl ⟨by rfl, ?_⟩) hHeld ?_ ?_
                              rotate_left
                              ·
                               rintro w' ⟨s0, s1, s2, s3, s4, s5⟩
                               go_simp
                               with_reducible rfl
                              rotate_left
                              ·
                               simp only [Act.put, List.setIfInBounds_toArray, List.set_cons_zero, List.set_cons_succ, i64_w, i32_w]
                               rfl
                              refine pure_ (i := 15) (N := some 192) (v := ?_) (a' := ?_) #[true, true, true, true, true, true, true, true, true, false, true, true, true, true, true, true, false, false, false, false, false] rfl rfl (any_of HT_.out (by kernel_rfl)) (fun _ _ _ h => h) (Or.inl ⟨by rfl, ?_⟩) ?_ ?_
                              rotate_left
                              ·
                               intro w'
                               go_simp
                               with_reducible rfl
                              rotate_left
                              ·
                               simp only [Act.put, List.setIfInBounds_toArray, List.set_cons_zero, List.set_cons_succ, i64_w, i32_w]
                               rfl
                              refine pure_ (i := 16) (N := some 193) (v := ?_) (a' := ?_) #[true, true, true, true, true, true, true, true, true, false, true, true, true, true, true, true, true, false, false, false, false] rfl rfl (any_of HT_.out (by kernel_rfl)) (fun _ _ _ h => h) (Or.inl ⟨by rfl, ?_⟩) ?_ ?_
                              rotate_left
                              ·
                               intro w'
                               go_simp
                               with_reducible rfl
                              rotate_left
                              ·
                               simp only [Act.put, List.setIfInBounds_toArray, List.set_cons_zero, List.set_cons_succ, i64_w, i32_w]
                               rfl
                              refine take_ (i := 17) (N := some 194) (v := ?_) (a' := ?_) #[true, true, true, true, true, true, true, true, true, false, true, true, true, true, true, true, true, true, false, false, false] rfl rfl (take_ofW HT_.out HW_.out (by kernel_rfl)) (fun _ _ _ h => h) (Or.inl ⟨by rfl, ?_⟩) hHeld ?_ ?_
                              rotate_left
                              ·
                               rintro w' ⟨s0, s1, s2, s3, s4, s5⟩
                               go_simp
                               with_reducible rfl
                              rotate_left
                              ·
                               simp only [Act.put, List.setIfInBounds_toArray, List.set_cons_zero, List.set_cons_succ, i64_w, i32_w]
                               rfl
                              refine pure_ (i := 18) (N := some 195) (v := ?_) (a' := ?_) #[true, true, true, true, true, true, true, true, true, false, true, true, true, true, true, true, true, true, true, false, false] rfl rfl (any_of HT_.out (by kernel_rfl)) (fun _ _ _ h => h) (Or.inl ⟨by rfl, ?_⟩) ?_ ?_
                              rotate_left
                              ·
                               intro w'
                               go_simp
                               with_reducible rfl
                              rotate_left
                              ·
                               simp only [Act.put, List.setIfInBounds_toArray, List.set_cons_zero, List.set_cons_succ, i64_w, i32_w]
                               rfl
                              refine one_ (i := 9) (N := some 186) #[true, true, true, true, true, true, true, true, true, true, true, true, true, true, true, true, true, true, true, false, false] rfl rfl (one_of HT_.out (by kernel_rfl)) (by decide) (fun K hK => ?_)
                              refine goes_ Tryd.func30 (by kernel_rfl) rfl #[.slice Ao16 x3_1.length co16, .int .i64 (wrap64 ((rd_T29 (rd_L2 t165 x15_6) 0).f0))] (by rfl) rfl rfl (by (try simp only [List.map_toArray, List.map_cons, List.map_nil]); first | done | rfl | (simp only [List.length_drop, List.length_take]; rfl)) ?_
                              with_reducible refine (thistlelaw02_told.calls k7 _ _ x3_1 (wrap64 ((rd_T29 (rd_L2 t165 x15_6) 0).f0)) t214 _ ?side1 ?side2 A86.out).mono ?_
                              (case side1 => repeat (first | exact (Kd.S_reads' HO_3.out).2.2 | (with_reducible refine Kd.C_alloc ?_ _) | (with_reducible refine Kd.C_drewN ?_ _) | (with_reducible refine Kd.C_drew ?_)))
                              (case side2 => exact (Kd.S_reads' HO_3.out).2.1)
                              rintro e w94 ⟨v215, rfl, ho0, hb⟩
                              have HS0_ := (hb.cell (World.block_lt_of_cell? _ _ (hHeld.1))).trans (hHeld.1)
                              have HS1_ := (hb.cell (World.block_lt_of_cell? _ _ (hHeld.2.1))).trans (hHeld.2.1)
                              have HS2_ := (hb.cell (World.block_lt_of_cell? _ _ (hHeld.2.2.1))).trans (hHeld.2.2.1)
                              have HS3_ := (hb.cell (World.block_lt_of_cell? _ _ (hHeld.2.2.2.1))).trans (hHeld.2.2.2.1)
                              have HS4_ := (hb.cell (World.block_lt_of_cell? _ _ (hHeld.2.2.2.2.1))).trans (hHeld.2.2.2.2.1)
                              have HS5_ := (hb.cell (World.block_lt_of_cell? _ _ (hHeld.2.2.2.2.2))).trans (hHeld.2.2.2.2.2)
                              refine ⟨_, rfl, ?_⟩
                              have n0_ := Aside0.mk (Kd.S_below (by (with_reducible repeat (first | apply Kd.S_alloc | apply Kd.S_drewN | apply Kd.S_drew)); exact HO_3.out) hb)
                              have n1_ := Aside0.mk (Kd.S_below (by (with_reducible repeat (first | apply Kd.S_alloc | apply Kd.S_drewN | apply Kd.S_drew)); exact HO_7.out) hb)
                              have n2_ := Aside0.mk (Kd.R_below (by (with_reducible repeat (first | apply Kd.R_alloc | apply Kd.R_drewN | apply Kd.R_drew)); exact HL212_0.out) hb)
                              have n3_ := Aside0.mk (Kd.R_below (by (with_reducible repeat (first | apply Kd.R_alloc | apply Kd.R_drewN | apply Kd.R_drew)); exact HL217_0.out) hb)
                              have n4_ := Aside0.mk (Kd.R_lower ho0 (below_size (by repeat (first | (with_reducible first | exact HB.out | apply below_alloc | apply pw_below_drewN | apply below_drew1) | exact HB.out))))
                              have n5_ := Aside0.mk (Kd.C_below (by repeat (first | (with_reducible exact HR212_0.out) | (with_reducible refine Kd.C_alloc ?_ _) | (with_reducible refine Kd.C_drewN ?_ _) | (with_reducible refine Kd.C_drew ?_) | exact HR212_0.out)) hb)
                              have n6_ := Aside0.mk (Kd.C_below (by repeat (first | (with_reducible exact HR217_0.out) | (with_reducible refine Kd.C_alloc ?_ _) | (with_reducible refine Kd.C_drewN ?_ _) | (with_reducible refine Kd.C_drew ?_) | exact HR217_0.out)) hb)
                              have n7_ := Aside0.mk (below_step (by repeat (first | (with_reducible first | exact HB.out | apply below_alloc | apply pw_below_drewN | apply below_drew1) | exact HB.out)) hb)
                              clear HO_3
                              clear HO_7
                              clear HL212_0
                              clear HL217_0
                              clear HR212_0
                              clear HR217_0
                              clear HB
                              have HO_3 := n0_
                              have HO_7 := n1_
                              have HL212_0 := n2_
                              have HL217_0 := n3_
                              have HO216 := n4_
                              have HR212_0 := n5_
                              have HR217_0 := n6_
                              have HB := n7_
                              clear n0_ n1_ n2_ n3_ n4_ n5_ n6_ n7_
                              (try clear hb)
                              (try clear hb2)
                              (try clear hk)
                              (try clear hi)
                              (try clear ho0)
                              refine hK.out _ _ ⟨HS0_, HS1_, HS2_, HS3_, HS4_, HS5_⟩ (fun hHeld => ?_)
                              clear hK K
                              refine norm_ (a' := ?_) ?_ ?_
                              rotate_left
                              ·
                               show Act.put _ (some 186) _ = _
                               simp only [Act.put, List.setIfInBounds_toArray, List.set_cons_zero, List.set_cons_succ, i64_w, i32_w]
                               rfl
                              refine one_ (i := 19) (N := some 196) #[true, true, true, true, true, true, true, true, true, true, true, true, true, true, true, true, true, true, true, true, false] rfl rfl (one_of HT_.out (by kernel_rfl)) (by decide) (fun K hK => ?_)
                              refine goes_ Tryd.func30 (by kernel_rfl) rfl #[.slice Ao16 x3_1.length co16, .int .i64 (wrap64 ((rd_T29 (rd_L2 t165 x16_7) 0).f0))] (by rfl) rfl rfl (by (try simp only [List.map_toArray, List.map_cons, List.map_nil]); first | done | rfl | (simp only [List.length_drop, List.length_take]; rfl)) ?_
                              with_reducible refine (thistlelaw02_told.calls k7 _ _ x3_1 (wrap64 ((rd_T29 (rd_L2 t165 x16_7) 0).f0)) t219 _ ?side1 ?side2 A90.out).mono ?_
                              (case side1 => repeat (first | exact (Kd.S_reads' HO_3.out).2.2 | (with_reducible refine Kd.C_alloc ?_ _) | (with_reducible refine Kd.C_drewN ?_ _) | (with_reducible refine Kd.C_drew ?_)))
                              (case side2 => exact (Kd.S_reads' HO_3.out).2.1)
                              rintro e w95 ⟨v220, rfl, ho0, hb⟩
                              have HS0_ := (hb.cell (World.block_lt_of_cell? _ _ (hHeld.1))).trans (hHeld.1)
                              have HS1_ := (hb.cell (World.block_lt_of_cell? _ _ (hHeld.2.1))).trans (hHeld.2.1)
                              have HS2_ := (hb.cell (World.block_lt_of_cell? _ _ (hHeld.2.2.1))).trans (hHeld.2.2.1)
                              have HS3_ := (hb.cell (World.block_lt_of_cell? _ _ (hHeld.2.2.2.1))).trans (hHeld.2.2.2.1)
                              have HS4_ := (hb.cell (World.block_lt_of_cell? _ _ (hHeld.2.2.2.2.1))).trans (hHeld.2.2.2.2.1)
                              have HS5_ := (hb.cell (World.block_lt_of_cell? _ _ (hHeld.2.2.2.2.2))).trans (hHeld.2.2.2.2.2)
                              refine ⟨_, rfl, ?_⟩
                              have n0_ := Aside0.mk (Kd.S_below (by (with_reducible repeat (first | apply Kd.S_alloc | apply Kd.S_drewN | apply Kd.S_drew)); exact HO_3.out) hb)
                              have n1_ := Aside0.mk (Kd.S_below (by (with_reducible repeat (first | apply Kd.S_alloc | apply Kd.S_drewN | apply Kd.S_drew)); exact HO_7.out) hb)
                              have n2_ := Aside0.mk (Kd.R_below (by (with_reducible repeat (first | apply Kd.R_alloc | apply Kd.R_drewN | apply Kd.R_drew)); exact HL212_0.out) hb)
                              have n3_ := Aside0.mk (Kd.R_below (by (with_reducible repeat (first | apply Kd.R_alloc | apply Kd.R_drewN | apply Kd.R_drew)); exact HL217_0.out) hb)
                              have n4_ := Aside0.mk (Kd.R_elder' (by (with_reducible repeat (first | apply Kd.R_alloc | apply Kd.R_drewN | apply Kd.R_drew)); exact HO216.out) (Kd.R_base ho0) hb)
                              have n5_ := Aside0.mk (Kd.R_lower (Kd.R_new' ho0 (Kd.R_lt (by (with_reducible repeat (first | apply Kd.R_alloc | apply Kd.R_drewN | apply Kd.R_drew)); exact HO216.out))) (below_size (by repeat (first | (with_reducible first | exact HB.out | apply below_alloc | apply pw_below_drewN | apply below_drew1) | exact HB.out))))
                              have n6_ := Aside0.mk (Kd.C_below (by repeat (first | (with_reducible exact HR212_0.out) | (with_reducible refine Kd.C_alloc ?_ _) | (with_reducible refine Kd.C_drewN ?_ _) | (with_reducible refine Kd.C_drew ?_) | exact HR212_0.out)) hb)
                              have n7_ := Aside0.mk (Kd.C_below (by repeat (first | (with_reducible exact HR217_0.out) | (with_reducible refine Kd.C_alloc ?_ _) | (with_reducible refine Kd.C_drewN ?_ _) | (with_reducible refine Kd.C_drew ?_) | exact HR217_0.out)) hb)
                              have n8_ := Aside0.mk (below_step (by repeat (first | (with_reducible first | exact HB.out | apply below_alloc | apply pw_below_drewN | apply below_drew1) | exact HB.out)) hb)
                              clear HO_3
                              clear HO_7
                              clear HL212_0
                              clear HL217_0
                              clear HO216
                              clear HR212_0
                              clear HR217_0
                              clear HB
                              have HO_3 := n0_
                              have HO_7 := n1_
                              have HL212_0 := n2_
                              have HL217_0 := n3_
                              have HO216 := n4_
                              have HO221 := n5_
                              have HR212_0 := n6_
                              have HR217_0 := n7_
                              have HB := n8_
                              clear n0_ n1_ n2_ n3_ n4_ n5_ n6_ n7_ n8_
                              (try clear hb)
                              (try clear hb2)
                              (try clear hk)
                              (try clear hi)
                              (try clear ho0)
                              obtain ⟨Ao96, co96, eo96⟩ := Kd.R_slice HO216.out
                              (first | subst eo96 | (injection eo96 with f1_ f2_ f3_; have f4_ := f1_.symm; have f5_ := f3_.symm; clear f1_ f2_ f3_; subst f4_; subst f5_))
                              obtain ⟨Ao97, co97, eo97⟩ := Kd.R_slice HO221.out
                              (first | subst eo97 | (injection eo97 with f1_ f2_ f3_; have f4_ := f1_.symm; have f5_ := f3_.symm; clear f1_ f2_ f3_; subst f4_; subst f5_))
                              refine hK.out _ _ ⟨HS0_, HS1_, HS2_, HS3_, HS4_, HS5_⟩ (fun hHeld => ?_)
                              clear hK K
                              refine norm_ (a' := ?_) ?_ ?_
                              rotate_left
                              ·
                               show Act.put _ (some 196) _ = _
                               simp only [Act.put, List.setIfInBounds_toArray, List.set_cons_zero, List.set_cons_succ, i64_w, i32_w]
                               rfl
                              refine one_ (i := 20) (N := some 197) #[true, true, true, true, true, true, true, true, true, true, true, true, true, true, true, true, true, true, true, true, true] rfl rfl (one_of HT_.out (by kernel_rfl)) (by decide) (fun K hK => ?_)
                              refine goes_ Tryd.func29 (by kernel_rfl) rfl #[.slice Ao96 t214.length co96, .slice Ao97 t219.length co97] (by rfl) rfl rfl (by (try simp only [List.map_toArray, List.map_cons, List.map_nil]); first | done | rfl | (simp only [List.length_drop, List.length_take]; rfl)) ?_
                              with_reducible refine (thistlelaw02_alike.calls k7 _ _ t214 _ _ t219 false _ ?side1 ?side2 ?side3 ?side4 A91.out).mono ?_
                              (case side1 => repeat (first | exact (Kd.R_reads' HO216.out).2.2 | (with_reducible refine Kd.C_alloc ?_ _) | (with_reducible refine Kd.C_drewN ?_ _) | (with_reducible refine Kd.C_drew ?_)))
                              (case side2 => exact (Kd.R_reads' HO216.out).2.1)
                              (case side3 => repeat (first | exact (Kd.R_reads' HO221.out).2.2 | (with_reducible refine Kd.C_alloc ?_ _) | (with_reducible refine Kd.C_drewN ?_ _) | (with_reducible refine Kd.C_drew ?_)))
                              (case side4 => exact (Kd.R_reads' HO221.out).2.1)
                              rintro e w' ⟨rfl, ⟨nd, rfl⟩⟩
                              refine ⟨_, rfl, ?_⟩
                              refine hK.out _ _ ⟨hHeld.1, hHeld.2.1, hHeld.2.2.1, hHeld.2.2.2.1, hHeld.2.2.2.2.1, hHeld.2.2.2.2.2⟩ (fun hHeld => ?_)
                              clear hK K
                              refine norm_ (a' := ?_) ?_ ?_
                              rotate_left
                              ·
                               show Act.put _ (some 197) _ = _
                               simp only [Act.put, List.setIfInBounds_toArray, List.set_cons_zero, List.set_cons_succ, i64_w, i32_w]
                               rfl
                              refine done_ (done_of HT_.out (by kernel_rfl)) ?_
                              try go_wp2
                              go_roundg k7
                              case measure => have := HK1.out; have := HJ14.out; have := HK3.out; have := HK4.out; have := HK5.out; have := HK6.out; have := HK7.out; omega
                              case rel => exact ⟨(wrap64 (x16_7 + 1)), (by first | rfl | (simp; done) | (simp [*]; done)), H', ⟨by have := HK1.out; have := HJ14.out; have := HK3.out; have := HK4.out; have := HK5.out; have := HK6.out; have := HK7.out; omega⟩, ⟨by (with_reducible repeat (first | apply Kd.S_alloc | apply Kd.S_drewN | apply Kd.S_drew)); exact HO_3.out⟩, ⟨by (with_reducible repeat (first | apply Kd.S_alloc | apply Kd.S_drewN | apply Kd.S_drew)); exact HO_7.out⟩, ⟨by repeat (first | (with_reducible first | exact HB.out | apply below_alloc | apply pw_below_drewN | apply below_drew1) | exact HB.out)⟩⟩
                            ·
                             rw [if_neg c89] at H
                             exact absurd H (by simp)
                           ·
                            rw [if_neg c88] at H
                            exact absurd H (by simp)
                          ·
                           rw [if_neg c87] at H
                           exact absurd H (by simp)
                         ·
                          rw [if_neg c85] at H
                          exact absurd H (by simp)
                        ·
                         rw [if_neg c84] at H
                         exact absurd H (by simp)
                       ·
                        rw [if_neg c83] at H
                        exact absurd H (by simp)
                      ·
                       rw [if_neg c82] at H
                       have c82b0 : decide (x16_7 < x15_6) = false := decide_eq_false c82
                       clear c82
                       have H' := Aside0.mk H
                       clear H
                       go_wp2
                       go_roundg k7
                       case measure => have := HK1.out; have := HJ14.out; have := HK3.out; have := HK4.out; have := HK5.out; have := HK6.out; have := HK7.out; omega
                       case rel => exact ⟨(wrap64 (x15_6 + 1)), (by first | rfl | (simp; done) | (simp [*]; done)), H', ⟨by have := HK1.out; have := HJ14.out; have := HK3.out; have := HK4.out; have := HK5.out; have := HK6.out; have := HK7.out; omega⟩, ⟨by (with_reducible repeat (first | apply Kd.S_alloc | apply Kd.S_drewN | apply Kd.S_drew)); exact HO_3.out⟩, ⟨by (with_reducible repeat (first | apply Kd.S_alloc | apply Kd.S_drewN | apply Kd.S_drew)); exact HO_7.out⟩, ⟨by repeat (first | (with_reducible first | exact HB.out | apply below_alloc | apply pw_below_drewN | apply below_drew1) | exact HB.out)⟩⟩
                   ·
                    rw [if_neg c81] at H
                    have c81b0 : decide (x15_6 < (t165.length : Int)) = false := decide_eq_false c81
                    clear c81
                    obtain rfl := Option.some.inj H
                    go_wp2
                    go_ret
                    exact ⟨by first | rfl | (simp [errW_none, errW_some] <;> rfl) | (simp [*, errW_none, errW_some] <;> rfl), by repeat (first | (with_reducible first | exact HB.out | apply below_alloc | apply pw_below_drewN | apply below_drew1) | exact HB.out)⟩
 ·
  replace c3 := Bool.eq_false_iff.mpr c3
  subst c3
  have H1 : (some false) = some r := by rw [if_neg (show ¬ (false = true) by decide)] at H; exact H
  clear H
  have H := H1
  clear H1
  exact absurd (H.trans (congrArg some hrt.out)) (by simp)

end Go.Proofs.YtoggmegpodmfnaaDoor.PT
