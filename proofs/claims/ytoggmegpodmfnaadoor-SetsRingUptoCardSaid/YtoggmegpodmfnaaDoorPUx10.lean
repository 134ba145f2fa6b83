/- Contracts of functions that the law reaches: what each call answers, as a plain function of what it reads; on condition that the function answers there. Printed by this session's own tool. -/
import Derived.Test.YtoggmegpodmfnaaDoorPUx0
import Derived.Test.YtoggmegpodmfnaaDoorPUx3
import Derived.Test.YtoggmegpodmfnaaDoorPUx4
import Derived.Test.YtoggmegpodmfnaaDoorPUx5
import Derived.Test.YtoggmegpodmfnaaDoorPUx7
import Derived.Test.YtoggmegpodmfnaaDoorPUx9
namespace Go.Proofs.YtoggmegpodmfnaaDoor.PU
open Go.RowKit Go.Proofs.YtoggmegpodmfnaaDoor.B Go.Proofs.YtoggmegpodmfnaaDoorW.PrintWords Go.Proofs.YtoggmegpodmfnaaDoorW.PrintLast Go.Proofs.YtoggmegpodmfnaaDoorW.PrintMore
attribute [local go_sem] max2_int min2_int max_two min_two max_three min_three max_four min_four   -- for this text's walks alone
set_option linter.unusedVariables false
set_option linter.unusedSimpArgs false

/-! ### thistlelaw02_SetsRing: function 5 -/
mutual
def thistlelaw02_SetsRing.j0 : Nat → List (S29) → List (S29) → Bool → Option (Bool)
  | 0, _, _, _ => none
  | k + 1, x5, x7, x56 => if x56 = true then (some true) else ((sets_Or.f k x5 x7).bind fun bt1138 => ((sets_And.f k x5 x7).bind fun bt1142 => ((sets_Minus.f k x5 x7).bind fun bt1146 => ((sets_Not.f k x5).bind fun bt1150 => ((sets_Not.f k x7).bind fun bt1154 => ((sets_NotRunes.f k x5).bind fun bt1158 => (if bt1138.2 = 0 then (if bt1142.2 = 0 then (if bt1146.2 = 0 then (if bt1150.2 = 0 then (if bt1154.2 = 0 then (thistlelaw02_SetsRing.j1 k x5 x7 bt1138.1 bt1142.1 bt1146.1 bt1150.1 bt1154.1 bt1158.1 (bt1158.2 != 0)) else (thistlelaw02_SetsRing.j1 k x5 x7 bt1138.1 bt1142.1 bt1146.1 bt1150.1 bt1154.1 bt1158.1 true)) else (thistlelaw02_SetsRing.j1 k x5 x7 bt1138.1 bt1142.1 bt1146.1 bt1150.1 bt1154.1 bt1158.1 true)) else (thistlelaw02_SetsRing.j1 k x5 x7 bt1138.1 bt1142.1 bt1146.1 bt1150.1 bt1154.1 bt1158.1 true)) else (thistlelaw02_SetsRing.j1 k x5 x7 bt1138.1 bt1142.1 bt1146.1 bt1150.1 bt1154.1 bt1158.1 true)) else (thistlelaw02_SetsRing.j1 k x5 x7 bt1138.1 bt1142.1 bt1146.1 bt1150.1 bt1154.1 bt1158.1 true))))))))
def thistlelaw02_SetsRing.j1 : Nat → List (S29) → List (S29) → List (S29) → List (S29) → List (S29) → List (S29) → List (S29) → List (S29) → Bool → Option (Bool)
  | 0, _, _, _, _, _, _, _, _, _ => none
  | k + 1, x5, x7, x9, x11, x13, x15, x17, x19, x111 => if x111 = true then (some false) else ((thistlelaw02_sound.f k x9).bind fun t1162 => (if t1162 = true then ((thistlelaw02_sound.f k x11).bind fun t1163 => (if t1163 = true then ((thistlelaw02_sound.f k x13).bind fun t1164 => (if t1164 = true then ((thistlelaw02_sound.f k x15).bind fun t1165 => (if t1165 = true then ((thistlelaw02_sound.f k x19).bind fun t1166 => (thistlelaw02_SetsRing.j2 k x5 x7 x9 x11 x13 x15 x17 x19 (!t1166))) else (thistlelaw02_SetsRing.j2 k x5 x7 x9 x11 x13 x15 x17 x19 true))) else (thistlelaw02_SetsRing.j2 k x5 x7 x9 x11 x13 x15 x17 x19 true))) else (thistlelaw02_SetsRing.j2 k x5 x7 x9 x11 x13 x15 x17 x19 true))) else (thistlelaw02_SetsRing.j2 k x5 x7 x9 x11 x13 x15 x17 x19 true)))
def thistlelaw02_SetsRing.j2 : Nat → List (S29) → List (S29) → List (S29) → List (S29) → List (S29) → List (S29) → List (S29) → List (S29) → Bool → Option (Bool)
  | 0, _, _, _, _, _, _, _, _, _ => none
  | k + 1, x5, x7, x9, x11, x13, x15, x17, x19, x134 => if x134 = true then (some false) else ((thistlelaw02_ends.f k x5).bind fun t1167 => ((thistlelaw02_ends.f k x7).bind fun t1170 => (if t1167.length + t1170.length < 17592186044416 then (thistlelaw02_SetsRing.l0 k x5 x7 x9 x11 x13 x15 x17 x19 (t1167 ++ t1170) 0) else (none))))
def thistlelaw02_SetsRing.l0 : Nat → List (S29) → List (S29) → List (S29) → List (S29) → List (S29) → List (S29) → List (S29) → List (S29) → List Int → Int → Option (Bool)
  | 0, _, _, _, _, _, _, _, _, _, _ => none
  | k + 1, x5, x7, x9, x11, x13, x15, x17, x19, x21, x22 => if x22 < (x21.length : Int) then (if 0 ≤ x22 then ((thistlelaw02_holds.f k x5 (rd x21 x22)).bind fun t1177 => ((thistlelaw02_holds.f k x7 (rd x21 x22)).bind fun t1178 => ((thistlelaw02_within.f k x9 (rd x21 x22)).bind fun t1179 => (if t1177 = true then (if (t1179 != true) = true then (thistlelaw02_SetsRing.j4 k x5 x7 x9 x11 x13 x15 x17 x19 x21 x22 (rd x21 x22) t1177 true) else ((thistlelaw02_within.f k x11 (rd x21 x22)).bind fun t1180 => (if (t1180 != t1178) = true then (thistlelaw02_SetsRing.j4 k x5 x7 x9 x11 x13 x15 x17 x19 x21 x22 (rd x21 x22) t1177 true) else ((thistlelaw02_within.f k x13 (rd x21 x22)).bind fun t1181 => (thistlelaw02_SetsRing.j4 k x5 x7 x9 x11 x13 x15 x17 x19 x21 x22 (rd x21 x22) t1177 (t1181 != (!t1178))))))) else (if (t1179 != t1178) = true then (thistlelaw02_SetsRing.j4 k x5 x7 x9 x11 x13 x15 x17 x19 x21 x22 (rd x21 x22) t1177 true) else ((thistlelaw02_within.f k x11 (rd x21 x22)).bind fun t1182 => (if (t1182 != false) = true then (thistlelaw02_SetsRing.j4 k x5 x7 x9 x11 x13 x15 x17 x19 x21 x22 (rd x21 x22) t1177 true) else ((thistlelaw02_within.f k x13 (rd x21 x22)).bind fun t1183 => (thistlelaw02_SetsRing.j4 k x5 x7 x9 x11 x13 x15 x17 x19 x21 x22 (rd x21 x22) t1177 (t1183 != false)))))))))) else (none)) else ((sets_And.f k x15 x17).bind fun bt1190 => ((sets_Not.f k x9).bind fun bt1194 => ((sets_And.f k x5 x17).bind fun bt1198 => ((sets_Not.f k x15).bind fun bt1202 => (if bt1190.2 = 0 then (if bt1194.2 = 0 then (if bt1198.2 = 0 then (thistlelaw02_SetsRing.j5 k x5 x7 x9 x11 x13 x15 bt1190.1 bt1194.1 bt1198.1 bt1202.1 (bt1202.2 != 0)) else (thistlelaw02_SetsRing.j5 k x5 x7 x9 x11 x13 x15 bt1190.1 bt1194.1 bt1198.1 bt1202.1 true)) else (thistlelaw02_SetsRing.j5 k x5 x7 x9 x11 x13 x15 bt1190.1 bt1194.1 bt1198.1 bt1202.1 true)) else (thistlelaw02_SetsRing.j5 k x5 x7 x9 x11 x13 x15 bt1190.1 bt1194.1 bt1198.1 bt1202.1 true))))))
def thistlelaw02_SetsRing.j4 : Nat → List (S29) → List (S29) → List (S29) → List (S29) → List (S29) → List (S29) → List (S29) → List (S29) → List Int → Int → Int → Bool → Bool → Option (Bool)
  | 0, _, _, _, _, _, _, _, _, _, _, _, _, _ => none
  | k + 1, x5, x7, x9, x11, x13, x15, x17, x19, x21, x22, x23, x24, x185 => if x185 = true then (some false) else ((thistlelaw02_within.f k x15 x23).bind fun t1184 => ((thistlelaw02_unit.f x23).bind fun t1185 => (if t1185 = true then (if (t1184 != (!x24)) = true then (some false) else ((thistlelaw02_within.f k x19 x23).bind fun t1186 => ((thistlelaw02_unit.f x23).bind fun t1187 => (if t1187 = true then (if x23 ≤ 1114111 then (if (t1186 != (!x24)) = true then (some false) else (thistlelaw02_SetsRing.l0 k x5 x7 x9 x11 x13 x15 x17 x19 x21 (wrap64 (x22 + 1)))) else (if (t1186 != false) = true then (some false) else (thistlelaw02_SetsRing.l0 k x5 x7 x9 x11 x13 x15 x17 x19 x21 (wrap64 (x22 + 1))))) else (if (t1186 != false) = true then (some false) else (thistlelaw02_SetsRing.l0 k x5 x7 x9 x11 x13 x15 x17 x19 x21 (wrap64 (x22 + 1)))))))) else (if (t1184 != false) = true then (some false) else ((thistlelaw02_within.f k x19 x23).bind fun t1188 => ((thistlelaw02_unit.f x23).bind fun t1189 => (if t1189 = true then (if x23 ≤ 1114111 then (if (t1188 != (!x24)) = true then (some false) else (thistlelaw02_SetsRing.l0 k x5 x7 x9 x11 x13 x15 x17 x19 x21 (wrap64 (x22 + 1)))) else (if (t1188 != false) = true then (some false) else (thistlelaw02_SetsRing.l0 k x5 x7 x9 x11 x13 x15 x17 x19 x21 (wrap64 (x22 + 1))))) else (if (t1188 != false) = true then (some false) else (thistlelaw02_SetsRing.l0 k x5 x7 x9 x11 x13 x15 x17 x19 x21 (wrap64 (x22 + 1)))))))))))
def thistlelaw02_SetsRing.j5 : Nat → List (S29) → List (S29) → List (S29) → List (S29) → List (S29) → List (S29) → List (S29) → List (S29) → List (S29) → List (S29) → Bool → Option (Bool)
  | 0, _, _, _, _, _, _, _, _, _, _, _ => none
  | k + 1, x5, x7, x9, x11, x13, x15, x26, x27, x28, x29, x247 => if x247 = true then (some false) else ((thistleref02_SameRanges.f k x26 x27).bind fun t1206 => (if t1206 = true then ((thistleref02_SameRanges.f k x28 x13).bind fun t1207 => (if t1207 = true then ((thistleref02_SameRanges.f k x29 x5).bind fun t1208 => (thistlelaw02_SetsRing.j6 k x5 x7 x9 x11 x15 (!t1208))) else (thistlelaw02_SetsRing.j6 k x5 x7 x9 x11 x15 true))) else (thistlelaw02_SetsRing.j6 k x5 x7 x9 x11 x15 true)))
def thistlelaw02_SetsRing.j6 : Nat → List (S29) → List (S29) → List (S29) → List (S29) → List (S29) → Bool → Option (Bool)
  | 0, _, _, _, _, _, _ => none
  | k + 1, x5, x7, x9, x11, x15, x263 => if x263 = true then (some false) else ((sets_Size.f k x5).bind fun bt1209 => ((sets_Size.f k x7).bind fun bt1211 => ((sets_Size.f k x9).bind fun bt1213 => ((sets_Size.f k x11).bind fun bt1215 => ((sets_Size.f k x15).bind fun bt1217 => (if bt1217.2 = 0 then (if (wrap64 (bt1209.1 + bt1211.1)) = (wrap64 (bt1213.1 + bt1215.1)) then (some ((wrap64 (bt1209.1 + bt1217.1)) == 1112192)) else (some false)) else (some false)))))))
end
def thistlelaw02_SetsRing.f (k : Nat) (l0 : List (S29)) (l1 : List (S29)) : Option (Bool) := (thistlelaw02_wakes.f k).bind fun t1129 => (if t1129 = true then ((sets_Make.f k l0).bind fun bt1130 => ((sets_Make.f k l1).bind fun bt1134 => (if bt1130.2 = 0 then (thistlelaw02_SetsRing.j0 k bt1130.1 bt1134.1 (bt1134.2 != 0)) else (thistlelaw02_SetsRing.j0 k bt1130.1 bt1134.1 true)))) else (some false))
theorem thistlelaw02_SetsRing.mono_l : ∀ k, (∀ y0 y1 y2, LeO (thistlelaw02_SetsRing.j0 k y0 y1 y2) (thistlelaw02_SetsRing.j0 (k + 1) y0 y1 y2)) ∧ (∀ y0 y1 y2 y3 y4 y5 y6 y7 y8, LeO (thistlelaw02_SetsRing.j1 k y0 y1 y2 y3 y4 y5 y6 y7 y8) (thistlelaw02_SetsRing.j1 (k + 1) y0 y1 y2 y3 y4 y5 y6 y7 y8)) ∧ (∀ y0 y1 y2 y3 y4 y5 y6 y7 y8, LeO (thistlelaw02_SetsRing.j2 k y0 y1 y2 y3 y4 y5 y6 y7 y8) (thistlelaw02_SetsRing.j2 (k + 1) y0 y1 y2 y3 y4 y5 y6 y7 y8)) ∧ (∀ y0 y1 y2 y3 y4 y5 y6 y7 y8 y9, LeO (thistlelaw02_SetsRing.l0 k y0 y1 y2 y3 y4 y5 y6 y7 y8 y9) (thistlelaw02_SetsRing.l0 (k + 1) y0 y1 y2 y3 y4 y5 y6 y7 y8 y9)) ∧ (∀ y0 y1 y2 y3 y4 y5 y6 y7 y8 y9 y10 y11 y12, LeO (thistlelaw02_SetsRing.j4 k y0 y1 y2 y3 y4 y5 y6 y7 y8 y9 y10 y11 y12) (thistlelaw02_SetsRing.j4 (k + 1) y0 y1 y2 y3 y4 y5 y6 y7 y8 y9 y10 y11 y12)) ∧ (∀ y0 y1 y2 y3 y4 y5 y6 y7 y8 y9 y10, LeO (thistlelaw02_SetsRing.j5 k y0 y1 y2 y3 y4 y5 y6 y7 y8 y9 y10) (thistlelaw02_SetsRing.j5 (k + 1) y0 y1 y2 y3 y4 y5 y6 y7 y8 y9 y10)) ∧ (∀ y0 y1 y2 y3 y4 y5, LeO (thistlelaw02_SetsRing.j6 k y0 y1 y2 y3 y4 y5) (thistlelaw02_SetsRing.j6 (k + 1) y0 y1 y2 y3 y4 y5))
  | 0 => ⟨fun _ _ _ r h => by simp [thistlelaw02_SetsRing.j0] at h, fun _ _ _ _ _ _ _ _ _ r h => by simp [thistlelaw02_SetsRing.j1] at h, fun _ _ _ _ _ _ _ _ _ r h => by simp [thistlelaw02_SetsRing.j2] at h, fun _ _ _ _ _ _ _ _ _ _ r h => by simp [thistlelaw02_SetsRing.l0] at h, fun _ _ _ _ _ _ _ _ _ _ _ _ _ r h => by simp [thistlelaw02_SetsRing.j4] at h, fun _ _ _ _ _ _ _ _ _ _ _ r h => by simp [thistlelaw02_SetsRing.j5] at h, fun _ _ _ _ _ _ r h => by simp [thistlelaw02_SetsRing.j6] at h⟩
  | k + 1 => by
    obtain ⟨ih0, ih1, ih2, ih3, ih4, ih5, ih6⟩ := thistlelaw02_SetsRing.mono_l k
    refine ⟨?_, ?_, ?_, ?_, ?_, ?_, ?_⟩
    · intro y0 y1 y2
      unfold thistlelaw02_SetsRing.j0
      repeat' first
      | (with_reducible exact ih0 _ _ _)
      | (with_reducible exact ih1 _ _ _ _ _ _ _ _ _)
      | (with_reducible exact ih2 _ _ _ _ _ _ _ _ _)
      | (with_reducible exact ih3 _ _ _ _ _ _ _ _ _ _)
      | (with_reducible exact ih4 _ _ _ _ _ _ _ _ _ _ _ _ _)
      | (with_reducible exact ih5 _ _ _ _ _ _ _ _ _ _ _)
      | (with_reducible exact ih6 _ _ _ _ _ _)
      | (with_reducible exact sets_And.mono _ _ _)
      | (with_reducible exact sets_Make.mono _ _)
      | (with_reducible exact sets_Minus.mono _ _ _)
      | (with_reducible exact sets_Not.mono _ _)
      | (with_reducible exact sets_NotRunes.mono _ _)
      | (with_reducible exact sets_Or.mono _ _ _)
      | (with_reducible exact sets_Size.mono _ _)
      | (with_reducible exact thistlelaw02_ends.mono _ _)
      | (with_reducible exact thistlelaw02_holds.mono _ _ _)
      | (with_reducible exact thistlelaw02_sound.mono _ _)
      | (with_reducible exact thistlelaw02_wakes.mono _)
      | (with_reducible exact thistlelaw02_within.mono _ _ _)
      | (with_reducible exact thistleref02_SameRanges.mono _ _ _)
      | (with_reducible exact LeO.refl _)
      | (with_reducible exact LeO.none _)
      | (with_reducible refine LeO.ite ?_ ?_)
      | (with_reducible refine LeO.bind ?_ (fun _ => ?_))
      | exact ih0 _ _ _
      | exact ih1 _ _ _ _ _ _ _ _ _
      | exact ih2 _ _ _ _ _ _ _ _ _
      | exact ih3 _ _ _ _ _ _ _ _ _ _
      | exact ih4 _ _ _ _ _ _ _ _ _ _ _ _ _
      | exact ih5 _ _ _ _ _ _ _ _ _ _ _
      | exact ih6 _ _ _ _ _ _
      | exact sets_And.mono _ _ _
      | exact sets_Make.mono _ _
      | exact sets_Minus.mono _ _ _
      | exact sets_Not.mono _ _
      | exact sets_NotRunes.mono _ _
      | exact sets_Or.mono _ _ _
      | exact sets_Size.mono _ _
      | exact thistlelaw02_ends.mono _ _
      | exact thistlelaw02_holds.mono _ _ _
      | exact thistlelaw02_sound.mono _ _
      | exact thistlelaw02_wakes.mono _
      | exact thistlelaw02_within.mono _ _ _
      | exact thistleref02_SameRanges.mono _ _ _
      | exact LeO.none _
      | refine LeO.ite ?_ ?_
      | refine LeO.bind ?_ (fun _ => ?_)
    · intro y0 y1 y2 y3 y4 y5 y6 y7 y8
      unfold thistlelaw02_SetsRing.j1
      repeat' first
      | (with_reducible exact ih0 _ _ _)
      | (with_reducible exact ih1 _ _ _ _ _ _ _ _ _)
      | (with_reducible exact ih2 _ _ _ _ _ _ _ _ _)
      | (with_reducible exact ih3 _ _ _ _ _ _ _ _ _ _)
      | (with_reducible exact ih4 _ _ _ _ _ _ _ _ _ _ _ _ _)
      | (with_reducible exact ih5 _ _ _ _ _ _ _ _ _ _ _)
      | (with_reducible exact ih6 _ _ _ _ _ _)
      | (with_reducible exact sets_And.mono _ _ _)
      | (with_reducible exact sets_Make.mono _ _)
      | (with_reducible exact sets_Minus.mono _ _ _)
      | (with_reducible exact sets_Not.mono _ _)
      | (with_reducible exact sets_NotRunes.mono _ _)
      | (with_reducible exact sets_Or.mono _ _ _)
      | (with_reducible exact sets_Size.mono _ _)
      | (with_reducible exact thistlelaw02_ends.mono _ _)
      | (with_reducible exact thistlelaw02_holds.mono _ _ _)
      | (with_reducible exact thistlelaw02_sound.mono _ _)
      | (with_reducible exact thistlelaw02_wakes.mono _)
      | (with_reducible exact thistlelaw02_within.mono _ _ _)
      | (with_reducible exact thistleref02_SameRanges.mono _ _ _)
      | (with_reducible exact LeO.refl _)
      | (with_reducible exact LeO.none _)
      | (with_reducible refine LeO.ite ?_ ?_)
      | (with_reducible refine LeO.bind ?_ (fun _ => ?_))
      | exact ih0 _ _ _
      | exact ih1 _ _ _ _ _ _ _ _ _
      | exact ih2 _ _ _ _ _ _ _ _ _
      | exact ih3 _ _ _ _ _ _ _ _ _ _
      | exact ih4 _ _ _ _ _ _ _ _ _ _ _ _ _
      | exact ih5 _ _ _ _ _ _ _ _ _ _ _
      | exact ih6 _ _ _ _ _ _
      | exact sets_And.mono _ _ _
      | exact sets_Make.mono _ _
      | exact sets_Minus.mono _ _ _
      | exact sets_Not.mono _ _
      | exact sets_NotRunes.mono _ _
      | exact sets_Or.mono _ _ _
      | exact sets_Size.mono _ _
      | exact thistlelaw02_ends.mono _ _
      | exact thistlelaw02_holds.mono _ _ _
      | exact thistlelaw02_sound.mono _ _
      | exact thistlelaw02_wakes.mono _
      | exact thistlelaw02_within.mono _ _ _
      | exact thistleref02_SameRanges.mono _ _ _
      | exact LeO.none _
      | refine LeO.ite ?_ ?_
      | refine LeO.bind ?_ (fun _ => ?_)
    · intro y0 y1 y2 y3 y4 y5 y6 y7 y8
      unfold thistlelaw02_SetsRing.j2
      repeat' first
      | (with_reducible exact ih0 _ _ _)
      | (with_reducible exact ih1 _ _ _ _ _ _ _ _ _)
      | (with_reducible exact ih2 _ _ _ _ _ _ _ _ _)
      | (with_reducible exact ih3 _ _ _ _ _ _ _ _ _ _)
      | (with_reducible exact ih4 _ _ _ _ _ _ _ _ _ _ _ _ _)
      | (with_reducible exact ih5 _ _ _ _ _ _ _ _ _ _ _)
      | (with_reducible exact ih6 _ _ _ _ _ _)
      | (with_reducible exact sets_And.mono _ _ _)
      | (with_reducible exact sets_Make.mono _ _)
      | (with_reducible exact sets_Minus.mono _ _ _)
      | (with_reducible exact sets_Not.mono _ _)
      | (with_reducible exact sets_NotRunes.mono _ _)
      | (with_reducible exact sets_Or.mono _ _ _)
      | (with_reducible exact sets_Size.mono _ _)
      | (with_reducible exact thistlelaw02_ends.mono _ _)
      | (with_reducible exact thistlelaw02_holds.mono _ _ _)
      | (with_reducible exact thistlelaw02_sound.mono _ _)
      | (with_reducible exact thistlelaw02_wakes.mono _)
      | (with_reducible exact thistlelaw02_within.mono _ _ _)
      | (with_reducible exact thistleref02_SameRanges.mono _ _ _)
      | (with_reducible exact LeO.refl _)
      | (with_reducible exact LeO.none _)
      | (with_reducible refine LeO.ite ?_ ?_)
      | (with_reducible refine LeO.bind ?_ (fun _ => ?_))
      | exact ih0 _ _ _
      | exact ih1 _ _ _ _ _ _ _ _ _
      | exact ih2 _ _ _ _ _ _ _ _ _
      | exact ih3 _ _ _ _ _ _ _ _ _ _
      | exact ih4 _ _ _ _ _ _ _ _ _ _ _ _ _
      | exact ih5 _ _ _ _ _ _ _ _ _ _ _
      | exact ih6 _ _ _ _ _ _
      | exact sets_And.mono _ _ _
      | exact sets_Make.mono _ _
      | exact sets_Minus.mono _ _ _
      | exact sets_Not.mono _ _
      | exact sets_NotRunes.mono _ _
      | exact sets_Or.mono _ _ _
      | exact sets_Size.mono _ _
      | exact thistlelaw02_ends.mono _ _
      | exact thistlelaw02_holds.mono _ _ _
      | exact thistlelaw02_sound.mono _ _
      | exact thistlelaw02_wakes.mono _
      | exact thistlelaw02_within.mono _ _ _
      | exact thistleref02_SameRanges.mono _ _ _
      | exact LeO.none _
      | refine LeO.ite ?_ ?_
      | refine LeO.bind ?_ (fun _ => ?_)
    · intro y0 y1 y2 y3 y4 y5 y6 y7 y8 y9
      unfold thistlelaw02_SetsRing.l0
      repeat' first
      | (with_reducible exact ih0 _ _ _)
      | (with_reducible exact ih1 _ _ _ _ _ _ _ _ _)
      | (with_reducible exact ih2 _ _ _ _ _ _ _ _ _)
      | (with_reducible exact ih3 _ _ _ _ _ _ _ _ _ _)
      | (with_reducible exact ih4 _ _ _ _ _ _ _ _ _ _ _ _ _)
      | (with_reducible exact ih5 _ _ _ _ _ _ _ _ _ _ _)
      | (with_reducible exact ih6 _ _ _ _ _ _)
      | (with_reducible exact sets_And.mono _ _ _)
      | (with_reducible exact sets_Make.mono _ _)
      | (with_reducible exact sets_Minus.mono _ _ _)
      | (with_reducible exact sets_Not.mono _ _)
      | (with_reducible exact sets_NotRunes.mono _ _)
      | (with_reducible exact sets_Or.mono _ _ _)
      | (with_reducible exact sets_Size.mono _ _)
      | (with_reducible exact thistlelaw02_ends.mono _ _)
      | (with_reducible exact thistlelaw02_holds.mono _ _ _)
      | (with_reducible exact thistlelaw02_sound.mono _ _)
      | (with_reducible exact thistlelaw02_wakes.mono _)
      | (with_reducible exact thistlelaw02_within.mono _ _ _)
      | (with_reducible exact thistleref02_SameRanges.mono _ _ _)
      | (with_reducible exact LeO.refl _)
      | (with_reducible exact LeO.none _)
      | (with_reducible refine LeO.ite ?_ ?_)
      | (with_reducible refine LeO.bind ?_ (fun _ => ?_))
      | exact ih0 _ _ _
      | exact ih1 _ _ _ _ _ _ _ _ _
      | exact ih2 _ _ _ _ _ _ _ _ _
      | exact ih3 _ _ _ _ _ _ _ _ _ _
      | exact ih4 _ _ _ _ _ _ _ _ _ _ _ _ _
      | exact ih5 _ _ _ _ _ _ _ _ _ _ _
      | exact ih6 _ _ _ _ _ _
      | exact sets_And.mono _ _ _
      | exact sets_Make.mono _ _
      | exact sets_Minus.mono _ _ _
      | exact sets_Not.mono _ _
      | exact sets_NotRunes.mono _ _
      | exact sets_Or.mono _ _ _
      | exact sets_Size.mono _ _
      | exact thistlelaw02_ends.mono _ _
      | exact thistlelaw02_holds.mono _ _ _
      | exact thistlelaw02_sound.mono _ _
      | exact thistlelaw02_wakes.mono _
      | exact thistlelaw02_within.mono _ _ _
      | exact thistleref02_SameRanges.mono _ _ _
      | exact LeO.none _
      | refine LeO.ite ?_ ?_
      | refine LeO.bind ?_ (fun _ => ?_)
    · intro y0 y1 y2 y3 y4 y5 y6 y7 y8 y9 y10 y11 y12
      unfold thistlelaw02_SetsRing.j4
      repeat' first
      | (with_reducible exact ih0 _ _ _)
      | (with_reducible exact ih1 _ _ _ _ _ _ _ _ _)
      | (with_reducible exact ih2 _ _ _ _ _ _ _ _ _)
      | (with_reducible exact ih3 _ _ _ _ _ _ _ _ _ _)
      | (with_reducible exact ih4 _ _ _ _ _ _ _ _ _ _ _ _ _)
      | (with_reducible exact ih5 _ _ _ _ _ _ _ _ _ _ _)
      | (with_reducible exact ih6 _ _ _ _ _ _)
      | (with_reducible exact sets_And.mono _ _ _)
      | (with_reducible exact sets_Make.mono _ _)
      | (with_reducible exact sets_Minus.mono _ _ _)
      | (with_reducible exact sets_Not.mono _ _)
      | (with_reducible exact sets_NotRunes.mono _ _)
      | (with_reducible exact sets_Or.mono _ _ _)
      | (with_reducible exact sets_Size.mono _ _)
      | (with_reducible exact thistlelaw02_ends.mono _ _)
      | (with_reducible exact thistlelaw02_holds.mono _ _ _)
      | (with_reducible exact thistlelaw02_sound.mono _ _)
      | (with_reducible exact thistlelaw02_wakes.mono _)
      | (with_reducible exact thistlelaw02_within.mono _ _ _)
      | (with_reducible exact thistleref02_SameRanges.mono _ _ _)
      | (with_reducible exact LeO.refl _)
      | (with_reducible exact LeO.none _)
      | (with_reducible refine LeO.ite ?_ ?_)
      | (with_reducible refine LeO.bind ?_ (fun _ => ?_))
      | exact ih0 _ _ _
      | exact ih1 _ _ _ _ _ _ _ _ _
      | exact ih2 _ _ _ _ _ _ _ _ _
      | exact ih3 _ _ _ _ _ _ _ _ _ _
      | exact ih4 _ _ _ _ _ _ _ _ _ _ _ _ _
      | exact ih5 _ _ _ _ _ _ _ _ _ _ _
      | exact ih6 _ _ _ _ _ _
      | exact sets_And.mono _ _ _
      | exact sets_Make.mono _ _
      | exact sets_Minus.mono _ _ _
      | exact sets_Not.mono _ _
      | exact sets_NotRunes.mono _ _
      | exact sets_Or.mono _ _ _
      | exact sets_Size.mono _ _
      | exact thistlelaw02_ends.mono _ _
      | exact thistlelaw02_holds.mono _ _ _
      | exact thistlelaw02_sound.mono _ _
      | exact thistlelaw02_wakes.mono _
      | exact thistlelaw02_within.mono _ _ _
      | exact thistleref02_SameRanges.mono _ _ _
      | exact LeO.none _
      | refine LeO.ite ?_ ?_
      | refine LeO.bind ?_ (fun _ => ?_)
    · intro y0 y1 y2 y3 y4 y5 y6 y7 y8 y9 y10
      unfold thistlelaw02_SetsRing.j5
      repeat' first
      | (with_reducible exact ih0 _ _ _)
      | (with_reducible exact ih1 _ _ _ _ _ _ _ _ _)
      | (with_reducible exact ih2 _ _ _ _ _ _ _ _ _)
      | (with_reducible exact ih3 _ _ _ _ _ _ _ _ _ _)
      | (with_reducible exact ih4 _ _ _ _ _ _ _ _ _ _ _ _ _)
      | (with_reducible exact ih5 _ _ _ _ _ _ _ _ _ _ _)
      | (with_reducible exact ih6 _ _ _ _ _ _)
      | (with_reducible exact sets_And.mono _ _ _)
      | (with_reducible exact sets_Make.mono _ _)
      | (with_reducible exact sets_Minus.mono _ _ _)
      | (with_reducible exact sets_Not.mono _ _)
      | (with_reducible exact sets_NotRunes.mono _ _)
      | (with_reducible exact sets_Or.mono _ _ _)
      | (with_reducible exact sets_Size.mono _ _)
      | (with_reducible exact thistlelaw02_ends.mono _ _)
      | (with_reducible exact thistlelaw02_holds.mono _ _ _)
      | (with_reducible exact thistlelaw02_sound.mono _ _)
      | (with_reducible exact thistlelaw02_wakes.mono _)
      | (with_reducible exact thistlelaw02_within.mono _ _ _)
      | (with_reducible exact thistleref02_SameRanges.mono _ _ _)
      | (with_reducible exact LeO.refl _)
      | (with_reducible exact LeO.none _)
      | (with_reducible refine LeO.ite ?_ ?_)
      | (with_reducible refine LeO.bind ?_ (fun _ => ?_))
      | exact ih0 _ _ _
      | exact ih1 _ _ _ _ _ _ _ _ _
      | exact ih2 _ _ _ _ _ _ _ _ _
      | exact ih3 _ _ _ _ _ _ _ _ _ _
      | exact ih4 _ _ _ _ _ _ _ _ _ _ _ _ _
      | exact ih5 _ _ _ _ _ _ _ _ _ _ _
      | exact ih6 _ _ _ _ _ _
      | exact sets_And.mono _ _ _
      | exact sets_Make.mono _ _
      | exact sets_Minus.mono _ _ _
      | exact sets_Not.mono _ _
      | exact sets_NotRunes.mono _ _
      | exact sets_Or.mono _ _ _
      | exact sets_Size.mono _ _
      | exact thistlelaw02_ends.mono _ _
      | exact thistlelaw02_holds.mono _ _ _
      | exact thistlelaw02_sound.mono _ _
      | exact thistlelaw02_wakes.mono _
      | exact thistlelaw02_within.mono _ _ _
      | exact thistleref02_SameRanges.mono _ _ _
      | exact LeO.none _
      | refine LeO.ite ?_ ?_
      | refine LeO.bind ?_ (fun _ => ?_)
    · intro y0 y1 y2 y3 y4 y5
      unfold thistlelaw02_SetsRing.j6
      repeat' first
      | (with_reducible exact ih0 _ _ _)
      | (with_reducible exact ih1 _ _ _ _ _ _ _ _ _)
      | (with_reducible exact ih2 _ _ _ _ _ _ _ _ _)
      | (with_reducible exact ih3 _ _ _ _ _ _ _ _ _ _)
      | (with_reducible exact ih4 _ _ _ _ _ _ _ _ _ _ _ _ _)
      | (with_reducible exact ih5 _ _ _ _ _ _ _ _ _ _ _)
      | (with_reducible exact ih6 _ _ _ _ _ _)
      | (with_reducible exact sets_And.mono _ _ _)
      | (with_reducible exact sets_Make.mono _ _)
      | (with_reducible exact sets_Minus.mono _ _ _)
      | (with_reducible exact sets_Not.mono _ _)
      | (with_reducible exact sets_NotRunes.mono _ _)
      | (with_reducible exact sets_Or.mono _ _ _)
      | (with_reducible exact sets_Size.mono _ _)
      | (with_reducible exact thistlelaw02_ends.mono _ _)
      | (with_reducible exact thistlelaw02_holds.mono _ _ _)
      | (with_reducible exact thistlelaw02_sound.mono _ _)
      | (with_reducible exact thistlelaw02_wakes.mono _)
      | (with_reducible exact thistlelaw02_within.mono _ _ _)
      | (with_reducible exact thistleref02_SameRanges.mono _ _ _)
      | (with_reducible exact LeO.refl _)
      | (with_reducible exact LeO.none _)
      | (with_reducible refine LeO.ite ?_ ?_)
      | (with_reducible refine LeO.bind ?_ (fun _ => ?_))
      | exact ih0 _ _ _
      | exact ih1 _ _ _ _ _ _ _ _ _
      | exact ih2 _ _ _ _ _ _ _ _ _
      | exact ih3 _ _ _ _ _ _ _ _ _ _
      | exact ih4 _ _ _ _ _ _ _ _ _ _ _ _ _
      | exact ih5 _ _ _ _ _ _ _ _ _ _ _
      | exact ih6 _ _ _ _ _ _
      | exact sets_And.mono _ _ _
      | exact sets_Make.mono _ _
      | exact sets_Minus.mono _ _ _
      | exact sets_Not.mono _ _
      | exact sets_NotRunes.mono _ _
      | exact sets_Or.mono _ _ _
      | exact sets_Size.mono _ _
      | exact thistlelaw02_ends.mono _ _
      | exact thistlelaw02_holds.mono _ _ _
      | exact thistlelaw02_sound.mono _ _
      | exact thistlelaw02_wakes.mono _
      | exact thistlelaw02_within.mono _ _ _
      | exact thistleref02_SameRanges.mono _ _ _
      | exact LeO.none _
      | refine LeO.ite ?_ ?_
      | refine LeO.bind ?_ (fun _ => ?_)
theorem thistlelaw02_SetsRing.mono : ∀ a0 a1 k, LeO (thistlelaw02_SetsRing.f k a0 a1) (thistlelaw02_SetsRing.f (k + 1) a0 a1) := by
  intro a0 a1 k
  obtain ⟨ih0, ih1, ih2, ih3, ih4, ih5, ih6⟩ := thistlelaw02_SetsRing.mono_l k
  unfold thistlelaw02_SetsRing.f
  repeat' first
      | (with_reducible exact ih0 _ _ _)
      | (with_reducible exact ih1 _ _ _ _ _ _ _ _ _)
      | (with_reducible exact ih2 _ _ _ _ _ _ _ _ _)
      | (with_reducible exact ih3 _ _ _ _ _ _ _ _ _ _)
      | (with_reducible exact ih4 _ _ _ _ _ _ _ _ _ _ _ _ _)
      | (with_reducible exact ih5 _ _ _ _ _ _ _ _ _ _ _)
      | (with_reducible exact ih6 _ _ _ _ _ _)
      | (with_reducible exact sets_And.mono _ _ _)
      | (with_reducible exact sets_Make.mono _ _)
      | (with_reducible exact sets_Minus.mono _ _ _)
      | (with_reducible exact sets_Not.mono _ _)
      | (with_reducible exact sets_NotRunes.mono _ _)
      | (with_reducible exact sets_Or.mono _ _ _)
      | (with_reducible exact sets_Size.mono _ _)
      | (with_reducible exact thistlelaw02_ends.mono _ _)
      | (with_reducible exact thistlelaw02_holds.mono _ _ _)
      | (with_reducible exact thistlelaw02_sound.mono _ _)
      | (with_reducible exact thistlelaw02_wakes.mono _)
      | (with_reducible exact thistlelaw02_within.mono _ _ _)
      | (with_reducible exact thistleref02_SameRanges.mono _ _ _)
      | (with_reducible exact LeO.refl _)
      | (with_reducible exact LeO.none _)
      | (with_reducible refine LeO.ite ?_ ?_)
      | (with_reducible refine LeO.bind ?_ (fun _ => ?_))
      | exact ih0 _ _ _
      | exact ih1 _ _ _ _ _ _ _ _ _
      | exact ih2 _ _ _ _ _ _ _ _ _
      | exact ih3 _ _ _ _ _ _ _ _ _ _
      | exact ih4 _ _ _ _ _ _ _ _ _ _ _ _ _
      | exact ih5 _ _ _ _ _ _ _ _ _ _ _
      | exact ih6 _ _ _ _ _ _
      | exact sets_And.mono _ _ _
      | exact sets_Make.mono _ _
      | exact sets_Minus.mono _ _ _
      | exact sets_Not.mono _ _
      | exact sets_NotRunes.mono _ _
      | exact sets_Or.mono _ _ _
      | exact sets_Size.mono _ _
      | exact thistlelaw02_ends.mono _ _
      | exact thistlelaw02_holds.mono _ _ _
      | exact thistlelaw02_sound.mono _ _
      | exact thistlelaw02_wakes.mono _
      | exact thistlelaw02_within.mono _ _ _
      | exact thistleref02_SameRanges.mono _ _ _
      | exact LeO.none _
      | refine LeO.ite ?_ ?_
      | refine LeO.bind ?_ (fun _ => ?_)
set_option maxHeartbeats 8000000 in
set_option maxRecDepth 100000 in
theorem thistlelaw02_SetsRing.calls (k : Nat) (A0 : Option Addr) (c0 : Nat) (l0 : List (S29)) (A1 : Option Addr) (c1 : Nat) (l1 : List (S29)) (r : Bool) (w : World) (hr0 : Kd.C k29 w A0 l0.length l0) (hc0 : l0.length ≤ c0) (hr1 : Kd.C k29 w A1 l1.length l1) (hc1 : l1.length ≤ c1) (hG : Glob w) (hrt : Aside0 (r = true)) (h : thistlelaw02_SetsRing.f k l0 l1 = some r) :
    Calls Tryd.prog 5 #[.slice A0 l0.length c0, .slice A1 l1.length c1] w fun e w' => e = .returned (.bool r) ∧ Below w.heap.size w w' := by
  have HR0 := Aside0.mk hr0
  have HC0 := Aside0.mk hc0
  clear hr0 hc0
  have HR1 := Aside0.mk hr1
  have HC1 := Aside0.mk hc1
  clear hr1 hc1
  have HB := Aside0.mk (Below.refl w.heap.size w)
  have H : ((thistlelaw02_wakes.f k).bind fun t1129 => (if t1129 = true then ((sets_Make.f k l0).bind fun bt1130 => ((sets_Make.f k l1).bind fun bt1134 => (if bt1130.2 = 0 then (thistlelaw02_SetsRing.j0 k bt1130.1 bt1134.1 (bt1134.2 != 0)) else (thistlelaw02_SetsRing.j0 k bt1130.1 bt1134.1 true)))) else (some false))) = some r := h
  clear h
  replace H := Option.bind_eq_some_iff.mp H
  obtain ⟨t1129, A6030, H⟩ := H
  replace H : (if t1129 = true then ((sets_Make.f k l0).bind fun bt1130 => ((sets_Make.f k l1).bind fun bt1134 => (if bt1130.2 = 0 then (thistlelaw02_SetsRing.j0 k bt1130.1 bt1134.1 (bt1134.2 != 0)) else (thistlelaw02_SetsRing.j0 k bt1130.1 bt1134.1 true)))) else (some false)) = some r := H
  have A603 := Aside0.mk A6030
  clear A6030
  by_cases c604 : t1129 = true
  · subst c604
    have H1 : ((sets_Make.f k l0).bind fun bt1130 => ((sets_Make.f k l1).bind fun bt1134 => (if bt1130.2 = 0 then (thistlelaw02_SetsRing.j0 k bt1130.1 bt1134.1 (bt1134.2 != 0)) else (thistlelaw02_SetsRing.j0 k bt1130.1 bt1134.1 true)))) = some r := by rw [if_pos rfl] at H; exact H
    clear H
    have H := H1
    clear H1
    replace H := Option.bind_eq_some_iff.mp H
    obtain ⟨⟨t1130, t1131⟩, A6050, H⟩ := H
    replace H : ((sets_Make.f k l1).bind fun bt1134 => (if t1131 = 0 then (thistlelaw02_SetsRing.j0 k t1130 bt1134.1 (bt1134.2 != 0)) else (thistlelaw02_SetsRing.j0 k t1130 bt1134.1 true))) = some r := H
    have A605 := Aside0.mk A6050
    clear A6050
    replace H := Option.bind_eq_some_iff.mp H
    obtain ⟨⟨t1134, t1135⟩, A6060, H⟩ := H
    replace H : (if t1131 = 0 then (thistlelaw02_SetsRing.j0 k t1130 t1134 (t1135 != 0)) else (thistlelaw02_SetsRing.j0 k t1130 t1134 true)) = some r := H
    have A606 := Aside0.mk A6060
    clear A6060
    have HC607 := Aside0.mk H
    clear H
    go_enter Tryd.func5, Tryd.ntmps5
    go_upto_region 5 with (first | ((with_reducible refine gate_callee (f := 8) rfl ?_); refine goesL_ (some 39) rfl rfl Tryd.func8 (by kernel_rfl) rfl #[] rfl (by (try simp only [List.map_toArray, List.map_cons, List.map_nil]); first | done | rfl | (simp only [List.length_drop, List.length_take]; rfl)) ?_; (with_reducible refine (thistlelaw02_wakes.calls k  true _ ?side1 A603.out).mono ?_); (case side1 => first | exact hG | exact Glob.of_below hG (by repeat (first | (with_reducible first | exact HB.out | apply below_alloc | apply pw_below_drewN | apply below_drew1) | exact HB.out)) | exact Glob.of_below hG HB.out | exact Glob.drewN hG _ | exact Glob.drew hG | (with_reducible repeat (first | exact hG | apply Glob.drewN | apply Glob.drew | apply Glob.alloc))); rintro e w608 ⟨rfl, hb⟩; refine ⟨_, rfl, ?_⟩; have n0_ := Aside0.mk (below_step (by repeat (first | (with_reducible first | exact HB.out | apply below_alloc | apply pw_below_drewN | apply below_drew1) | exact HB.out)) hb); clear HB; have HB := n0_; clear n0_; (try clear hb); (try clear hb2); (try clear hk); (try clear hi)) | ((with_reducible refine gate_callee (f := 9) rfl ?_); refine goesL_ (some 43) rfl rfl Tryd.func9 (by kernel_rfl) rfl #[.slice A0 l0.length c0] rfl (by (try simp only [List.map_toArray, List.map_cons, List.map_nil]); first | done | rfl | (simp only [List.length_drop, List.length_take]; rfl)) ?_; (with_reducible refine (sets_Make.calls k _ _ l0 t1130 t1131 _ ?side1 ?side2 ?side3 A605.out).mono ?_); (case side1 => repeat (first | exact (Kd.C_below HR0.out HB.out) | (with_reducible refine Kd.C_alloc ?_ _) | (with_reducible refine Kd.C_drewN ?_ _) | (with_reducible refine Kd.C_drew ?_))); (case side2 => exact HC0.out); (case side3 => first | exact hG | exact Glob.of_below hG (by repeat (first | (with_reducible first | exact HB.out | apply below_alloc | apply pw_below_drewN | apply below_drew1) | exact HB.out)) | exact Glob.of_below hG HB.out | exact Glob.drewN hG _ | exact Glob.drew hG | (with_reducible repeat (first | exact hG | apply Glob.drewN | apply Glob.drew | apply Glob.alloc))); rintro e w609 ⟨v1132, rfl, ho0, hb⟩; refine ⟨_, rfl, ?_⟩; have n0_ := Aside0.mk (Kd.R_lower ho0 (below_size (by repeat (first | (with_reducible first | exact HB.out | apply below_alloc | apply pw_below_drewN | apply below_drew1) | exact HB.out)))); have n1_ := Aside0.mk (below_step (by repeat (first | (with_reducible first | exact HB.out | apply below_alloc | apply pw_below_drewN | apply below_drew1) | exact HB.out)) hb); clear HB; have HO1133 := n0_; have HB := n1_; clear n0_ n1_; (try clear hb); (try clear hb2); (try clear hk); (try clear hi); (try clear ho0)) | ((with_reducible refine gate_callee (f := 9) rfl ?_); refine goesL_ (some 48) rfl rfl Tryd.func9 (by kernel_rfl) rfl #[.slice A1 l1.length c1] rfl (by (try simp only [List.map_toArray, List.map_cons, List.map_nil]); first | done | rfl | (simp only [List.length_drop, List.length_take]; rfl)) ?_; (with_reducible refine (sets_Make.calls k _ _ l1 t1134 t1135 _ ?side1 ?side2 ?side3 A606.out).mono ?_); (case side1 => repeat (first | exact (Kd.C_below HR1.out HB.out) | (with_reducible refine Kd.C_alloc ?_ _) | (with_reducible refine Kd.C_drewN ?_ _) | (with_reducible refine Kd.C_drew ?_))); (case side2 => exact HC1.out); (case side3 => first | exact hG | exact Glob.of_below hG (by repeat (first | (with_reducible first | exact HB.out | apply below_alloc | apply pw_below_drewN | apply below_drew1) | exact HB.out)) | exact Glob.of_below hG HB.out | exact Glob.drewN hG _ | exact Glob.drew hG | (with_reducible repeat (first | exact hG | apply Glob.drewN | apply Glob.drew | apply Glob.alloc))); rintro e w610 ⟨v1136, rfl, ho0, hb⟩; refine ⟨_, rfl, ?_⟩; have n0_ := Aside0.mk (Kd.R_elder' (by (with_reducible repeat (first | apply Kd.R_alloc | apply Kd.R_drewN | apply Kd.R_drew)); exact HO1133.out) (Kd.R_base ho0) hb); have n1_ := Aside0.mk (Kd.R_lower (Kd.R_new' ho0 (Kd.R_lt (by (with_reducible repeat (first | apply Kd.R_alloc | apply Kd.R_drewN | apply Kd.R_drew)); exact HO1133.out))) (below_size (by repeat (first | (with_reducible first | exact HB.out | apply below_alloc | apply pw_below_drewN | apply below_drew1) | exact HB.out)))); have n2_ := Aside0.mk (below_step (by repeat (first | (with_reducible first | exact HB.out | apply below_alloc | apply pw_below_drewN | apply below_drew1) | exact HB.out)) hb); clear HO1133; clear HB; have HO1133 := n0_; have HO1137 := n1_; have HB := n2_; clear n0_ n1_ n2_; (try clear hb); (try clear hb2); (try clear hk); (try clear hi); (try clear ho0)))
    (try simp only [Act.put, List.setIfInBounds_toArray, List.set_cons_zero, List.set_cons_succ])
    go_cut [56] (fun v56 wc => ∃ (kq : Nat) (x56_606 : Bool), v56 = .bool x56_606 ∧ Aside0 (thistlelaw02_SetsRing.j0 kq t1130 t1134 x56_606 = some r) ∧ Aside0 (kq ≤ k) ∧ Aside0 (Kd.R k29 29 wc w.heap.size (fun k_ => some k_ ≠ (v1136 : Value).ownBlock) v1132 t1130) ∧ Aside0 (Kd.R k29 29 wc w.heap.size (fun k_ => some k_ ≠ (v1132 : Value).ownBlock) v1136 t1134) ∧ Aside0 (Below w.heap.size w wc))
    case first =>
      as_aux_lemma =>
        have H := HC607.out
        clear HC607
        by_cases c611 : t1131 = 0
        · rw [if_pos c611] at H
          have c611b0 : (t1131 == 0) = true := beq_iff_eq.mpr c611
          have c611b1 : (t1131 != 0) = false := bne_eq_false_iff_eq.mpr c611
          clear c611
          (first | rw [c611b0] | (simp only [i64_w, i32_w]; rw [c611b0]) | skip)
          as_aux_lemma =>
            have H' := Aside0.mk H
            clear H
            go_wp2
            go_meet
            case rel => exact ⟨_, ((t1135 != 0)), (by first | rfl | (simp; done) | (simp [*]; done)), H', ⟨by first | omega | exact Nat.le_refl _⟩, ⟨by (with_reducible repeat (first | apply Kd.R_alloc | apply Kd.R_drewN | apply Kd.R_drew)); exact Kd.R_mono HO1133.out (fun _ hk => hk.2)⟩, ⟨by (with_reducible repeat (first | apply Kd.R_alloc | apply Kd.R_drewN | apply Kd.R_drew)); exact Kd.R_mono HO1137.out (fun _ hk => hk.2)⟩, ⟨by repeat (first | (with_reducible first | exact HB.out | apply below_alloc | apply pw_below_drewN | apply below_drew1) | exact HB.out)⟩⟩
        · rw [if_neg c611] at H
          have c611b0 : (t1131 == 0) = false := beq_eq_false_iff_ne.mpr c611
          have c611b1 : (t1131 != 0) = true := bne_iff_ne.mpr c611
          (first | rw [c611b0] | (simp only [i64_w, i32_w]; rw [c611b0]) | skip)
          as_aux_lemma =>
            have H' := Aside0.mk H
            clear H
            go_wp2
            go_meet
            case rel => exact ⟨_, (true), (by first | rfl | (simp; done) | (simp [*]; done)), H', ⟨by first | omega | exact Nat.le_refl _⟩, ⟨by (with_reducible repeat (first | apply Kd.R_alloc | apply Kd.R_drewN | apply Kd.R_drew)); exact Kd.R_mono HO1133.out (fun _ hk => hk.2)⟩, ⟨by (with_reducible repeat (first | apply Kd.R_alloc | apply Kd.R_drewN | apply Kd.R_drew)); exact Kd.R_mono HO1137.out (fun _ hk => hk.2)⟩, ⟨by repeat (first | (with_reducible first | exact HB.out | apply below_alloc | apply pw_below_drewN | apply below_drew1) | exact HB.out)⟩⟩
    case rest =>
      as_aux_lemma =>
        clear HC607
        (try clear c1); (try clear p2); (try clear c5); (try clear c6); (try clear c8); (try clear c9); (try clear c60); (try clear c61); (try clear c604); (try clear c611); (try clear c611b0); (try clear c611b1)
        obtain ⟨kq, x56_606, rfl, HA, HJ606, HO_5, HO_7, HB⟩ := hcut
        cases kq with
        | zero => exact absurd HA.out (by simp [thistlelaw02_SetsRing.j0])
        | succ kj606 =>
          have H := HA.out
          clear HA
          simp only [thistlelaw02_SetsRing.j0] at H
          by_cases c612 : x56_606 = true
          · subst c612
            have H1 : (some true) = some r := by rw [if_pos rfl] at H; exact H
            clear H
            have H := H1
            clear H1
            as_aux_lemma =>
              obtain rfl := Option.some.inj H
              go_wp2
              go_ret
              exact ⟨by first | rfl | (simp [errW_none, errW_some] <;> rfl) | (simp [*, errW_none, errW_some] <;> rfl), by repeat (first | (with_reducible first | exact HB.out | apply below_alloc | apply pw_below_drewN | apply below_drew1) | exact HB.out)⟩
          · replace c612 := Bool.eq_false_iff.mpr c612
            subst c612
            have H1 : ((sets_Or.f kj606 t1130 t1134).bind fun bt1138 => ((sets_And.f kj606 t1130 t1134).bind fun bt1142 => ((sets_Minus.f kj606 t1130 t1134).bind fun bt1146 => ((sets_Not.f kj606 t1130).bind fun bt1150 => ((sets_Not.f kj606 t1134).bind fun bt1154 => ((sets_NotRunes.f kj606 t1130).bind fun bt1158 => (if bt1138.2 = 0 then (if bt1142.2 = 0 then (if bt1146.2 = 0 then (if bt1150.2 = 0 then (if bt1154.2 = 0 then (thistlelaw02_SetsRing.j1 kj606 t1130 t1134 bt1138.1 bt1142.1 bt1146.1 bt1150.1 bt1154.1 bt1158.1 (bt1158.2 != 0)) else (thistlelaw02_SetsRing.j1 kj606 t1130 t1134 bt1138.1 bt1142.1 bt1146.1 bt1150.1 bt1154.1 bt1158.1 true)) else (thistlelaw02_SetsRing.j1 kj606 t1130 t1134 bt1138.1 bt1142.1 bt1146.1 bt1150.1 bt1154.1 bt1158.1 true)) else (thistlelaw02_SetsRing.j1 kj606 t1130 t1134 bt1138.1 bt1142.1 bt1146.1 bt1150.1 bt1154.1 bt1158.1 true)) else (thistlelaw02_SetsRing.j1 kj606 t1130 t1134 bt1138.1 bt1142.1 bt1146.1 bt1150.1 bt1154.1 bt1158.1 true)) else (thistlelaw02_SetsRing.j1 kj606 t1130 t1134 bt1138.1 bt1142.1 bt1146.1 bt1150.1 bt1154.1 bt1158.1 true)))))))) = some r := by rw [if_neg (show ¬ (false = true) by decide)] at H; exact H
            clear H
            have H := H1
            clear H1
            replace H := Option.bind_eq_some_iff.mp H
            obtain ⟨⟨t1138, t1141⟩, A6130, H⟩ := H
            replace H : ((sets_And.f kj606 t1130 t1134).bind fun bt1142 => ((sets_Minus.f kj606 t1130 t1134).bind fun bt1146 => ((sets_Not.f kj606 t1130).bind fun bt1150 => ((sets_Not.f kj606 t1134).bind fun bt1154 => ((sets_NotRunes.f kj606 t1130).bind fun bt1158 => (if t1141 = 0 then (if bt1142.2 = 0 then (if bt1146.2 = 0 then (if bt1150.2 = 0 then (if bt1154.2 = 0 then (thistlelaw02_SetsRing.j1 kj606 t1130 t1134 t1138 bt1142.1 bt1146.1 bt1150.1 bt1154.1 bt1158.1 (bt1158.2 != 0)) else (thistlelaw02_SetsRing.j1 kj606 t1130 t1134 t1138 bt1142.1 bt1146.1 bt1150.1 bt1154.1 bt1158.1 true)) else (thistlelaw02_SetsRing.j1 kj606 t1130 t1134 t1138 bt1142.1 bt1146.1 bt1150.1 bt1154.1 bt1158.1 true)) else (thistlelaw02_SetsRing.j1 kj606 t1130 t1134 t1138 bt1142.1 bt1146.1 bt1150.1 bt1154.1 bt1158.1 true)) else (thistlelaw02_SetsRing.j1 kj606 t1130 t1134 t1138 bt1142.1 bt1146.1 bt1150.1 bt1154.1 bt1158.1 true)) else (thistlelaw02_SetsRing.j1 kj606 t1130 t1134 t1138 bt1142.1 bt1146.1 bt1150.1 bt1154.1 bt1158.1 true))))))) = some r := H
            have A613 := Aside0.mk A6130
            clear A6130
            replace H := Option.bind_eq_some_iff.mp H
            obtain ⟨⟨t1142, t1143⟩, A6140, H⟩ := H
            replace H : ((sets_Minus.f kj606 t1130 t1134).bind fun bt1146 => ((sets_Not.f kj606 t1130).bind fun bt1150 => ((sets_Not.f kj606 t1134).bind fun bt1154 => ((sets_NotRunes.f kj606 t1130).bind fun bt1158 => (if t1141 = 0 then (if t1143 = 0 then (if bt1146.2 = 0 then (if bt1150.2 = 0 then (if bt1154.2 = 0 then (thistlelaw02_SetsRing.j1 kj606 t1130 t1134 t1138 t1142 bt1146.1 bt1150.1 bt1154.1 bt1158.1 (bt1158.2 != 0)) else (thistlelaw02_SetsRing.j1 kj606 t1130 t1134 t1138 t1142 bt1146.1 bt1150.1 bt1154.1 bt1158.1 true)) else (thistlelaw02_SetsRing.j1 kj606 t1130 t1134 t1138 t1142 bt1146.1 bt1150.1 bt1154.1 bt1158.1 true)) else (thistlelaw02_SetsRing.j1 kj606 t1130 t1134 t1138 t1142 bt1146.1 bt1150.1 bt1154.1 bt1158.1 true)) else (thistlelaw02_SetsRing.j1 kj606 t1130 t1134 t1138 t1142 bt1146.1 bt1150.1 bt1154.1 bt1158.1 true)) else (thistlelaw02_SetsRing.j1 kj606 t1130 t1134 t1138 t1142 bt1146.1 bt1150.1 bt1154.1 bt1158.1 true)))))) = some r := H
            have A614 := Aside0.mk A6140
            clear A6140
            replace H := Option.bind_eq_some_iff.mp H
            obtain ⟨⟨t1146, t1149⟩, A6150, H⟩ := H
            replace H : ((sets_Not.f kj606 t1130).bind fun bt1150 => ((sets_Not.f kj606 t1134).bind fun bt1154 => ((sets_NotRunes.f kj606 t1130).bind fun bt1158 => (if t1141 = 0 then (if t1143 = 0 then (if t1149 = 0 then (if bt1150.2 = 0 then (if bt1154.2 = 0 then (thistlelaw02_SetsRing.j1 kj606 t1130 t1134 t1138 t1142 t1146 bt1150.1 bt1154.1 bt1158.1 (bt1158.2 != 0)) else (thistlelaw02_SetsRing.j1 kj606 t1130 t1134 t1138 t1142 t1146 bt1150.1 bt1154.1 bt1158.1 true)) else (thistlelaw02_SetsRing.j1 kj606 t1130 t1134 t1138 t1142 t1146 bt1150.1 bt1154.1 bt1158.1 true)) else (thistlelaw02_SetsRing.j1 kj606 t1130 t1134 t1138 t1142 t1146 bt1150.1 bt1154.1 bt1158.1 true)) else (thistlelaw02_SetsRing.j1 kj606 t1130 t1134 t1138 t1142 t1146 bt1150.1 bt1154.1 bt1158.1 true)) else (thistlelaw02_SetsRing.j1 kj606 t1130 t1134 t1138 t1142 t1146 bt1150.1 bt1154.1 bt1158.1 true))))) = some r := H
            have A615 := Aside0.mk A6150
            clear A6150
            replace H := Option.bind_eq_some_iff.mp H
            obtain ⟨⟨t1150, t1151⟩, A6160, H⟩ := H
            replace H : ((sets_Not.f kj606 t1134).bind fun bt1154 => ((sets_NotRunes.f kj606 t1130).bind fun bt1158 => (if t1141 = 0 then (if t1143 = 0 then (if t1149 = 0 then (if t1151 = 0 then (if bt1154.2 = 0 then (thistlelaw02_SetsRing.j1 kj606 t1130 t1134 t1138 t1142 t1146 t1150 bt1154.1 bt1158.1 (bt1158.2 != 0)) else (thistlelaw02_SetsRing.j1 kj606 t1130 t1134 t1138 t1142 t1146 t1150 bt1154.1 bt1158.1 true)) else (thistlelaw02_SetsRing.j1 kj606 t1130 t1134 t1138 t1142 t1146 t1150 bt1154.1 bt1158.1 true)) else (thistlelaw02_SetsRing.j1 kj606 t1130 t1134 t1138 t1142 t1146 t1150 bt1154.1 bt1158.1 true)) else (thistlelaw02_SetsRing.j1 kj606 t1130 t1134 t1138 t1142 t1146 t1150 bt1154.1 bt1158.1 true)) else (thistlelaw02_SetsRing.j1 kj606 t1130 t1134 t1138 t1142 t1146 t1150 bt1154.1 bt1158.1 true)))) = some r := H
            have A616 := Aside0.mk A6160
            clear A6160
            replace H := Option.bind_eq_some_iff.mp H
            obtain ⟨⟨t1154, t1155⟩, A6170, H⟩ := H
            replace H : ((sets_NotRunes.f kj606 t1130).bind fun bt1158 => (if t1141 = 0 then (if t1143 = 0 then (if t1149 = 0 then (if t1151 = 0 then (if t1155 = 0 then (thistlelaw02_SetsRing.j1 kj606 t1130 t1134 t1138 t1142 t1146 t1150 t1154 bt1158.1 (bt1158.2 != 0)) else (thistlelaw02_SetsRing.j1 kj606 t1130 t1134 t1138 t1142 t1146 t1150 t1154 bt1158.1 true)) else (thistlelaw02_SetsRing.j1 kj606 t1130 t1134 t1138 t1142 t1146 t1150 t1154 bt1158.1 true)) else (thistlelaw02_SetsRing.j1 kj606 t1130 t1134 t1138 t1142 t1146 t1150 t1154 bt1158.1 true)) else (thistlelaw02_SetsRing.j1 kj606 t1130 t1134 t1138 t1142 t1146 t1150 t1154 bt1158.1 true)) else (thistlelaw02_SetsRing.j1 kj606 t1130 t1134 t1138 t1142 t1146 t1150 t1154 bt1158.1 true))) = some r := H
            have A617 := Aside0.mk A6170
            clear A6170
            replace H := Option.bind_eq_some_iff.mp H
            obtain ⟨⟨t1158, t1159⟩, A6180, H⟩ := H
            replace H : (if t1141 = 0 then (if t1143 = 0 then (if t1149 = 0 then (if t1151 = 0 then (if t1155 = 0 then (thistlelaw02_SetsRing.j1 kj606 t1130 t1134 t1138 t1142 t1146 t1150 t1154 t1158 (t1159 != 0)) else (thistlelaw02_SetsRing.j1 kj606 t1130 t1134 t1138 t1142 t1146 t1150 t1154 t1158 true)) else (thistlelaw02_SetsRing.j1 kj606 t1130 t1134 t1138 t1142 t1146 t1150 t1154 t1158 true)) else (thistlelaw02_SetsRing.j1 kj606 t1130 t1134 t1138 t1142 t1146 t1150 t1154 t1158 true)) else (thistlelaw02_SetsRing.j1 kj606 t1130 t1134 t1138 t1142 t1146 t1150 t1154 t1158 true)) else (thistlelaw02_SetsRing.j1 kj606 t1130 t1134 t1138 t1142 t1146 t1150 t1154 t1158 true)) = some r := H
            have A618 := Aside0.mk A6180
            clear A6180
            have HC619 := Aside0.mk H
            clear H
            obtain ⟨Ao620, co620, eo620⟩ := Kd.R_slice HO_5.out
            subst eo620
            obtain ⟨Ao621, co621, eo621⟩ := Kd.R_slice HO_7.out
            subst eo621
            go_upto_region 13 with (first | ((with_reducible refine gate_callee (f := 22) rfl ?_); refine goesL_ (some 60) rfl rfl Tryd.func22 (by kernel_rfl) rfl #[.slice Ao620 t1130.length co620, .slice Ao621 t1134.length co621] rfl (by (try simp only [List.map_toArray, List.map_cons, List.map_nil]); first | done | rfl | (simp only [List.length_drop, List.length_take]; rfl)) ?_; (with_reducible refine (sets_Or.calls kj606 (fun k_ => some k_ = (.slice Ao620 t1130.length co620 : Value).ownBlock) _ _ t1130 (fun k_ => some k_ = (.slice Ao621 t1134.length co621 : Value).ownBlock) _ _ t1134 t1138 t1141 _ ?side1 ?side2 ?side3 A613.out).mono ?_); (case side1 => exact Kd.R_V (Kd.R_tight rfl (HO_5.out))); (case side2 => exact Kd.R_V (Kd.R_tight rfl (HO_7.out))); (case side3 => first | exact hG | exact Glob.of_below hG (by repeat (first | (with_reducible first | exact HB.out | apply below_alloc | apply pw_below_drewN | apply below_drew1) | exact HB.out)) | exact Glob.of_below hG HB.out | exact Glob.drewN hG _ | exact Glob.drew hG | (with_reducible repeat (first | exact hG | apply Glob.drewN | apply Glob.drew | apply Glob.alloc))); rintro e w622 ⟨v1139, rfl, ho0, hb⟩; refine ⟨_, rfl, ?_⟩; have n0_ := Aside0.mk (Kd.R_elder' (by (with_reducible repeat (first | apply Kd.R_alloc | apply Kd.R_drewN | apply Kd.R_drew)); exact HO_5.out) (Kd.R_base ho0) hb); have n1_ := Aside0.mk (Kd.R_elder' (by (with_reducible repeat (first | apply Kd.R_alloc | apply Kd.R_drewN | apply Kd.R_drew)); exact HO_7.out) (Kd.R_base ho0) hb); have n2_ := Aside0.mk (Kd.R_lower (Kd.R_new' (Kd.R_new' (Kd.R_mono (ok' := fun k_ => True) ho0 (fun _ hk_ => trivial)) (Kd.R_lt (by (with_reducible repeat (first | apply Kd.R_alloc | apply Kd.R_drewN | apply Kd.R_drew)); exact HO_5.out))) (Kd.R_lt (by (with_reducible repeat (first | apply Kd.R_alloc | apply Kd.R_drewN | apply Kd.R_drew)); exact HO_7.out))) (below_size (by repeat (first | (with_reducible first | exact HB.out | apply below_alloc | apply pw_below_drewN | apply below_drew1) | exact HB.out)))); have n3_ := Aside0.mk (below_step (by repeat (first | (with_reducible first | exact HB.out | apply below_alloc | apply pw_below_drewN | apply below_drew1) | exact HB.out)) hb); clear HO_5; clear HO_7; clear HB; have HO_5 := n0_; have HO_7 := n1_; have HO1140 := n2_; have HB := n3_; clear n0_ n1_ n2_ n3_; (try clear hb); (try clear hb2); (try clear hk); (try clear hi); (try clear ho0)) | ((with_reducible refine gate_callee (f := 23) rfl ?_); refine goesL_ (some 66) rfl rfl Tryd.func23 (by kernel_rfl) rfl #[.slice Ao620 t1130.length co620, .slice Ao621 t1134.length co621] rfl (by (try simp only [List.map_toArray, List.map_cons, List.map_nil]); first | done | rfl | (simp only [List.length_drop, List.length_take]; rfl)) ?_; (with_reducible refine (sets_And.calls kj606 _ _ t1130 _ _ t1134 t1142 t1143 _ ?side1 ?side2 ?side3 ?side4 ?side5 A614.out).mono ?_); (case side1 => repeat (first | exact (Kd.R_reads' HO_5.out).2.2 | (with_reducible refine Kd.C_alloc ?_ _) | (with_reducible refine Kd.C_drewN ?_ _) | (with_reducible refine Kd.C_drew ?_))); (case side2 => exact (Kd.R_reads' HO_5.out).2.1); (case side3 => repeat (first | exact (Kd.R_reads' HO_7.out).2.2 | (with_reducible refine Kd.C_alloc ?_ _) | (with_reducible refine Kd.C_drewN ?_ _) | (with_reducible refine Kd.C_drew ?_))); (case side4 => exact (Kd.R_reads' HO_7.out).2.1); (case side5 => first | exact hG | exact Glob.of_below hG (by repeat (first | (with_reducible first | exact HB.out | apply below_alloc | apply pw_below_drewN | apply below_drew1) | exact HB.out)) | exact Glob.of_below hG HB.out | exact Glob.drewN hG _ | exact Glob.drew hG | (with_reducible repeat (first | exact hG | apply Glob.drewN | apply Glob.drew | apply Glob.alloc))); rintro e w623 ⟨v1144, rfl, ho0, hb⟩; refine ⟨_, rfl, ?_⟩; have n0_ := Aside0.mk (Kd.R_elder' (by (with_reducible repeat (first | apply Kd.R_alloc | apply Kd.R_drewN | apply Kd.R_drew)); exact HO_5.out) (Kd.R_base ho0) hb); have n1_ := Aside0.mk (Kd.R_elder' (by (with_reducible repeat (first | apply Kd.R_alloc | apply Kd.R_drewN | apply Kd.R_drew)); exact HO_7.out) (Kd.R_base ho0) hb); have n2_ := Aside0.mk (Kd.R_elder' (by (with_reducible repeat (first | apply Kd.R_alloc | apply Kd.R_drewN | apply Kd.R_drew)); exact HO1140.out) (Kd.R_base ho0) hb); have n3_ := Aside0.mk (Kd.R_lower (Kd.R_new' (Kd.R_new' (Kd.R_new' ho0 (Kd.R_lt (by (with_reducible repeat (first | apply Kd.R_alloc | apply Kd.R_drewN | apply Kd.R_drew)); exact HO_5.out))) (Kd.R_lt (by (with_reducible repeat (first | apply Kd.R_alloc | apply Kd.R_drewN | apply Kd.R_drew)); exact HO_7.out))) (Kd.R_lt (by (with_reducible repeat (first | apply Kd.R_alloc | apply Kd.R_drewN | apply Kd.R_drew)); exact HO1140.out))) (below_size (by repeat (first | (with_reducible first | exact HB.out | apply below_alloc | apply pw_below_drewN | apply below_drew1) | exact HB.out)))); have n4_ := Aside0.mk (below_step (by repeat (first | (with_reducible first | exact HB.out | apply below_alloc | apply pw_below_drewN | apply below_drew1) | exact HB.out)) hb); clear HO_5; clear HO_7; clear HO1140; clear HB; have HO_5 := n0_; have HO_7 := n1_; have HO1140 := n2_; have HO1145 := n3_; have HB := n4_; clear n0_ n1_ n2_ n3_ n4_; (try clear hb); (try clear hb2); (try clear hk); (try clear hi); (try clear ho0)) | ((with_reducible refine gate_callee (f := 24) rfl ?_); refine goesL_ (some 72) rfl rfl Tryd.func24 (by kernel_rfl) rfl #[.slice Ao620 t1130.length co620, .slice Ao621 t1134.length co621] rfl (by (try simp only [List.map_toArray, List.map_cons, List.map_nil]); first | done | rfl | (simp only [List.length_drop, List.length_take]; rfl)) ?_; (with_reducible refine (sets_Minus.calls kj606 (fun k_ => some k_ = (.slice Ao620 t1130.length co620 : Value).ownBlock) _ _ t1130 (fun k_ => some k_ = (.slice Ao621 t1134.length co621 : Value).ownBlock) _ _ t1134 t1146 t1149 _ ?side1 ?side2 ?side3 A615.out).mono ?_); (case side1 => exact Kd.R_V (Kd.R_tight rfl (HO_5.out))); (case side2 => exact Kd.R_V (Kd.R_tight rfl (HO_7.out))); (case side3 => first | exact hG | exact Glob.of_below hG (by repeat (first | (with_reducible first | exact HB.out | apply below_alloc | apply pw_below_drewN | apply below_drew1) | exact HB.out)) | exact Glob.of_below hG HB.out | exact Glob.drewN hG _ | exact Glob.drew hG | (with_reducible repeat (first | exact hG | apply Glob.drewN | apply Glob.drew | apply Glob.alloc))); rintro e w624 ⟨v1147, rfl, ho0, hb⟩; refine ⟨_, rfl, ?_⟩; have n0_ := Aside0.mk (Kd.R_elder' (by (with_reducible repeat (first | apply Kd.R_alloc | apply Kd.R_drewN | apply Kd.R_drew)); exact HO_5.out) (Kd.R_base ho0) hb); have n1_ := Aside0.mk (Kd.R_elder' (by (with_reducible repeat (first | apply Kd.R_alloc | apply Kd.R_drewN | apply Kd.R_drew)); exact HO_7.out) (Kd.R_base ho0) hb); have n2_ := Aside0.mk (Kd.R_elder' (by (with_reducible repeat (first | apply Kd.R_alloc | apply Kd.R_drewN | apply Kd.R_drew)); exact HO1140.out) (Kd.R_base ho0) hb); have n3_ := Aside0.mk (Kd.R_elder' (by (with_reducible repeat (first | apply Kd.R_alloc | apply Kd.R_drewN | apply Kd.R_drew)); exact HO1145.out) (Kd.R_base ho0) hb); have n4_ := Aside0.mk (Kd.R_lower (Kd.R_new' (Kd.R_new' (Kd.R_new' (Kd.R_new' (Kd.R_mono (ok' := fun k_ => True) ho0 (fun _ hk_ => trivial)) (Kd.R_lt (by (with_reducible repeat (first | apply Kd.R_alloc | apply Kd.R_drewN | apply Kd.R_drew)); exact HO_5.out))) (Kd.R_lt (by (with_reducible repeat (first | apply Kd.R_alloc | apply Kd.R_drewN | apply Kd.R_drew)); exact HO_7.out))) (Kd.R_lt (by (with_reducible repeat (first | apply Kd.R_alloc | apply Kd.R_drewN | apply Kd.R_drew)); exact HO1140.out))) (Kd.R_lt (by (with_reducible repeat (first | apply Kd.R_alloc | apply Kd.R_drewN | apply Kd.R_drew)); exact HO1145.out))) (below_size (by repeat (first | (with_reducible first | exact HB.out | apply below_alloc | apply pw_below_drewN | apply below_drew1) | exact HB.out)))); have n5_ := Aside0.mk (below_step (by repeat (first | (with_reducible first | exact HB.out | apply below_alloc | apply pw_below_drewN | apply below_drew1) | exact HB.out)) hb); clear HO_5; clear HO_7; clear HO1140; clear HO1145; clear HB; have HO_5 := n0_; have HO_7 := n1_; have HO1140 := n2_; have HO1145 := n3_; have HO1148 := n4_; have HB := n5_; clear n0_ n1_ n2_ n3_ n4_ n5_; (try clear hb); (try clear hb2); (try clear hk); (try clear hi); (try clear ho0)) | ((with_reducible refine gate_callee (f := 25) rfl ?_); refine goesL_ (some 77) rfl rfl Tryd.func25 (by kernel_rfl) rfl #[.slice Ao620 t1130.length co620] rfl (by (try simp only [List.map_toArray, List.map_cons, List.map_nil]); first | done | rfl | (simp only [List.length_drop, List.length_take]; rfl)) ?_; (with_reducible refine (sets_Not.calls kj606 _ _ t1130 t1150 t1151 _ ?side1 ?side2 ?side3 A616.out).mono ?_); (case side1 => repeat (first | exact (Kd.R_reads' HO_5.out).2.2 | (with_reducible refine Kd.C_alloc ?_ _) | (with_reducible refine Kd.C_drewN ?_ _) | (with_reducible refine Kd.C_drew ?_))); (case side2 => exact (Kd.R_reads' HO_5.out).2.1); (case side3 => first | exact hG | exact Glob.of_below hG (by repeat (first | (with_reducible first | exact HB.out | apply below_alloc | apply pw_below_drewN | apply below_drew1) | exact HB.out)) | exact Glob.of_below hG HB.out | exact Glob.drewN hG _ | exact Glob.drew hG | (with_reducible repeat (first | exact hG | apply Glob.drewN | apply Glob.drew | apply Glob.alloc))); rintro e w625 ⟨v1152, rfl, ho0, hb⟩; refine ⟨_, rfl, ?_⟩; have n0_ := Aside0.mk (Kd.R_elder' (by (with_reducible repeat (first | apply Kd.R_alloc | apply Kd.R_drewN | apply Kd.R_drew)); exact HO_5.out) (Kd.R_base ho0) hb); have n1_ := Aside0.mk (Kd.R_elder' (by (with_reducible repeat (first | apply Kd.R_alloc | apply Kd.R_drewN | apply Kd.R_drew)); exact HO_7.out) (Kd.R_base ho0) hb); have n2_ := Aside0.mk (Kd.R_elder' (by (with_reducible repeat (first | apply Kd.R_alloc | apply Kd.R_drewN | apply Kd.R_drew)); exact HO1140.out) (Kd.R_base ho0) hb); have n3_ := Aside0.mk (Kd.R_elder' (by (with_reducible repeat (first | apply Kd.R_alloc | apply Kd.R_drewN | apply Kd.R_drew)); exact HO1145.out) (Kd.R_base ho0) hb); have n4_ := Aside0.mk (Kd.R_elder' (by (with_reducible repeat (first | apply Kd.R_alloc | apply Kd.R_drewN | apply Kd.R_drew)); exact HO1148.out) (Kd.R_base ho0) hb); have n5_ := Aside0.mk (Kd.R_lower (Kd.R_new' (Kd.R_new' (Kd.R_new' (Kd.R_new' (Kd.R_new' ho0 (Kd.R_lt (by (with_reducible repeat (first | apply Kd.R_alloc | apply Kd.R_drewN | apply Kd.R_drew)); exact HO_5.out))) (Kd.R_lt (by (with_reducible repeat (first | apply Kd.R_alloc | apply Kd.R_drewN | apply Kd.R_drew)); exact HO_7.out))) (Kd.R_lt (by (with_reducible repeat (first | apply Kd.R_alloc | apply Kd.R_drewN | apply Kd.R_drew)); exact HO1140.out))) (Kd.R_lt (by (with_reducible repeat (first | apply Kd.R_alloc | apply Kd.R_drewN | apply Kd.R_drew)); exact HO1145.out))) (Kd.R_lt (by (with_reducible repeat (first | apply Kd.R_alloc | apply Kd.R_drewN | apply Kd.R_drew)); exact HO1148.out))) (below_size (by repeat (first | (with_reducible first | exact HB.out | apply below_alloc | apply pw_below_drewN | apply below_drew1) | exact HB.out)))); have n6_ := Aside0.mk (below_step (by repeat (first | (with_reducible first | exact HB.out | apply below_alloc | apply pw_below_drewN | apply below_drew1) | exact HB.out)) hb); clear HO_5; clear HO_7; clear HO1140; clear HO1145; clear HO1148; clear HB; have HO_5 := n0_; have HO_7 := n1_; have HO1140 := n2_; have HO1145 := n3_; have HO1148 := n4_; have HO1153 := n5_; have HB := n6_; clear n0_ n1_ n2_ n3_ n4_ n5_ n6_; (try clear hb); (try clear hb2); (try clear hk); (try clear hi); (try clear ho0)) | ((with_reducible refine gate_callee (f := 25) rfl ?_); refine goesL_ (some 82) rfl rfl Tryd.func25 (by kernel_rfl) rfl #[.slice Ao621 t1134.length co621] rfl (by (try simp only [List.map_toArray, List.map_cons, List.map_nil]); first | done | rfl | (simp only [List.length_drop, List.length_take]; rfl)) ?_; (with_reducible refine (sets_Not.calls kj606 _ _ t1134 t1154 t1155 _ ?side1 ?side2 ?side3 A617.out).mono ?_); (case side1 => repeat (first | exact (Kd.R_reads' HO_7.out).2.2 | (with_reducible refine Kd.C_alloc ?_ _) | (with_reducible refine Kd.C_drewN ?_ _) | (with_reducible refine Kd.C_drew ?_))); (case side2 => exact (Kd.R_reads' HO_7.out).2.1); (case side3 => first | exact hG | exact Glob.of_below hG (by repeat (first | (with_reducible first | exact HB.out | apply below_alloc | apply pw_below_drewN | apply below_drew1) | exact HB.out)) | exact Glob.of_below hG HB.out | exact Glob.drewN hG _ | exact Glob.drew hG | (with_reducible repeat (first | exact hG | apply Glob.drewN | apply Glob.drew | apply Glob.alloc))); rintro e w626 ⟨v1156, rfl, ho0, hb⟩; refine ⟨_, rfl, ?_⟩; have n0_ := Aside0.mk (Kd.R_elder' (by (with_reducible repeat (first | apply Kd.R_alloc | apply Kd.R_drewN | apply Kd.R_drew)); exact HO_5.out) (Kd.R_base ho0) hb); have n1_ := Aside0.mk (Kd.R_elder' (by (with_reducible repeat (first | apply Kd.R_alloc | apply Kd.R_drewN | apply Kd.R_drew)); exact HO_7.out) (Kd.R_base ho0) hb); have n2_ := Aside0.mk (Kd.R_elder' (by (with_reducible repeat (first | apply Kd.R_alloc | apply Kd.R_drewN | apply Kd.R_drew)); exact HO1140.out) (Kd.R_base ho0) hb); have n3_ := Aside0.mk (Kd.R_elder' (by (with_reducible repeat (first | apply Kd.R_alloc | apply Kd.R_drewN | apply Kd.R_drew)); exact HO1145.out) (Kd.R_base ho0) hb); have n4_ := Aside0.mk (Kd.R_elder' (by (with_reducible repeat (first | apply Kd.R_alloc | apply Kd.R_drewN | apply Kd.R_drew)); exact HO1148.out) (Kd.R_base ho0) hb); have n5_ := Aside0.mk (Kd.R_elder' (by (with_reducible repeat (first | apply Kd.R_alloc | apply Kd.R_drewN | apply Kd.R_drew)); exact HO1153.out) (Kd.R_base ho0) hb); have n6_ := Aside0.mk (Kd.R_lower (Kd.R_new' (Kd.R_new' (Kd.R_new' (Kd.R_new' (Kd.R_new' (Kd.R_new' ho0 (Kd.R_lt (by (with_reducible repeat (first | apply Kd.R_alloc | apply Kd.R_drewN | apply Kd.R_drew)); exact HO_5.out))) (Kd.R_lt (by (with_reducible repeat (first | apply Kd.R_alloc | apply Kd.R_drewN | apply Kd.R_drew)); exact HO_7.out))) (Kd.R_lt (by (with_reducible repeat (first | apply Kd.R_alloc | apply Kd.R_drewN | apply Kd.R_drew)); exact HO1140.out))) (Kd.R_lt (by (with_reducible repeat (first | apply Kd.R_alloc | apply Kd.R_drewN | apply Kd.R_drew)); exact HO1145.out))) (Kd.R_lt (by (with_reducible repeat (first | apply Kd.R_alloc | apply Kd.R_drewN | apply Kd.R_drew)); exact HO1148.out))) (Kd.R_lt (by (with_reducible repeat (first | apply Kd.R_alloc | apply Kd.R_drewN | apply Kd.R_drew)); exact HO1153.out))) (below_size (by repeat (first | (with_reducible first | exact HB.out | apply below_alloc | apply pw_below_drewN | apply below_drew1) | exact HB.out)))); have n7_ := Aside0.mk (below_step (by repeat (first | (with_reducible first | exact HB.out | apply below_alloc | apply pw_below_drewN | apply below_drew1) | exact HB.out)) hb); clear HO_5; clear HO_7; clear HO1140; clear HO1145; clear HO1148; clear HO1153; clear HB; have HO_5 := n0_; have HO_7 := n1_; have HO1140 := n2_; have HO1145 := n3_; have HO1148 := n4_; have HO1153 := n5_; have HO1157 := n6_; have HB := n7_; clear n0_ n1_ n2_ n3_ n4_ n5_ n6_ n7_; (try clear hb); (try clear hb2); (try clear hk); (try clear hi); (try clear ho0)) | ((with_reducible refine gate_callee (f := 26) rfl ?_); refine goesL_ (some 87) rfl rfl Tryd.func26 (by kernel_rfl) rfl #[.slice Ao620 t1130.length co620] rfl (by (try simp only [List.map_toArray, List.map_cons, List.map_nil]); first | done | rfl | (simp only [List.length_drop, List.length_take]; rfl)) ?_; (with_reducible refine (sets_NotRunes.calls kj606 _ _ t1130 t1158 t1159 _ ?side1 ?side2 ?side3 A618.out).mono ?_); (case side1 => repeat (first | exact (Kd.R_reads' HO_5.out).2.2 | (with_reducible refine Kd.C_alloc ?_ _) | (with_reducible refine Kd.C_drewN ?_ _) | (with_reducible refine Kd.C_drew ?_))); (case side2 => exact (Kd.R_reads' HO_5.out).2.1); (case side3 => first | exact hG | exact Glob.of_below hG (by repeat (first | (with_reducible first | exact HB.out | apply below_alloc | apply pw_below_drewN | apply below_drew1) | exact HB.out)) | exact Glob.of_below hG HB.out | exact Glob.drewN hG _ | exact Glob.drew hG | (with_reducible repeat (first | exact hG | apply Glob.drewN | apply Glob.drew | apply Glob.alloc))); rintro e w627 ⟨v1160, rfl, ho0, hb⟩; refine ⟨_, rfl, ?_⟩; have n0_ := Aside0.mk (Kd.R_elder' (by (with_reducible repeat (first | apply Kd.R_alloc | apply Kd.R_drewN | apply Kd.R_drew)); exact HO_5.out) (Kd.R_base ho0) hb); have n1_ := Aside0.mk (Kd.R_elder' (by (with_reducible repeat (first | apply Kd.R_alloc | apply Kd.R_drewN | apply Kd.R_drew)); exact HO_7.out) (Kd.R_base ho0) hb); have n2_ := Aside0.mk (Kd.R_elder' (by (with_reducible repeat (first | apply Kd.R_alloc | apply Kd.R_drewN | apply Kd.R_drew)); exact HO1140.out) (Kd.R_base ho0) hb); have n3_ := Aside0.mk (Kd.R_elder' (by (with_reducible repeat (first | apply Kd.R_alloc | apply Kd.R_drewN | apply Kd.R_drew)); exact HO1145.out) (Kd.R_base ho0) hb); have n4_ := Aside0.mk (Kd.R_elder' (by (with_reducible repeat (first | apply Kd.R_alloc | apply Kd.R_drewN | apply Kd.R_drew)); exact HO1148.out) (Kd.R_base ho0) hb); have n5_ := Aside0.mk (Kd.R_elder' (by (with_reducible repeat (first | apply Kd.R_alloc | apply Kd.R_drewN | apply Kd.R_drew)); exact HO1153.out) (Kd.R_base ho0) hb); have n6_ := Aside0.mk (Kd.R_elder' (by (with_reducible repeat (first | apply Kd.R_alloc | apply Kd.R_drewN | apply Kd.R_drew)); exact HO1157.out) (Kd.R_base ho0) hb); have n7_ := Aside0.mk (Kd.R_lower (Kd.R_new' (Kd.R_new' (Kd.R_new' (Kd.R_new' (Kd.R_new' (Kd.R_new' (Kd.R_new' ho0 (Kd.R_lt (by (with_reducible repeat (first | apply Kd.R_alloc | apply Kd.R_drewN | apply Kd.R_drew)); exact HO_5.out))) (Kd.R_lt (by (with_reducible repeat (first | apply Kd.R_alloc | apply Kd.R_drewN | apply Kd.R_drew)); exact HO_7.out))) (Kd.R_lt (by (with_reducible repeat (first | apply Kd.R_alloc | apply Kd.R_drewN | apply Kd.R_drew)); exact HO1140.out))) (Kd.R_lt (by (with_reducible repeat (first | apply Kd.R_alloc | apply Kd.R_drewN | apply Kd.R_drew)); exact HO1145.out))) (Kd.R_lt (by (with_reducible repeat (first | apply Kd.R_alloc | apply Kd.R_drewN | apply Kd.R_drew)); exact HO1148.out))) (Kd.R_lt (by (with_reducible repeat (first | apply Kd.R_alloc | apply Kd.R_drewN | apply Kd.R_drew)); exact HO1153.out))) (Kd.R_lt (by (with_reducible repeat (first | apply Kd.R_alloc | apply Kd.R_drewN | apply Kd.R_drew)); exact HO1157.out))) (below_size (by repeat (first | (with_reducible first | exact HB.out | apply below_alloc | apply pw_below_drewN | apply below_drew1) | exact HB.out)))); have n8_ := Aside0.mk (below_step (by repeat (first | (with_reducible first | exact HB.out | apply below_alloc | apply pw_below_drewN | apply below_drew1) | exact HB.out)) hb); clear HO_5; clear HO_7; clear HO1140; clear HO1145; clear HO1148; clear HO1153; clear HO1157; clear HB; have HO_5 := n0_; have HO_7 := n1_; have HO1140 := n2_; have HO1145 := n3_; have HO1148 := n4_; have HO1153 := n5_; have HO1157 := n6_; have HO1161 := n7_; have HB := n8_; clear n0_ n1_ n2_ n3_ n4_ n5_ n6_ n7_ n8_; (try clear hb); (try clear hb2); (try clear hk); (try clear hi); (try clear ho0)))
            (try simp only [Act.put, List.setIfInBounds_toArray, List.set_cons_zero, List.set_cons_succ])
            go_cut [111] (fun v111 wc => ∃ (kq : Nat) (x111_618 : Bool), v111 = .bool x111_618 ∧ Aside0 (thistlelaw02_SetsRing.j1 kq t1130 t1134 t1138 t1142 t1146 t1150 t1154 t1158 x111_618 = some r) ∧ Aside0 (kq ≤ kj606) ∧ Aside0 (Kd.R k29 29 wc w.heap.size (fun k_ => some k_ ≠ ((.slice Ao621 t1134.length co621) : Value).ownBlock ∧ some k_ ≠ (v1139 : Value).ownBlock ∧ some k_ ≠ (v1144 : Value).ownBlock ∧ some k_ ≠ (v1147 : Value).ownBlock ∧ some k_ ≠ (v1152 : Value).ownBlock ∧ some k_ ≠ (v1156 : Value).ownBlock ∧ some k_ ≠ (v1160 : Value).ownBlock) (.slice Ao620 t1130.length co620) t1130) ∧ Aside0 (Kd.R k29 29 wc w.heap.size (fun k_ => some k_ ≠ ((.slice Ao620 t1130.length co620) : Value).ownBlock ∧ some k_ ≠ (v1139 : Value).ownBlock ∧ some k_ ≠ (v1144 : Value).ownBlock ∧ some k_ ≠ (v1147 : Value).ownBlock ∧ some k_ ≠ (v1152 : Value).ownBlock ∧ some k_ ≠ (v1156 : Value).ownBlock ∧ some k_ ≠ (v1160 : Value).ownBlock) (.slice Ao621 t1134.length co621) t1134) ∧ Aside0 (Kd.R k29 29 wc w.heap.size (fun k_ => some k_ ≠ ((.slice Ao620 t1130.length co620) : Value).ownBlock ∧ some k_ ≠ ((.slice Ao621 t1134.length co621) : Value).ownBlock ∧ some k_ ≠ (v1144 : Value).ownBlock ∧ some k_ ≠ (v1147 : Value).ownBlock ∧ some k_ ≠ (v1152 : Value).ownBlock ∧ some k_ ≠ (v1156 : Value).ownBlock ∧ some k_ ≠ (v1160 : Value).ownBlock) v1139 t1138) ∧ Aside0 (Kd.R k29 29 wc w.heap.size (fun k_ => some k_ ≠ ((.slice Ao620 t1130.length co620) : Value).ownBlock ∧ some k_ ≠ ((.slice Ao621 t1134.length co621) : Value).ownBlock ∧ some k_ ≠ (v1139 : Value).ownBlock ∧ some k_ ≠ (v1147 : Value).ownBlock ∧ some k_ ≠ (v1152 : Value).ownBlock ∧ some k_ ≠ (v1156 : Value).ownBlock ∧ some k_ ≠ (v1160 : Value).ownBlock) v1144 t1142) ∧ Aside0 (Kd.R k29 29 wc w.heap.size (fun k_ => some k_ ≠ ((.slice Ao620 t1130.length co620) : Value).ownBlock ∧ some k_ ≠ ((.slice Ao621 t1134.length co621) : Value).ownBlock ∧ some k_ ≠ (v1139 : Value).ownBlock ∧ some k_ ≠ (v1144 : Value).ownBlock ∧ some k_ ≠ (v1152 : Value).ownBlock ∧ some k_ ≠ (v1156 : Value).ownBlock ∧ some k_ ≠ (v1160 : Value).ownBlock) v1147 t1146) ∧ Aside0 (Kd.R k29 29 wc w.heap.size (fun k_ => some k_ ≠ ((.slice Ao620 t1130.length co620) : Value).ownBlock ∧ some k_ ≠ ((.slice Ao621 t1134.length co621) : Value).ownBlock ∧ some k_ ≠ (v1139 : Value).ownBlock ∧ some k_ ≠ (v1144 : Value).ownBlock ∧ some k_ ≠ (v1147 : Value).ownBlock ∧ some k_ ≠ (v1156 : Value).ownBlock ∧ some k_ ≠ (v1160 : Value).ownBlock) v1152 t1150) ∧ Aside0 (Kd.R k29 29 wc w.heap.size (fun k_ => some k_ ≠ ((.slice Ao620 t1130.length co620) : Value).ownBlock ∧ some k_ ≠ ((.slice Ao621 t1134.length co621) : Value).ownBlock ∧ some k_ ≠ (v1139 : Value).ownBlock ∧ some k_ ≠ (v1144 : Value).ownBlock ∧ some k_ ≠ (v1147 : Value).ownBlock ∧ some k_ ≠ (v1152 : Value).ownBlock ∧ some k_ ≠ (v1160 : Value).ownBlock) v1156 t1154) ∧ Aside0 (Kd.R k29 29 wc w.heap.size (fun k_ => some k_ ≠ ((.slice Ao620 t1130.length co620) : Value).ownBlock ∧ some k_ ≠ ((.slice Ao621 t1134.length co621) : Value).ownBlock ∧ some k_ ≠ (v1139 : Value).ownBlock ∧ some k_ ≠ (v1144 : Value).ownBlock ∧ some k_ ≠ (v1147 : Value).ownBlock ∧ some k_ ≠ (v1152 : Value).ownBlock ∧ some k_ ≠ (v1156 : Value).ownBlock) v1160 t1158) ∧ Aside0 (Below w.heap.size w wc))
            case first =>
              as_aux_lemma =>
                have H := HC619.out
                clear HC619
                by_cases c628 : t1141 = 0
                · rw [if_pos c628] at H
                  have c628b0 : (t1141 == 0) = true := beq_iff_eq.mpr c628
                  have c628b1 : (t1141 != 0) = false := bne_eq_false_iff_eq.mpr c628
                  clear c628
                  (first | rw [c628b0] | (simp only [i64_w, i32_w]; rw [c628b0]) | skip)
                  by_cases c629 : t1143 = 0
                  · rw [if_pos c629] at H
                    have c629b0 : (t1143 == 0) = true := beq_iff_eq.mpr c629
                    have c629b1 : (t1143 != 0) = false := bne_eq_false_iff_eq.mpr c629
                    clear c629
                    by_cases c630 : t1149 = 0
                    · rw [if_pos c630] at H
                      have c630b0 : (t1149 == 0) = true := beq_iff_eq.mpr c630
                      have c630b1 : (t1149 != 0) = false := bne_eq_false_iff_eq.mpr c630
                      clear c630
                      by_cases c631 : t1151 = 0
                      · rw [if_pos c631] at H
                        have c631b0 : (t1151 == 0) = true := beq_iff_eq.mpr c631
                        have c631b1 : (t1151 != 0) = false := bne_eq_false_iff_eq.mpr c631
                        clear c631
                        by_cases c632 : t1155 = 0
                        · rw [if_pos c632] at H
                          have c632b0 : (t1155 == 0) = true := beq_iff_eq.mpr c632
                          have c632b1 : (t1155 != 0) = false := bne_eq_false_iff_eq.mpr c632
                          clear c632
                          as_aux_lemma =>
                            have H' := Aside0.mk H
                            clear H
                            go_wp2
                            go_meet
                            case rel => exact ⟨_, ((t1159 != 0)), (by first | rfl | (simp; done) | (simp [*]; done)), H', ⟨by have := HJ606.out; first | omega | exact Nat.le_refl _⟩, ⟨by (with_reducible repeat (first | apply Kd.R_alloc | apply Kd.R_drewN | apply Kd.R_drew)); exact Kd.R_mono HO_5.out (fun _ hk => ⟨hk.1.1.1.1.1.1, ⟨hk.1.1.1.1.1.2, ⟨hk.1.1.1.1.2, ⟨hk.1.1.1.2, ⟨hk.1.1.2, ⟨hk.1.2, hk.2⟩⟩⟩⟩⟩⟩)⟩, ⟨by (with_reducible repeat (first | apply Kd.R_alloc | apply Kd.R_drewN | apply Kd.R_drew)); exact Kd.R_mono HO_7.out (fun _ hk => ⟨hk.1.1.1.1.1.1, ⟨hk.1.1.1.1.1.2, ⟨hk.1.1.1.1.2, ⟨hk.1.1.1.2, ⟨hk.1.1.2, ⟨hk.1.2, hk.2⟩⟩⟩⟩⟩⟩)⟩, ⟨by (with_reducible repeat (first | apply Kd.R_alloc | apply Kd.R_drewN | apply Kd.R_drew)); exact Kd.R_mono HO1140.out (fun _ hk => ⟨hk.1.1.1.1.1.1.2, ⟨hk.1.1.1.1.1.2, ⟨hk.1.1.1.1.2, ⟨hk.1.1.1.2, ⟨hk.1.1.2, ⟨hk.1.2, hk.2⟩⟩⟩⟩⟩⟩)⟩, ⟨by (with_reducible repeat (first | apply Kd.R_alloc | apply Kd.R_drewN | apply Kd.R_drew)); exact Kd.R_mono HO1145.out (fun _ hk => ⟨hk.1.1.1.1.1.1.2, ⟨hk.1.1.1.1.1.2, ⟨hk.1.1.1.1.2, ⟨hk.1.1.1.2, ⟨hk.1.1.2, ⟨hk.1.2, hk.2⟩⟩⟩⟩⟩⟩)⟩, ⟨by (with_reducible repeat (first | apply Kd.R_alloc | apply Kd.R_drewN | apply Kd.R_drew)); exact Kd.R_mono HO1148.out (fun _ hk => ⟨hk.1.1.1.1.1.1.2, ⟨hk.1.1.1.1.1.2, ⟨hk.1.1.1.1.2, ⟨hk.1.1.1.2, ⟨hk.1.1.2, ⟨hk.1.2, hk.2⟩⟩⟩⟩⟩⟩)⟩, ⟨by (with_reducible repeat (first | apply Kd.R_alloc | apply Kd.R_drewN | apply Kd.R_drew)); exact Kd.R_mono HO1153.out (fun _ hk => ⟨hk.1.1.1.1.1.1.2, ⟨hk.1.1.1.1.1.2, ⟨hk.1.1.1.1.2, ⟨hk.1.1.1.2, ⟨hk.1.1.2, ⟨hk.1.2, hk.2⟩⟩⟩⟩⟩⟩)⟩, ⟨by (with_reducible repeat (first | apply Kd.R_alloc | apply Kd.R_drewN | apply Kd.R_drew)); exact Kd.R_mono HO1157.out (fun _ hk => ⟨hk.1.1.1.1.1.1.2, ⟨hk.1.1.1.1.1.2, ⟨hk.1.1.1.1.2, ⟨hk.1.1.1.2, ⟨hk.1.1.2, ⟨hk.1.2, hk.2⟩⟩⟩⟩⟩⟩)⟩, ⟨by (with_reducible repeat (first | apply Kd.R_alloc | apply Kd.R_drewN | apply Kd.R_drew)); exact Kd.R_mono HO1161.out (fun _ hk => ⟨hk.1.1.1.1.1.1.2, ⟨hk.1.1.1.1.1.2, ⟨hk.1.1.1.1.2, ⟨hk.1.1.1.2, ⟨hk.1.1.2, ⟨hk.1.2, hk.2⟩⟩⟩⟩⟩⟩)⟩, ⟨by repeat (first | (with_reducible first | exact HB.out | apply below_alloc | apply pw_below_drewN | apply below_drew1) | exact HB.out)⟩⟩
                        · rw [if_neg c632] at H
                          have c632b0 : (t1155 == 0) = false := beq_eq_false_iff_ne.mpr c632
                          have c632b1 : (t1155 != 0) = true := bne_iff_ne.mpr c632
                          as_aux_lemma =>
                            exact absurd (H.trans (congrArg some hrt.out)) (by (first | (cases kj606 <;> simp [thistlelaw02_SetsRing.j1]) | (unfold thistlelaw02_SetsRing.j1; split <;> simp)))
                      · rw [if_neg c631] at H
                        have c631b0 : (t1151 == 0) = false := beq_eq_false_iff_ne.mpr c631
                        have c631b1 : (t1151 != 0) = true := bne_iff_ne.mpr c631
                        as_aux_lemma =>
                          exact absurd (H.trans (congrArg some hrt.out)) (by (first | (cases kj606 <;> simp [thistlelaw02_SetsRing.j1]) | (unfold thistlelaw02_SetsRing.j1; split <;> simp)))
                    · rw [if_neg c630] at H
                      have c630b0 : (t1149 == 0) = false := beq_eq_false_iff_ne.mpr c630
                      have c630b1 : (t1149 != 0) = true := bne_iff_ne.mpr c630
                      as_aux_lemma =>
                        exact absurd (H.trans (congrArg some hrt.out)) (by (first | (cases kj606 <;> simp [thistlelaw02_SetsRing.j1]) | (unfold thistlelaw02_SetsRing.j1; split <;> simp)))
                  · rw [if_neg c629] at H
                    have c629b0 : (t1143 == 0) = false := beq_eq_false_iff_ne.mpr c629
                    have c629b1 : (t1143 != 0) = true := bne_iff_ne.mpr c629
                    as_aux_lemma =>
                      exact absurd (H.trans (congrArg some hrt.out)) (by (first | (cases kj606 <;> simp [thistlelaw02_SetsRing.j1]) | (unfold thistlelaw02_SetsRing.j1; split <;> simp)))
                · rw [if_neg c628] at H
                  have c628b0 : (t1141 == 0) = false := beq_eq_false_iff_ne.mpr c628
                  have c628b1 : (t1141 != 0) = true := bne_iff_ne.mpr c628
                  (first | rw [c628b0] | (simp only [i64_w, i32_w]; rw [c628b0]) | skip)
                  as_aux_lemma =>
                    exact absurd (H.trans (congrArg some hrt.out)) (by (first | (cases kj606 <;> simp [thistlelaw02_SetsRing.j1]) | (unfold thistlelaw02_SetsRing.j1; split <;> simp)))
            case rest =>
              as_aux_lemma =>
                clear HC619
                (try clear c1); (try clear c2); (try clear p2); (try clear c5); (try clear c6); (try clear c8); (try clear c9); (try clear c22); (try clear c23); (try clear c24); (try clear c25); (try clear c26); (try clear c60); (try clear c61); (try clear c62); (try clear c63); (try clear c604); (try clear c611); (try clear c611b0); (try clear c611b1); (try clear c612); (try clear c628); (try clear c628b0); (try clear c628b1); (try clear c629); (try clear c629b0); (try clear c629b1); (try clear c630); (try clear c630b0); (try clear c630b1); (try clear c631); (try clear c631b0); (try clear c631b1); (try clear c632); (try clear c632b0); (try clear c632b1); (try clear p2)
                obtain ⟨kq, x111_618, rfl, HA, HJ618, HO_5, HO_7, HO_9, HO_11, HO_13, HO_15, HO_17, HO_19, HB⟩ := hcut
                cases kq with
                | zero => exact absurd HA.out (by simp [thistlelaw02_SetsRing.j1])
                | succ kj618 =>
                  have H := HA.out
                  clear HA
                  simp only [thistlelaw02_SetsRing.j1] at H
                  by_cases c633 : x111_618 = true
                  · subst c633
                    have H1 : (some false) = some r := by rw [if_pos rfl] at H; exact H
                    clear H
                    have H := H1
                    clear H1
                    as_aux_lemma =>
                      exact absurd (H.trans (congrArg some hrt.out)) (by simp)
                  · replace c633 := Bool.eq_false_iff.mpr c633
                    subst c633
                    have H1 : ((thistlelaw02_sound.f kj618 t1138).bind fun t1162 => (if t1162 = true then ((thistlelaw02_sound.f kj618 t1142).bind fun t1163 => (if t1163 = true then ((thistlelaw02_sound.f kj618 t1146).bind fun t1164 => (if t1164 = true then ((thistlelaw02_sound.f kj618 t1150).bind fun t1165 => (if t1165 = true then ((thistlelaw02_sound.f kj618 t1158).bind fun t1166 => (thistlelaw02_SetsRing.j2 kj618 t1130 t1134 t1138 t1142 t1146 t1150 t1154 t1158 (!t1166))) else (thistlelaw02_SetsRing.j2 kj618 t1130 t1134 t1138 t1142 t1146 t1150 t1154 t1158 true))) else (thistlelaw02_SetsRing.j2 kj618 t1130 t1134 t1138 t1142 t1146 t1150 t1154 t1158 true))) else (thistlelaw02_SetsRing.j2 kj618 t1130 t1134 t1138 t1142 t1146 t1150 t1154 t1158 true))) else (thistlelaw02_SetsRing.j2 kj618 t1130 t1134 t1138 t1142 t1146 t1150 t1154 t1158 true))) = some r := by rw [if_neg (show ¬ (false = true) by decide)] at H; exact H
                    clear H
                    have H := H1
                    clear H1
                    have HC634 := Aside0.mk H
                    clear H
                    go_upto_region 15 with (fail)
                    go_cut [134] (fun v134 wc => ∃ (kq : Nat) (x134_633 : Bool), v134 = .bool x134_633 ∧ Aside0 (thistlelaw02_SetsRing.j2 kq t1130 t1134 t1138 t1142 t1146 t1150 t1154 t1158 x134_633 = some r) ∧ Aside0 (kq ≤ kj618) ∧ Aside0 (Kd.R k29 29 wc w.heap.size (fun k_ => some k_ ≠ ((.slice Ao621 t1134.length co621) : Value).ownBlock ∧ some k_ ≠ (v1139 : Value).ownBlock ∧ some k_ ≠ (v1144 : Value).ownBlock ∧ some k_ ≠ (v1147 : Value).ownBlock ∧ some k_ ≠ (v1152 : Value).ownBlock ∧ some k_ ≠ (v1156 : Value).ownBlock ∧ some k_ ≠ (v1160 : Value).ownBlock) (.slice Ao620 t1130.length co620) t1130) ∧ Aside0 (Kd.R k29 29 wc w.heap.size (fun k_ => some k_ ≠ ((.slice Ao620 t1130.length co620) : Value).ownBlock ∧ some k_ ≠ (v1139 : Value).ownBlock ∧ some k_ ≠ (v1144 : Value).ownBlock ∧ some k_ ≠ (v1147 : Value).ownBlock ∧ some k_ ≠ (v1152 : Value).ownBlock ∧ some k_ ≠ (v1156 : Value).ownBlock ∧ some k_ ≠ (v1160 : Value).ownBlock) (.slice Ao621 t1134.length co621) t1134) ∧ Aside0 (Kd.R k29 29 wc w.heap.size (fun k_ => some k_ ≠ ((.slice Ao620 t1130.length co620) : Value).ownBlock ∧ some k_ ≠ ((.slice Ao621 t1134.length co621) : Value).ownBlock ∧ some k_ ≠ (v1144 : Value).ownBlock ∧ some k_ ≠ (v1147 : Value).ownBlock ∧ some k_ ≠ (v1152 : Value).ownBlock ∧ some k_ ≠ (v1156 : Value).ownBlock ∧ some k_ ≠ (v1160 : Value).ownBlock) v1139 t1138) ∧ Aside0 (Kd.R k29 29 wc w.heap.size (fun k_ => some k_ ≠ ((.slice Ao620 t1130.length co620) : Value).ownBlock ∧ some k_ ≠ ((.slice Ao621 t1134.length co621) : Value).ownBlock ∧ some k_ ≠ (v1139 : Value).ownBlock ∧ some k_ ≠ (v1147 : Value).ownBlock ∧ some k_ ≠ (v1152 : Value).ownBlock ∧ some k_ ≠ (v1156 : Value).ownBlock ∧ some k_ ≠ (v1160 : Value).ownBlock) v1144 t1142) ∧ Aside0 (Kd.R k29 29 wc w.heap.size (fun k_ => some k_ ≠ ((.slice Ao620 t1130.length co620) : Value).ownBlock ∧ some k_ ≠ ((.slice Ao621 t1134.length co621) : Value).ownBlock ∧ some k_ ≠ (v1139 : Value).ownBlock ∧ some k_ ≠ (v1144 : Value).ownBlock ∧ some k_ ≠ (v1152 : Value).ownBlock ∧ some k_ ≠ (v1156 : Value).ownBlock ∧ some k_ ≠ (v1160 : Value).ownBlock) v1147 t1146) ∧ Aside0 (Kd.R k29 29 wc w.heap.size (fun k_ => some k_ ≠ ((.slice Ao620 t1130.length co620) : Value).ownBlock ∧ some k_ ≠ ((.slice Ao621 t1134.length co621) : Value).ownBlock ∧ some k_ ≠ (v1139 : Value).ownBlock ∧ some k_ ≠ (v1144 : Value).ownBlock ∧ some k_ ≠ (v1147 : Value).ownBlock ∧ some k_ ≠ (v1156 : Value).ownBlock ∧ some k_ ≠ (v1160 : Value).ownBlock) v1152 t1150) ∧ Aside0 (Kd.R k29 29 wc w.heap.size (fun k_ => some k_ ≠ ((.slice Ao620 t1130.length co620) : Value).ownBlock ∧ some k_ ≠ ((.slice Ao621 t1134.length co621) : Value).ownBlock ∧ some k_ ≠ (v1139 : Value).ownBlock ∧ some k_ ≠ (v1144 : Value).ownBlock ∧ some k_ ≠ (v1147 : Value).ownBlock ∧ some k_ ≠ (v1152 : Value).ownBlock ∧ some k_ ≠ (v1160 : Value).ownBlock) v1156 t1154) ∧ Aside0 (Kd.R k29 29 wc w.heap.size (fun k_ => some k_ ≠ ((.slice Ao620 t1130.length co620) : Value).ownBlock ∧ some k_ ≠ ((.slice Ao621 t1134.length co621) : Value).ownBlock ∧ some k_ ≠ (v1139 : Value).ownBlock ∧ some k_ ≠ (v1144 : Value).ownBlock ∧ some k_ ≠ (v1147 : Value).ownBlock ∧ some k_ ≠ (v1152 : Value).ownBlock ∧ some k_ ≠ (v1156 : Value).ownBlock) v1160 t1158) ∧ Aside0 (Below w.heap.size w wc))
                    case first =>
                      as_aux_lemma =>
                        have H := HC634.out
                        clear HC634
                        replace H := Option.bind_eq_some_iff.mp H
                        obtain ⟨t1162, A6350, H⟩ := H
                        replace H : (if t1162 = true then ((thistlelaw02_sound.f kj618 t1142).bind fun t1163 => (if t1163 = true then ((thistlelaw02_sound.f kj618 t1146).bind fun t1164 => (if t1164 = true then ((thistlelaw02_sound.f kj618 t1150).bind fun t1165 => (if t1165 = true then ((thistlelaw02_sound.f kj618 t1158).bind fun t1166 => (thistlelaw02_SetsRing.j2 kj618 t1130 t1134 t1138 t1142 t1146 t1150 t1154 t1158 (!t1166))) else (thistlelaw02_SetsRing.j2 kj618 t1130 t1134 t1138 t1142 t1146 t1150 t1154 t1158 true))) else (thistlelaw02_SetsRing.j2 kj618 t1130 t1134 t1138 t1142 t1146 t1150 t1154 t1158 true))) else (thistlelaw02_SetsRing.j2 kj618 t1130 t1134 t1138 t1142 t1146 t1150 t1154 t1158 true))) else (thistlelaw02_SetsRing.j2 kj618 t1130 t1134 t1138 t1142 t1146 t1150 t1154 t1158 true)) = some r := H
                        have A635 := Aside0.mk A6350
                        clear A6350
                        by_cases c636 : t1162 = true
                        · subst c636
                          have H1 : ((thistlelaw02_sound.f kj618 t1142).bind fun t1163 => (if t1163 = true then ((thistlelaw02_sound.f kj618 t1146).bind fun t1164 => (if t1164 = true then ((thistlelaw02_sound.f kj618 t1150).bind fun t1165 => (if t1165 = true then ((thistlelaw02_sound.f kj618 t1158).bind fun t1166 => (thistlelaw02_SetsRing.j2 kj618 t1130 t1134 t1138 t1142 t1146 t1150 t1154 t1158 (!t1166))) else (thistlelaw02_SetsRing.j2 kj618 t1130 t1134 t1138 t1142 t1146 t1150 t1154 t1158 true))) else (thistlelaw02_SetsRing.j2 kj618 t1130 t1134 t1138 t1142 t1146 t1150 t1154 t1158 true))) else (thistlelaw02_SetsRing.j2 kj618 t1130 t1134 t1138 t1142 t1146 t1150 t1154 t1158 true))) = some r := by rw [if_pos rfl] at H; exact H
                          clear H
                          have H := H1
                          clear H1
                          replace H := Option.bind_eq_some_iff.mp H
                          obtain ⟨t1163, A6370, H⟩ := H
                          replace H : (if t1163 = true then ((thistlelaw02_sound.f kj618 t1146).bind fun t1164 => (if t1164 = true then ((thistlelaw02_sound.f kj618 t1150).bind fun t1165 => (if t1165 = true then ((thistlelaw02_sound.f kj618 t1158).bind fun t1166 => (thistlelaw02_SetsRing.j2 kj618 t1130 t1134 t1138 t1142 t1146 t1150 t1154 t1158 (!t1166))) else (thistlelaw02_SetsRing.j2 kj618 t1130 t1134 t1138 t1142 t1146 t1150 t1154 t1158 true))) else (thistlelaw02_SetsRing.j2 kj618 t1130 t1134 t1138 t1142 t1146 t1150 t1154 t1158 true))) else (thistlelaw02_SetsRing.j2 kj618 t1130 t1134 t1138 t1142 t1146 t1150 t1154 t1158 true)) = some r := H
                          have A637 := Aside0.mk A6370
                          clear A6370
                          by_cases c638 : t1163 = true
                          · subst c638
                            have H1 : ((thistlelaw02_sound.f kj618 t1146).bind fun t1164 => (if t1164 = true then ((thistlelaw02_sound.f kj618 t1150).bind fun t1165 => (if t1165 = true then ((thistlelaw02_sound.f kj618 t1158).bind fun t1166 => (thistlelaw02_SetsRing.j2 kj618 t1130 t1134 t1138 t1142 t1146 t1150 t1154 t1158 (!t1166))) else (thistlelaw02_SetsRing.j2 kj618 t1130 t1134 t1138 t1142 t1146 t1150 t1154 t1158 true))) else (thistlelaw02_SetsRing.j2 kj618 t1130 t1134 t1138 t1142 t1146 t1150 t1154 t1158 true))) = some r := by rw [if_pos rfl] at H; exact H
                            clear H
                            have H := H1
                            clear H1
                            replace H := Option.bind_eq_some_iff.mp H
                            obtain ⟨t1164, A6390, H⟩ := H
                            replace H : (if t1164 = true then ((thistlelaw02_sound.f kj618 t1150).bind fun t1165 => (if t1165 = true then ((thistlelaw02_sound.f kj618 t1158).bind fun t1166 => (thistlelaw02_SetsRing.j2 kj618 t1130 t1134 t1138 t1142 t1146 t1150 t1154 t1158 (!t1166))) else (thistlelaw02_SetsRing.j2 kj618 t1130 t1134 t1138 t1142 t1146 t1150 t1154 t1158 true))) else (thistlelaw02_SetsRing.j2 kj618 t1130 t1134 t1138 t1142 t1146 t1150 t1154 t1158 true)) = some r := H
                            have A639 := Aside0.mk A6390
                            clear A6390
                            by_cases c640 : t1164 = true
                            · subst c640
                              have H1 : ((thistlelaw02_sound.f kj618 t1150).bind fun t1165 => (if t1165 = true then ((thistlelaw02_sound.f kj618 t1158).bind fun t1166 => (thistlelaw02_SetsRing.j2 kj618 t1130 t1134 t1138 t1142 t1146 t1150 t1154 t1158 (!t1166))) else (thistlelaw02_SetsRing.j2 kj618 t1130 t1134 t1138 t1142 t1146 t1150 t1154 t1158 true))) = some r := by rw [if_pos rfl] at H; exact H
                              clear H
                              have H := H1
                              clear H1
                              replace H := Option.bind_eq_some_iff.mp H
                              obtain ⟨t1165, A6410, H⟩ := H
                              replace H : (if t1165 = true then ((thistlelaw02_sound.f kj618 t1158).bind fun t1166 => (thistlelaw02_SetsRing.j2 kj618 t1130 t1134 t1138 t1142 t1146 t1150 t1154 t1158 (!t1166))) else (thistlelaw02_SetsRing.j2 kj618 t1130 t1134 t1138 t1142 t1146 t1150 t1154 t1158 true)) = some r := H
                              have A641 := Aside0.mk A6410
                              clear A6410
                              by_cases c642 : t1165 = true
                              · subst c642
                                have H1 : ((thistlelaw02_sound.f kj618 t1158).bind fun t1166 => (thistlelaw02_SetsRing.j2 kj618 t1130 t1134 t1138 t1142 t1146 t1150 t1154 t1158 (!t1166))) = some r := by rw [if_pos rfl] at H; exact H
                                clear H
                                have H := H1
                                clear H1
                                replace H := Option.bind_eq_some_iff.mp H
                                obtain ⟨t1166, A6430, H⟩ := H
                                replace H : (thistlelaw02_SetsRing.j2 kj618 t1130 t1134 t1138 t1142 t1146 t1150 t1154 t1158 (!t1166)) = some r := H
                                have A643 := Aside0.mk A6430
                                clear A6430
                                as_aux_lemma =>
                                  have H' := Aside0.mk H
                                  clear H
                                  obtain ⟨Ao644, co644, eo644⟩ := Kd.R_slice HO_9.out
                                  subst eo644
                                  have tok1_ : True := trivial
                                  have tok2_ : True := trivial
                                  have tok3_ : True := trivial
                                  have tok4_ : True := trivial
                                  have tok5_ : True := trivial
                                  go_wp2_with (first | ((with_reducible refine gate_callee (f := 11) rfl ?_); clear tok1_; refine goesL_ (some 113) rfl rfl Tryd.func11 (by kernel_rfl) rfl #[.slice Ao644 t1138.length co644] rfl (by (try simp only [List.map_toArray, List.map_cons, List.map_nil]); first | done | rfl | (simp only [List.length_drop, List.length_take]; rfl)) ?_; (with_reducible refine (thistlelaw02_sound.calls kj618 _ _ t1138 true _ ?side1 ?side2 A635.out).mono ?_); (case side1 => repeat (first | exact (Kd.R_reads' HO_9.out).2.2 | (with_reducible refine Kd.C_alloc ?_ _) | (with_reducible refine Kd.C_drewN ?_ _) | (with_reducible refine Kd.C_drew ?_))); (case side2 => exact (Kd.R_reads' HO_9.out).2.1); rintro e w' ⟨rfl, ⟨nd, rfl⟩⟩; refine ⟨_, rfl, ?_⟩; obtain ⟨Ao645, co645, eo645⟩ := Kd.R_slice HO_11.out; subst eo645) | (go_at_call 11; clear tok2_; (with_reducible refine (thistlelaw02_sound.calls kj618 _ _ t1142 true _ ?side1 ?side2 A637.out).mono ?_); (case side1 => repeat (first | exact (Kd.R_reads' HO_11.out).2.2 | (with_reducible refine Kd.C_alloc ?_ _) | (with_reducible refine Kd.C_drewN ?_ _) | (with_reducible refine Kd.C_drew ?_))); (case side2 => exact (Kd.R_reads' HO_11.out).2.1); rintro e w' ⟨rfl, ⟨nd, rfl⟩⟩; obtain ⟨Ao646, co646, eo646⟩ := Kd.R_slice HO_13.out; subst eo646) | (go_at_call 11; clear tok3_; (with_reducible refine (thistlelaw02_sound.calls kj618 _ _ t1146 true _ ?side1 ?side2 A639.out).mono ?_); (case side1 => repeat (first | exact (Kd.R_reads' HO_13.out).2.2 | (with_reducible refine Kd.C_alloc ?_ _) | (with_reducible refine Kd.C_drewN ?_ _) | (with_reducible refine Kd.C_drew ?_))); (case side2 => exact (Kd.R_reads' HO_13.out).2.1); rintro e w' ⟨rfl, ⟨nd, rfl⟩⟩; obtain ⟨Ao647, co647, eo647⟩ := Kd.R_slice HO_15.out; subst eo647) | (go_at_call 11; clear tok4_; (with_reducible refine (thistlelaw02_sound.calls kj618 _ _ t1150 true _ ?side1 ?side2 A641.out).mono ?_); (case side1 => repeat (first | exact (Kd.R_reads' HO_15.out).2.2 | (with_reducible refine Kd.C_alloc ?_ _) | (with_reducible refine Kd.C_drewN ?_ _) | (with_reducible refine Kd.C_drew ?_))); (case side2 => exact (Kd.R_reads' HO_15.out).2.1); rintro e w' ⟨rfl, ⟨nd, rfl⟩⟩; obtain ⟨Ao648, co648, eo648⟩ := Kd.R_slice HO_19.out; subst eo648) | (go_at_call 11; clear tok5_; (with_reducible refine (thistlelaw02_sound.calls kj618 _ _ t1158 t1166 _ ?side1 ?side2 A643.out).mono ?_); (case side1 => repeat (first | exact (Kd.R_reads' HO_19.out).2.2 | (with_reducible refine Kd.C_alloc ?_ _) | (with_reducible refine Kd.C_drewN ?_ _) | (with_reducible refine Kd.C_drew ?_))); (case side2 => exact (Kd.R_reads' HO_19.out).2.1); rintro e w' ⟨rfl, ⟨nd, rfl⟩⟩))
                                  go_meet
                                  case rel => exact ⟨_, (!t1166), (by first | rfl | (simp; done) | (simp [*]; done)), H', ⟨by have := HJ606.out; have := HJ618.out; first | omega | exact Nat.le_refl _⟩, ⟨by (with_reducible repeat (first | apply Kd.R_alloc | apply Kd.R_drewN | apply Kd.R_drew)); exact HO_5.out⟩, ⟨by (with_reducible repeat (first | apply Kd.R_alloc | apply Kd.R_drewN | apply Kd.R_drew)); exact HO_7.out⟩, ⟨by (with_reducible repeat (first | apply Kd.R_alloc | apply Kd.R_drewN | apply Kd.R_drew)); exact HO_9.out⟩, ⟨by (with_reducible repeat (first | apply Kd.R_alloc | apply Kd.R_drewN | apply Kd.R_drew)); exact HO_11.out⟩, ⟨by (with_reducible repeat (first | apply Kd.R_alloc | apply Kd.R_drewN | apply Kd.R_drew)); exact HO_13.out⟩, ⟨by (with_reducible repeat (first | apply Kd.R_alloc | apply Kd.R_drewN | apply Kd.R_drew)); exact HO_15.out⟩, ⟨by (with_reducible repeat (first | apply Kd.R_alloc | apply Kd.R_drewN | apply Kd.R_drew)); exact HO_17.out⟩, ⟨by (with_reducible repeat (first | apply Kd.R_alloc | apply Kd.R_drewN | apply Kd.R_drew)); exact HO_19.out⟩, ⟨by repeat (first | (with_reducible first | exact HB.out | apply below_alloc | apply pw_below_drewN | apply below_drew1) | exact HB.out)⟩⟩
                              · replace c642 := Bool.eq_false_iff.mpr c642
                                subst c642
                                have H1 : (thistlelaw02_SetsRing.j2 kj618 t1130 t1134 t1138 t1142 t1146 t1150 t1154 t1158 true) = some r := by rw [if_neg (show ¬ (false = true) by decide)] at H; exact H
                                clear H
                                have H := H1
                                clear H1
                                as_aux_lemma =>
                                  exact absurd (H.trans (congrArg some hrt.out)) (by (first | (cases kj618 <;> simp [thistlelaw02_SetsRing.j2]) | (unfold thistlelaw02_SetsRing.j2; split <;> simp)))
                            · replace c640 := Bool.eq_false_iff.mpr c640
                              subst c640
                              have H1 : (thistlelaw02_SetsRing.j2 kj618 t1130 t1134 t1138 t1142 t1146 t1150 t1154 t1158 true) = some r := by rw [if_neg (show ¬ (false = true) by decide)] at H; exact H
                              clear H
                              have H := H1
                              clear H1
                              as_aux_lemma =>
                                exact absurd (H.trans (congrArg some hrt.out)) (by (first | (cases kj618 <;> simp [thistlelaw02_SetsRing.j2]) | (unfold thistlelaw02_SetsRing.j2; split <;> simp)))
                          · replace c638 := Bool.eq_false_iff.mpr c638
                            subst c638
                            have H1 : (thistlelaw02_SetsRing.j2 kj618 t1130 t1134 t1138 t1142 t1146 t1150 t1154 t1158 true) = some r := by rw [if_neg (show ¬ (false = true) by decide)] at H; exact H
                            clear H
                            have H := H1
                            clear H1
                            as_aux_lemma =>
                              exact absurd (H.trans (congrArg some hrt.out)) (by (first | (cases kj618 <;> simp [thistlelaw02_SetsRing.j2]) | (unfold thistlelaw02_SetsRing.j2; split <;> simp)))
                        · replace c636 := Bool.eq_false_iff.mpr c636
                          subst c636
                          have H1 : (thistlelaw02_SetsRing.j2 kj618 t1130 t1134 t1138 t1142 t1146 t1150 t1154 t1158 true) = some r := by rw [if_neg (show ¬ (false = true) by decide)] at H; exact H
                          clear H
                          have H := H1
                          clear H1
                          as_aux_lemma =>
                            exact absurd (H.trans (congrArg some hrt.out)) (by (first | (cases kj618 <;> simp [thistlelaw02_SetsRing.j2]) | (unfold thistlelaw02_SetsRing.j2; split <;> simp)))
                    case rest =>
                      as_aux_lemma =>
                        clear HC634
                        (try clear c1); (try clear c2); (try clear p2); (try clear c5); (try clear c6); (try clear c8); (try clear c9); (try clear c11); (try clear c22); (try clear c23); (try clear c24); (try clear c25); (try clear c26); (try clear c60); (try clear c61); (try clear c62); (try clear c63); (try clear c64); (try clear c604); (try clear c611); (try clear c611b0); (try clear c611b1); (try clear c612); (try clear c628); (try clear c628b0); (try clear c628b1); (try clear c629); (try clear c629b0); (try clear c629b1); (try clear c630); (try clear c630b0); (try clear c630b1); (try clear c631); (try clear c631b0); (try clear c631b1); (try clear c632); (try clear c632b0); (try clear c632b1); (try clear c633); (try clear c636); (try clear c638); (try clear c640); (try clear c642); (try clear p2)
                        obtain ⟨kq, x134_633, rfl, HA, HJ633, HO_5, HO_7, HO_9, HO_11, HO_13, HO_15, HO_17, HO_19, HB⟩ := hcut
                        cases kq with
                        | zero => exact absurd HA.out (by simp [thistlelaw02_SetsRing.j2])
                        | succ kj633 =>
                          have H := HA.out
                          clear HA
                          simp only [thistlelaw02_SetsRing.j2] at H
                          by_cases c649 : x134_633 = true
                          · subst c649
                            have H1 : (some false) = some r := by rw [if_pos rfl] at H; exact H
                            clear H
                            have H := H1
                            clear H1
                            as_aux_lemma =>
                              exact absurd (H.trans (congrArg some hrt.out)) (by simp)
                          · replace c649 := Bool.eq_false_iff.mpr c649
                            subst c649
                            have H1 : ((thistlelaw02_ends.f kj633 t1130).bind fun t1167 => ((thistlelaw02_ends.f kj633 t1134).bind fun t1170 => (if t1167.length + t1170.length < 17592186044416 then (thistlelaw02_SetsRing.l0 kj633 t1130 t1134 t1138 t1142 t1146 t1150 t1154 t1158 (t1167 ++ t1170) 0) else (none)))) = some r := by rw [if_neg (show ¬ (false = true) by decide)] at H; exact H
                            clear H
                            have H := H1
                            clear H1
                            replace H := Option.bind_eq_some_iff.mp H
                            obtain ⟨t1167, A6500, H⟩ := H
                            replace H : ((thistlelaw02_ends.f kj633 t1134).bind fun t1170 => (if t1167.length + t1170.length < 17592186044416 then (thistlelaw02_SetsRing.l0 kj633 t1130 t1134 t1138 t1142 t1146 t1150 t1154 t1158 (t1167 ++ t1170) 0) else (none))) = some r := H
                            have A650 := Aside0.mk A6500
                            clear A6500
                            replace H := Option.bind_eq_some_iff.mp H
                            obtain ⟨t1170, A6510, H⟩ := H
                            replace H : (if t1167.length + t1170.length < 17592186044416 then (thistlelaw02_SetsRing.l0 kj633 t1130 t1134 t1138 t1142 t1146 t1150 t1154 t1158 (t1167 ++ t1170) 0) else (none)) = some r := H
                            have A651 := Aside0.mk A6510
                            clear A6510
                            by_cases c652 : t1167.length + t1170.length < 17592186044416
                            · rw [if_pos c652] at H
                              have LMc652 := Aside0.mk c652
                              clear c652
                              obtain ⟨y1173, hy1173⟩ : ∃ y_ : List Int, y_ = (t1167 ++ t1170) := ⟨_, rfl⟩
                              replace H : (thistlelaw02_SetsRing.l0 kj633 t1130 t1134 t1138 t1142 t1146 t1150 t1154 t1158 y1173 0) = some r := by first | (rw [hy1173]; with_reducible exact H) | (have H2_ := (Option.bind_some _ _).symm.trans H; rw [hy1173]; with_reducible exact H2_) | (have H2_ := (Option.bind_some _ _).symm.trans H; with_reducible exact H2_) | with_reducible exact H | (rw [hy1173]; exact H) | exact H
                              have Ny1173 := Aside0.mk hy1173
                              clear hy1173
                              have H' := Aside0.mk H
                              clear H
                              have tok6_ : True := trivial
                              have tok7_ : True := trivial
                              go_wp2_with (first | ((with_reducible refine gate_callee (f := 12) rfl ?_); clear tok6_; refine goesL_ (some 136) rfl rfl Tryd.func12 (by kernel_rfl) rfl #[.slice Ao620 t1130.length co620] rfl (by (try simp only [List.map_toArray, List.map_cons, List.map_nil]); first | done | rfl | (simp only [List.length_drop, List.length_take]; rfl)) ?_; (with_reducible refine (thistlelaw02_ends.calls kj633 _ _ t1130 t1167 _ ?side1 ?side2 A650.out).mono ?_); (case side1 => repeat (first | exact (Kd.R_reads' HO_5.out).2.2 | (with_reducible refine Kd.C_alloc ?_ _) | (with_reducible refine Kd.C_drewN ?_ _) | (with_reducible refine Kd.C_drew ?_))); (case side2 => exact (Kd.R_reads' HO_5.out).2.1); rintro e w653 ⟨v1168, rfl, ho0, hb⟩; refine ⟨_, rfl, ?_⟩; have n0_ := Aside0.mk (Kd.R_below (by (with_reducible repeat (first | apply Kd.R_alloc | apply Kd.R_drewN | apply Kd.R_drew)); exact HO_5.out) hb); have n1_ := Aside0.mk (Kd.R_below (by (with_reducible repeat (first | apply Kd.R_alloc | apply Kd.R_drewN | apply Kd.R_drew)); exact HO_7.out) hb); have n2_ := Aside0.mk (Kd.R_below (by (with_reducible repeat (first | apply Kd.R_alloc | apply Kd.R_drewN | apply Kd.R_drew)); exact HO_9.out) hb); have n3_ := Aside0.mk (Kd.R_below (by (with_reducible repeat (first | apply Kd.R_alloc | apply Kd.R_drewN | apply Kd.R_drew)); exact HO_11.out) hb); have n4_ := Aside0.mk (Kd.R_below (by (with_reducible repeat (first | apply Kd.R_alloc | apply Kd.R_drewN | apply Kd.R_drew)); exact HO_13.out) hb); have n5_ := Aside0.mk (Kd.R_below (by (with_reducible repeat (first | apply Kd.R_alloc | apply Kd.R_drewN | apply Kd.R_drew)); exact HO_15.out) hb); have n6_ := Aside0.mk (Kd.R_below (by (with_reducible repeat (first | apply Kd.R_alloc | apply Kd.R_drewN | apply Kd.R_drew)); exact HO_17.out) hb); have n7_ := Aside0.mk (Kd.R_below (by (with_reducible repeat (first | apply Kd.R_alloc | apply Kd.R_drewN | apply Kd.R_drew)); exact HO_19.out) hb); have n8_ := Aside0.mk (Kd.R_lower ho0 (below_size (by repeat (first | (with_reducible first | exact HB.out | apply below_alloc | apply pw_below_drewN | apply below_drew1) | exact HB.out)))); have n9_ := Aside0.mk (below_step (by repeat (first | (with_reducible first | exact HB.out | apply below_alloc | apply pw_below_drewN | apply below_drew1) | exact HB.out)) hb); clear HO_5; clear HO_7; clear HO_9; clear HO_11; clear HO_13; clear HO_15; clear HO_17; clear HO_19; clear HB; have HO_5 := n0_; have HO_7 := n1_; have HO_9 := n2_; have HO_11 := n3_; have HO_13 := n4_; have HO_15 := n5_; have HO_17 := n6_; have HO_19 := n7_; have HO1169 := n8_; have HB := n9_; clear n0_ n1_ n2_ n3_ n4_ n5_ n6_ n7_ n8_ n9_; (try clear hb); (try clear hb2); (try clear hk); (try clear hi); (try clear ho0)) | ((with_reducible refine gate_callee (f := 12) rfl ?_); clear tok7_; refine goesL_ (some 139) rfl rfl Tryd.func12 (by kernel_rfl) rfl #[.slice Ao621 t1134.length co621] rfl (by (try simp only [List.map_toArray, List.map_cons, List.map_nil]); first | done | rfl | (simp only [List.length_drop, List.length_take]; rfl)) ?_; (with_reducible refine (thistlelaw02_ends.calls kj633 _ _ t1134 t1170 _ ?side1 ?side2 A651.out).mono ?_); (case side1 => repeat (first | exact (Kd.R_reads' HO_7.out).2.2 | (with_reducible refine Kd.C_alloc ?_ _) | (with_reducible refine Kd.C_drewN ?_ _) | (with_reducible refine Kd.C_drew ?_))); (case side2 => exact (Kd.R_reads' HO_7.out).2.1); rintro e w654 ⟨v1171, rfl, ho0, hb⟩; refine ⟨_, rfl, ?_⟩; have n0_ := Aside0.mk (Kd.R_below (by (with_reducible repeat (first | apply Kd.R_alloc | apply Kd.R_drewN | apply Kd.R_drew)); exact HO_5.out) hb); have n1_ := Aside0.mk (Kd.R_below (by (with_reducible repeat (first | apply Kd.R_alloc | apply Kd.R_drewN | apply Kd.R_drew)); exact HO_7.out) hb); have n2_ := Aside0.mk (Kd.R_below (by (with_reducible repeat (first | apply Kd.R_alloc | apply Kd.R_drewN | apply Kd.R_drew)); exact HO_9.out) hb); have n3_ := Aside0.mk (Kd.R_below (by (with_reducible repeat (first | apply Kd.R_alloc | apply Kd.R_drewN | apply Kd.R_drew)); exact HO_11.out) hb); have n4_ := Aside0.mk (Kd.R_below (by (with_reducible repeat (first | apply Kd.R_alloc | apply Kd.R_drewN | apply Kd.R_drew)); exact HO_13.out) hb); have n5_ := Aside0.mk (Kd.R_below (by (with_reducible repeat (first | apply Kd.R_alloc | apply Kd.R_drewN | apply Kd.R_drew)); exact HO_15.out) hb); have n6_ := Aside0.mk (Kd.R_below (by (with_reducible repeat (first | apply Kd.R_alloc | apply Kd.R_drewN | apply Kd.R_drew)); exact HO_17.out) hb); have n7_ := Aside0.mk (Kd.R_below (by (with_reducible repeat (first | apply Kd.R_alloc | apply Kd.R_drewN | apply Kd.R_drew)); exact HO_19.out) hb); have n8_ := Aside0.mk (Kd.R_elder' (by (with_reducible repeat (first | apply Kd.R_alloc | apply Kd.R_drewN | apply Kd.R_drew)); exact HO1169.out) (Kd.R_base ho0) hb); have n9_ := Aside0.mk (Kd.R_lower (Kd.R_new' ho0 (Kd.R_lt (by (with_reducible repeat (first | apply Kd.R_alloc | apply Kd.R_drewN | apply Kd.R_drew)); exact HO1169.out))) (below_size (by repeat (first | (with_reducible first | exact HB.out | apply below_alloc | apply pw_below_drewN | apply below_drew1) | exact HB.out)))); have n10_ := Aside0.mk (below_step (by repeat (first | (with_reducible first | exact HB.out | apply below_alloc | apply pw_below_drewN | apply below_drew1) | exact HB.out)) hb); clear HO_5; clear HO_7; clear HO_9; clear HO_11; clear HO_13; clear HO_15; clear HO_17; clear HO_19; clear HO1169; clear HB; have HO_5 := n0_; have HO_7 := n1_; have HO_9 := n2_; have HO_11 := n3_; have HO_13 := n4_; have HO_15 := n5_; have HO_17 := n6_; have HO_19 := n7_; have HO1169 := n8_; have HO1172 := n9_; have HB := n10_; clear n0_ n1_ n2_ n3_ n4_ n5_ n6_ n7_ n8_ n9_ n10_; (try clear hb); (try clear hb2); (try clear hk); (try clear hi); (try clear ho0); obtain ⟨Ao656, co656, eo656⟩ := Kd.R_slice HO1172.out; subst eo656) | ((with_reducible refine gate_builtin (b := .append) (xs := #[.tmp 137, .tmp 139]) rfl ?_); at_builtin; refine Kd.R_append_rows (Kd.int .i64) (w0 := w) w.heap.size rfl (.tmp 137) (.tmp 139) 32 3 (.int .i64 0) 8 rfl Tryd.underlying32 info3 rfl (by decide) (by omega) v1168 t1167 t1170 _ _ _ (fun k_ => some k_ ≠ (.slice Ao656 t1170.length co656 : Value).ownBlock) (fun _ => False) rfl rfl ?aO ?aR (fun _ _ h => h) (fun _ h => h.elim) ?aF ?aB ?aS ?aL ?_; (case aR => repeat (first | exact (Kd.R_reads' HO1172.out).2.2 | (with_reducible refine Kd.C_alloc ?_ _) | (with_reducible refine Kd.C_drewN ?_ _) | (with_reducible refine Kd.C_drew ?_))); (case aB => exact (by repeat (first | (with_reducible first | exact HB.out | apply below_alloc | apply pw_below_drewN | apply below_drew1) | exact HB.out))); (case aF => exact (fun k_ hk => Kd.fresh' (Kd.R_lt (by (with_reducible repeat (first | apply Kd.R_alloc | apply Kd.R_drewN | apply Kd.R_drew)); exact HO1172.out)) k_ hk)); (case aO => exact (by (with_reducible repeat (first | apply Kd.R_alloc | apply Kd.R_drewN | apply Kd.R_drew)); exact Kd.R_mono HO1169.out (fun _ hk => hk.2))); (case aS => exact (below_size (by repeat (first | (with_reducible first | exact HB.out | apply below_alloc | apply pw_below_drewN | apply below_drew1) | exact HB.out)))); (case aL => have := LMc652.out; omega); intro v1174 w655 ho hb hg hat; rw [← Ny1173.out] at ho; have n0_ := Aside0.mk (Kd.R_over' (by (with_reducible repeat (first | apply Kd.R_alloc | apply Kd.R_drewN | apply Kd.R_drew)); exact HO_5.out) (Kd.R_typed (by (with_reducible repeat (first | apply Kd.R_alloc | apply Kd.R_drewN | apply Kd.R_drew)); exact HO1169.out)) (by decide) hg); have n1_ := Aside0.mk (Kd.R_over' (by (with_reducible repeat (first | apply Kd.R_alloc | apply Kd.R_drewN | apply Kd.R_drew)); exact HO_7.out) (Kd.R_typed (by (with_reducible repeat (first | apply Kd.R_alloc | apply Kd.R_drewN | apply Kd.R_drew)); exact HO1169.out)) (by decide) hg); have n2_ := Aside0.mk (Kd.R_over' (by (with_reducible repeat (first | apply Kd.R_alloc | apply Kd.R_drewN | apply Kd.R_drew)); exact HO_9.out) (Kd.R_typed (by (with_reducible repeat (first | apply Kd.R_alloc | apply Kd.R_drewN | apply Kd.R_drew)); exact HO1169.out)) (by decide) hg); have n3_ := Aside0.mk (Kd.R_over' (by (with_reducible repeat (first | apply Kd.R_alloc | apply Kd.R_drewN | apply Kd.R_drew)); exact HO_11.out) (Kd.R_typed (by (with_reducible repeat (first | apply Kd.R_alloc | apply Kd.R_drewN | apply Kd.R_drew)); exact HO1169.out)) (by decide) hg); have n4_ := Aside0.mk (Kd.R_over' (by (with_reducible repeat (first | apply Kd.R_alloc | apply Kd.R_drewN | apply Kd.R_drew)); exact HO_13.out) (Kd.R_typed (by (with_reducible repeat (first | apply Kd.R_alloc | apply Kd.R_drewN | apply Kd.R_drew)); exact HO1169.out)) (by decide) hg); have n5_ := Aside0.mk (Kd.R_over' (by (with_reducible repeat (first | apply Kd.R_alloc | apply Kd.R_drewN | apply Kd.R_drew)); exact HO_15.out) (Kd.R_typed (by (with_reducible repeat (first | apply Kd.R_alloc | apply Kd.R_drewN | apply Kd.R_drew)); exact HO1169.out)) (by decide) hg); have n6_ := Aside0.mk (Kd.R_over' (by (with_reducible repeat (first | apply Kd.R_alloc | apply Kd.R_drewN | apply Kd.R_drew)); exact HO_17.out) (Kd.R_typed (by (with_reducible repeat (first | apply Kd.R_alloc | apply Kd.R_drewN | apply Kd.R_drew)); exact HO1169.out)) (by decide) hg); have n7_ := Aside0.mk (Kd.R_over' (by (with_reducible repeat (first | apply Kd.R_alloc | apply Kd.R_drewN | apply Kd.R_drew)); exact HO_19.out) (Kd.R_typed (by (with_reducible repeat (first | apply Kd.R_alloc | apply Kd.R_drewN | apply Kd.R_drew)); exact HO1169.out)) (by decide) hg); have n8_ := Aside0.mk (Kd.R_after (ok := (fun _ => True)) (by (with_reducible repeat (first | apply Kd.R_alloc | apply Kd.R_drewN | apply Kd.R_drew)); exact HO1172.out) hg hat); have n9_ := Aside0.mk (hb); have n10_ := Aside0.mk (ho); clear HO_5; clear HO_7; clear HO_9; clear HO_11; clear HO_13; clear HO_15; clear HO_17; clear HO_19; clear HO1172; clear HB; clear HO1169; have HO_5 := n0_; have HO_7 := n1_; have HO_9 := n2_; have HO_11 := n3_; have HO_13 := n4_; have HO_15 := n5_; have HO_17 := n6_; have HO_19 := n7_; have HO1172 := n8_; have HB := n9_; have HO1175 := n10_; clear n0_ n1_ n2_ n3_ n4_ n5_ n6_ n7_ n8_ n9_ n10_; clear ho hb hg hat))
                              go_loopg [22] kj633 (fun kq v22 w' => ∃ (x22_4 : Int), v22 = .int .i64 x22_4 ∧ Aside0 (thistlelaw02_SetsRing.l0 kq t1130 t1134 t1138 t1142 t1146 t1150 t1154 t1158 y1173 x22_4 = some r) ∧ Aside0 (kq ≤ kj633) ∧ Aside0 (Kd.R k29 29 w' w.heap.size (fun k_ => some k_ ≠ ((.slice Ao621 t1134.length co621) : Value).ownBlock ∧ some k_ ≠ (v1139 : Value).ownBlock ∧ some k_ ≠ (v1144 : Value).ownBlock ∧ some k_ ≠ (v1147 : Value).ownBlock ∧ some k_ ≠ (v1152 : Value).ownBlock ∧ some k_ ≠ (v1156 : Value).ownBlock ∧ some k_ ≠ (v1160 : Value).ownBlock) (.slice Ao620 t1130.length co620) t1130) ∧ Aside0 (Kd.R k29 29 w' w.heap.size (fun k_ => some k_ ≠ ((.slice Ao620 t1130.length co620) : Value).ownBlock ∧ some k_ ≠ (v1139 : Value).ownBlock ∧ some k_ ≠ (v1144 : Value).ownBlock ∧ some k_ ≠ (v1147 : Value).ownBlock ∧ some k_ ≠ (v1152 : Value).ownBlock ∧ some k_ ≠ (v1156 : Value).ownBlock ∧ some k_ ≠ (v1160 : Value).ownBlock) (.slice Ao621 t1134.length co621) t1134) ∧ Aside0 (Kd.R k29 29 w' w.heap.size (fun k_ => some k_ ≠ ((.slice Ao620 t1130.length co620) : Value).ownBlock ∧ some k_ ≠ ((.slice Ao621 t1134.length co621) : Value).ownBlock ∧ some k_ ≠ (v1144 : Value).ownBlock ∧ some k_ ≠ (v1147 : Value).ownBlock ∧ some k_ ≠ (v1152 : Value).ownBlock ∧ some k_ ≠ (v1156 : Value).ownBlock ∧ some k_ ≠ (v1160 : Value).ownBlock) v1139 t1138) ∧ Aside0 (Kd.R k29 29 w' w.heap.size (fun k_ => some k_ ≠ ((.slice Ao620 t1130.length co620) : Value).ownBlock ∧ some k_ ≠ ((.slice Ao621 t1134.length co621) : Value).ownBlock ∧ some k_ ≠ (v1139 : Value).ownBlock ∧ some k_ ≠ (v1147 : Value).ownBlock ∧ some k_ ≠ (v1152 : Value).ownBlock ∧ some k_ ≠ (v1156 : Value).ownBlock ∧ some k_ ≠ (v1160 : Value).ownBlock) v1144 t1142) ∧ Aside0 (Kd.R k29 29 w' w.heap.size (fun k_ => some k_ ≠ ((.slice Ao620 t1130.length co620) : Value).ownBlock ∧ some k_ ≠ ((.slice Ao621 t1134.length co621) : Value).ownBlock ∧ some k_ ≠ (v1139 : Value).ownBlock ∧ some k_ ≠ (v1144 : Value).ownBlock ∧ some k_ ≠ (v1152 : Value).ownBlock ∧ some k_ ≠ (v1156 : Value).ownBlock ∧ some k_ ≠ (v1160 : Value).ownBlock) v1147 t1146) ∧ Aside0 (Kd.R k29 29 w' w.heap.size (fun k_ => some k_ ≠ ((.slice Ao620 t1130.length co620) : Value).ownBlock ∧ some k_ ≠ ((.slice Ao621 t1134.length co621) : Value).ownBlock ∧ some k_ ≠ (v1139 : Value).ownBlock ∧ some k_ ≠ (v1144 : Value).ownBlock ∧ some k_ ≠ (v1147 : Value).ownBlock ∧ some k_ ≠ (v1156 : Value).ownBlock ∧ some k_ ≠ (v1160 : Value).ownBlock) v1152 t1150) ∧ Aside0 (Kd.R k29 29 w' w.heap.size (fun k_ => some k_ ≠ ((.slice Ao620 t1130.length co620) : Value).ownBlock ∧ some k_ ≠ ((.slice Ao621 t1134.length co621) : Value).ownBlock ∧ some k_ ≠ (v1139 : Value).ownBlock ∧ some k_ ≠ (v1144 : Value).ownBlock ∧ some k_ ≠ (v1147 : Value).ownBlock ∧ some k_ ≠ (v1152 : Value).ownBlock ∧ some k_ ≠ (v1160 : Value).ownBlock) v1156 t1154) ∧ Aside0 (Kd.R k29 29 w' w.heap.size (fun k_ => some k_ ≠ ((.slice Ao620 t1130.length co620) : Value).ownBlock ∧ some k_ ≠ ((.slice Ao621 t1134.length co621) : Value).ownBlock ∧ some k_ ≠ (v1139 : Value).ownBlock ∧ some k_ ≠ (v1144 : Value).ownBlock ∧ some k_ ≠ (v1147 : Value).ownBlock ∧ some k_ ≠ (v1152 : Value).ownBlock ∧ some k_ ≠ (v1156 : Value).ownBlock) v1160 t1158) ∧ Aside0 (Kd.R (Kd.int .i64) 3 w' w.heap.size (fun _ => True) v1174 y1173) ∧ Aside0 (Below w.heap.size w w'))
                              case atStart => exact ⟨(0), (by first | rfl | (simp; done) | (simp [*]; done)), H', ⟨Nat.le_refl _⟩, ⟨by (with_reducible repeat (first | apply Kd.R_alloc | apply Kd.R_drewN | apply Kd.R_drew)); exact HO_5.out⟩, ⟨by (with_reducible repeat (first | apply Kd.R_alloc | apply Kd.R_drewN | apply Kd.R_drew)); exact HO_7.out⟩, ⟨by (with_reducible repeat (first | apply Kd.R_alloc | apply Kd.R_drewN | apply Kd.R_drew)); exact HO_9.out⟩, ⟨by (with_reducible repeat (first | apply Kd.R_alloc | apply Kd.R_drewN | apply Kd.R_drew)); exact HO_11.out⟩, ⟨by (with_reducible repeat (first | apply Kd.R_alloc | apply Kd.R_drewN | apply Kd.R_drew)); exact HO_13.out⟩, ⟨by (with_reducible repeat (first | apply Kd.R_alloc | apply Kd.R_drewN | apply Kd.R_drew)); exact HO_15.out⟩, ⟨by (with_reducible repeat (first | apply Kd.R_alloc | apply Kd.R_drewN | apply Kd.R_drew)); exact HO_17.out⟩, ⟨by (with_reducible repeat (first | apply Kd.R_alloc | apply Kd.R_drewN | apply Kd.R_drew)); exact HO_19.out⟩, ⟨by (with_reducible repeat (first | apply Kd.R_alloc | apply Kd.R_drewN | apply Kd.R_drew)); exact Kd.R_mono HO1175.out (fun _ hk => trivial)⟩, ⟨by repeat (first | (with_reducible first | exact HB.out | apply below_alloc | apply pw_below_drewN | apply below_drew1) | exact HB.out)⟩⟩
                              case round =>
                                as_aux_lemma =>
                                  clear H'
                                  (try clear c1); (try clear c2); (try clear p2); (try clear c5); (try clear c6); (try clear c8); (try clear c9); (try clear c11); (try clear c12); (try clear c22); (try clear c23); (try clear c24); (try clear c25); (try clear c26); (try clear c60); (try clear c61); (try clear c62); (try clear c63); (try clear c64); (try clear c65); (try clear c604); (try clear c611); (try clear c611b0); (try clear c611b1); (try clear c612); (try clear c628); (try clear c628b0); (try clear c628b1); (try clear c629); (try clear c629b0); (try clear c629b1); (try clear c630); (try clear c630b0); (try clear c630b1); (try clear c631); (try clear c631b0); (try clear c631b1); (try clear c632); (try clear c632b0); (try clear c632b1); (try clear c633); (try clear c636); (try clear c638); (try clear c640); (try clear c642); (try clear c649); (try clear c652); (try clear p2)
                                  obtain ⟨x22_4, rfl, HA, HK4, HO_5, HO_7, HO_9, HO_11, HO_13, HO_15, HO_17, HO_19, HO_21, HB⟩ := hrel
                                  cases gk with
                                  | zero => exact absurd HA.out (by simp [thistlelaw02_SetsRing.l0])
                                  | succ k4 =>
                                    have H := HA.out
                                    clear HA
                                    simp only [thistlelaw02_SetsRing.l0] at H
                                    by_cases c657 : x22_4 < (y1173.length : Int)
                                    · rw [if_pos c657] at H
                                      have c657b0 : decide (x22_4 < (y1173.length : Int)) = true := decide_eq_true c657
                                      clear c657
                                      by_cases c658 : 0 ≤ x22_4
                                      · rw [if_pos c658] at H
                                        have c658b0 : decide (0 ≤ x22_4) = true := decide_eq_true c658
                                        clear c658
                                        replace H := Option.bind_eq_some_iff.mp H
                                        obtain ⟨t1177, A6590, H⟩ := H
                                        replace H : ((thistlelaw02_holds.f k4 t1134 (rd y1173 x22_4)).bind fun t1178 => ((thistlelaw02_within.f k4 t1138 (rd y1173 x22_4)).bind fun t1179 => (if t1177 = true then (if (t1179 != true) = true then (thistlelaw02_SetsRing.j4 k4 t1130 t1134 t1138 t1142 t1146 t1150 t1154 t1158 y1173 x22_4 (rd y1173 x22_4) t1177 true) else ((thistlelaw02_within.f k4 t1142 (rd y1173 x22_4)).bind fun t1180 => (if (t1180 != t1178) = true then (thistlelaw02_SetsRing.j4 k4 t1130 t1134 t1138 t1142 t1146 t1150 t1154 t1158 y1173 x22_4 (rd y1173 x22_4) t1177 true) else ((thistlelaw02_within.f k4 t1146 (rd y1173 x22_4)).bind fun t1181 => (thistlelaw02_SetsRing.j4 k4 t1130 t1134 t1138 t1142 t1146 t1150 t1154 t1158 y1173 x22_4 (rd y1173 x22_4) t1177 (t1181 != (!t1178))))))) else (if (t1179 != t1178) = true then (thistlelaw02_SetsRing.j4 k4 t1130 t1134 t1138 t1142 t1146 t1150 t1154 t1158 y1173 x22_4 (rd y1173 x22_4) t1177 true) else ((thistlelaw02_within.f k4 t1142 (rd y1173 x22_4)).bind fun t1182 => (if (t1182 != false) = true then (thistlelaw02_SetsRing.j4 k4 t1130 t1134 t1138 t1142 t1146 t1150 t1154 t1158 y1173 x22_4 (rd y1173 x22_4) t1177 true) else ((thistlelaw02_within.f k4 t1146 (rd y1173 x22_4)).bind fun t1183 => (thistlelaw02_SetsRing.j4 k4 t1130 t1134 t1138 t1142 t1146 t1150 t1154 t1158 y1173 x22_4 (rd y1173 x22_4) t1177 (t1183 != false))))))))) = some r := H
                                        have A659 := Aside0.mk A6590
                                        clear A6590
                                        replace H := Option.bind_eq_some_iff.mp H
                                        obtain ⟨t1178, A6600, H⟩ := H
                                        replace H : ((thistlelaw02_within.f k4 t1138 (rd y1173 x22_4)).bind fun t1179 => (if t1177 = true then (if (t1179 != true) = true then (thistlelaw02_SetsRing.j4 k4 t1130 t1134 t1138 t1142 t1146 t1150 t1154 t1158 y1173 x22_4 (rd y1173 x22_4) t1177 true) else ((thistlelaw02_within.f k4 t1142 (rd y1173 x22_4)).bind fun t1180 => (if (t1180 != t1178) = true then (thistlelaw02_SetsRing.j4 k4 t1130 t1134 t1138 t1142 t1146 t1150 t1154 t1158 y1173 x22_4 (rd y1173 x22_4) t1177 true) else ((thistlelaw02_within.f k4 t1146 (rd y1173 x22_4)).bind fun t1181 => (thistlelaw02_SetsRing.j4 k4 t1130 t1134 t1138 t1142 t1146 t1150 t1154 t1158 y1173 x22_4 (rd y1173 x22_4) t1177 (t1181 != (!t1178))))))) else (if (t1179 != t1178) = true then (thistlelaw02_SetsRing.j4 k4 t1130 t1134 t1138 t1142 t1146 t1150 t1154 t1158 y1173 x22_4 (rd y1173 x22_4) t1177 true) else ((thistlelaw02_within.f k4 t1142 (rd y1173 x22_4)).bind fun t1182 => (if (t1182 != false) = true then (thistlelaw02_SetsRing.j4 k4 t1130 t1134 t1138 t1142 t1146 t1150 t1154 t1158 y1173 x22_4 (rd y1173 x22_4) t1177 true) else ((thistlelaw02_within.f k4 t1146 (rd y1173 x22_4)).bind fun t1183 => (thistlelaw02_SetsRing.j4 k4 t1130 t1134 t1138 t1142 t1146 t1150 t1154 t1158 y1173 x22_4 (rd y1173 x22_4) t1177 (t1183 != false)))))))) = some r := H
                                        have A660 := Aside0.mk A6600
                                        clear A6600
                                        have HC661 := Aside0.mk H
                                        clear H
                                        obtain ⟨Ao662, co662, eo662⟩ := Kd.R_slice HO_21.out
                                        subst eo662
                                        have p1176 : 0 ≤ (x22_4 : Int) := of_decide_eq_true (by first | (with_reducible assumption) | assumption)
                                        have q1176 : x22_4 < (y1173.length : Int) := of_decide_eq_true (by first | (with_reducible assumption) | assumption)
                                        obtain ⟨ad1176, e1176, hx1176_0⟩ := Kd.at_int (Kd.R_reads' HO_21.out).2.2 x22_4 p1176 q1176
                                        cases e1176
                                        replace p1176 := eq_true p1176
                                        replace q1176 := eq_true q1176
                                        go_upto_region 25 with (first | ((with_reducible refine gate_callee (f := 27) rfl ?_); refine goesL_ (some 153) rfl rfl Tryd.func27 (by kernel_rfl) rfl #[.slice Ao620 t1130.length co620, .int .i64 (rd y1173 x22_4)] rfl (by (try simp only [List.map_toArray, List.map_cons, List.map_nil]); first | done | rfl | (simp only [List.length_drop, List.length_take]; rfl)) ?_; (with_reducible refine (thistlelaw02_holds.calls k4 _ _ t1130 (rd y1173 x22_4) t1177 _ ?side1 ?side2 ?side3 A659.out).mono ?_); (case side1 => repeat (first | exact (Kd.R_reads' HO_5.out).2.2 | (with_reducible refine Kd.C_alloc ?_ _) | (with_reducible refine Kd.C_drewN ?_ _) | (with_reducible refine Kd.C_drew ?_))); (case side2 => exact (Kd.R_reads' HO_5.out).2.1); (case side3 => first | exact hG | exact Glob.of_below hG (by repeat (first | (with_reducible first | exact HB.out | apply below_alloc | apply pw_below_drewN | apply below_drew1) | exact HB.out)) | exact Glob.of_below hG HB.out | exact Glob.drewN hG _ | exact Glob.drew hG | (with_reducible repeat (first | exact hG | apply Glob.drewN | apply Glob.drew | apply Glob.alloc))); rintro e w663 ⟨rfl, hb⟩; refine ⟨_, rfl, ?_⟩; have n0_ := Aside0.mk (Kd.R_below (by (with_reducible repeat (first | apply Kd.R_alloc | apply Kd.R_drewN | apply Kd.R_drew)); exact HO_5.out) hb); have n1_ := Aside0.mk (Kd.R_below (by (with_reducible repeat (first | apply Kd.R_alloc | apply Kd.R_drewN | apply Kd.R_drew)); exact HO_7.out) hb); have n2_ := Aside0.mk (Kd.R_below (by (with_reducible repeat (first | apply Kd.R_alloc | apply Kd.R_drewN | apply Kd.R_drew)); exact HO_9.out) hb); have n3_ := Aside0.mk (Kd.R_below (by (with_reducible repeat (first | apply Kd.R_alloc | apply Kd.R_drewN | apply Kd.R_drew)); exact HO_11.out) hb); have n4_ := Aside0.mk (Kd.R_below (by (with_reducible repeat (first | apply Kd.R_alloc | apply Kd.R_drewN | apply Kd.R_drew)); exact HO_13.out) hb); have n5_ := Aside0.mk (Kd.R_below (by (with_reducible repeat (first | apply Kd.R_alloc | apply Kd.R_drewN | apply Kd.R_drew)); exact HO_15.out) hb); have n6_ := Aside0.mk (Kd.R_below (by (with_reducible repeat (first | apply Kd.R_alloc | apply Kd.R_drewN | apply Kd.R_drew)); exact HO_17.out) hb); have n7_ := Aside0.mk (Kd.R_below (by (with_reducible repeat (first | apply Kd.R_alloc | apply Kd.R_drewN | apply Kd.R_drew)); exact HO_19.out) hb); have n8_ := Aside0.mk (Kd.R_below (by (with_reducible repeat (first | apply Kd.R_alloc | apply Kd.R_drewN | apply Kd.R_drew)); exact HO_21.out) hb); have n9_ := Aside0.mk (below_step (by repeat (first | (with_reducible first | exact HB.out | apply below_alloc | apply pw_below_drewN | apply below_drew1) | exact HB.out)) hb); clear HO_5; clear HO_7; clear HO_9; clear HO_11; clear HO_13; clear HO_15; clear HO_17; clear HO_19; clear HO_21; clear HB; have HO_5 := n0_; have HO_7 := n1_; have HO_9 := n2_; have HO_11 := n3_; have HO_13 := n4_; have HO_15 := n5_; have HO_17 := n6_; have HO_19 := n7_; have HO_21 := n8_; have HB := n9_; clear n0_ n1_ n2_ n3_ n4_ n5_ n6_ n7_ n8_ n9_; (try clear hb); (try clear hb2); (try clear hk); (try clear hi)) | ((with_reducible refine gate_callee (f := 27) rfl ?_); refine goesL_ (some 156) rfl rfl Tryd.func27 (by kernel_rfl) rfl #[.slice Ao621 t1134.length co621, .int .i64 (rd y1173 x22_4)] rfl (by (try simp only [List.map_toArray, List.map_cons, List.map_nil]); first | done | rfl | (simp only [List.length_drop, List.length_take]; rfl)) ?_; (with_reducible refine (thistlelaw02_holds.calls k4 _ _ t1134 (rd y1173 x22_4) t1178 _ ?side1 ?side2 ?side3 A660.out).mono ?_); (case side1 => repeat (first | exact (Kd.R_reads' HO_7.out).2.2 | (with_reducible refine Kd.C_alloc ?_ _) | (with_reducible refine Kd.C_drewN ?_ _) | (with_reducible refine Kd.C_drew ?_))); (case side2 => exact (Kd.R_reads' HO_7.out).2.1); (case side3 => first | exact hG | exact Glob.of_below hG (by repeat (first | (with_reducible first | exact HB.out | apply below_alloc | apply pw_below_drewN | apply below_drew1) | exact HB.out)) | exact Glob.of_below hG HB.out | exact Glob.drewN hG _ | exact Glob.drew hG | (with_reducible repeat (first | exact hG | apply Glob.drewN | apply Glob.drew | apply Glob.alloc))); rintro e w664 ⟨rfl, hb⟩; refine ⟨_, rfl, ?_⟩; have n0_ := Aside0.mk (Kd.R_below (by (with_reducible repeat (first | apply Kd.R_alloc | apply Kd.R_drewN | apply Kd.R_drew)); exact HO_5.out) hb); have n1_ := Aside0.mk (Kd.R_below (by (with_reducible repeat (first | apply Kd.R_alloc | apply Kd.R_drewN | apply Kd.R_drew)); exact HO_7.out) hb); have n2_ := Aside0.mk (Kd.R_below (by (with_reducible repeat (first | apply Kd.R_alloc | apply Kd.R_drewN | apply Kd.R_drew)); exact HO_9.out) hb); have n3_ := Aside0.mk (Kd.R_below (by (with_reducible repeat (first | apply Kd.R_alloc | apply Kd.R_drewN | apply Kd.R_drew)); exact HO_11.out) hb); have n4_ := Aside0.mk (Kd.R_below (by (with_reducible repeat (first | apply Kd.R_alloc | apply Kd.R_drewN | apply Kd.R_drew)); exact HO_13.out) hb); have n5_ := Aside0.mk (Kd.R_below (by (with_reducible repeat (first | apply Kd.R_alloc | apply Kd.R_drewN | apply Kd.R_drew)); exact HO_15.out) hb); have n6_ := Aside0.mk (Kd.R_below (by (with_reducible repeat (first | apply Kd.R_alloc | apply Kd.R_drewN | apply Kd.R_drew)); exact HO_17.out) hb); have n7_ := Aside0.mk (Kd.R_below (by (with_reducible repeat (first | apply Kd.R_alloc | apply Kd.R_drewN | apply Kd.R_drew)); exact HO_19.out) hb); have n8_ := Aside0.mk (Kd.R_below (by (with_reducible repeat (first | apply Kd.R_alloc | apply Kd.R_drewN | apply Kd.R_drew)); exact HO_21.out) hb); have n9_ := Aside0.mk (below_step (by repeat (first | (with_reducible first | exact HB.out | apply below_alloc | apply pw_below_drewN | apply below_drew1) | exact HB.out)) hb); clear HO_5; clear HO_7; clear HO_9; clear HO_11; clear HO_13; clear HO_15; clear HO_17; clear HO_19; clear HO_21; clear HB; have HO_5 := n0_; have HO_7 := n1_; have HO_9 := n2_; have HO_11 := n3_; have HO_13 := n4_; have HO_15 := n5_; have HO_17 := n6_; have HO_19 := n7_; have HO_21 := n8_; have HB := n9_; clear n0_ n1_ n2_ n3_ n4_ n5_ n6_ n7_ n8_ n9_; (try clear hb); (try clear hb2); (try clear hk); (try clear hi)))
                                        (try simp only [Act.put, List.setIfInBounds_toArray, List.set_cons_zero, List.set_cons_succ])
                                        go_cut [185] (fun v185 wc => ∃ (kq : Nat) (x185_660 : Bool), v185 = .bool x185_660 ∧ Aside0 (thistlelaw02_SetsRing.j4 kq t1130 t1134 t1138 t1142 t1146 t1150 t1154 t1158 y1173 x22_4 (rd y1173 x22_4) t1177 x185_660 = some r) ∧ Aside0 (kq ≤ k4) ∧ Aside0 (Kd.R k29 29 wc w.heap.size (fun k_ => some k_ ≠ ((.slice Ao621 t1134.length co621) : Value).ownBlock ∧ some k_ ≠ (v1139 : Value).ownBlock ∧ some k_ ≠ (v1144 : Value).ownBlock ∧ some k_ ≠ (v1147 : Value).ownBlock ∧ some k_ ≠ (v1152 : Value).ownBlock ∧ some k_ ≠ (v1156 : Value).ownBlock ∧ some k_ ≠ (v1160 : Value).ownBlock) (.slice Ao620 t1130.length co620) t1130) ∧ Aside0 (Kd.R k29 29 wc w.heap.size (fun k_ => some k_ ≠ ((.slice Ao620 t1130.length co620) : Value).ownBlock ∧ some k_ ≠ (v1139 : Value).ownBlock ∧ some k_ ≠ (v1144 : Value).ownBlock ∧ some k_ ≠ (v1147 : Value).ownBlock ∧ some k_ ≠ (v1152 : Value).ownBlock ∧ some k_ ≠ (v1156 : Value).ownBlock ∧ some k_ ≠ (v1160 : Value).ownBlock) (.slice Ao621 t1134.length co621) t1134) ∧ Aside0 (Kd.R k29 29 wc w.heap.size (fun k_ => some k_ ≠ ((.slice Ao620 t1130.length co620) : Value).ownBlock ∧ some k_ ≠ ((.slice Ao621 t1134.length co621) : Value).ownBlock ∧ some k_ ≠ (v1144 : Value).ownBlock ∧ some k_ ≠ (v1147 : Value).ownBlock ∧ some k_ ≠ (v1152 : Value).ownBlock ∧ some k_ ≠ (v1156 : Value).ownBlock ∧ some k_ ≠ (v1160 : Value).ownBlock) v1139 t1138) ∧ Aside0 (Kd.R k29 29 wc w.heap.size (fun k_ => some k_ ≠ ((.slice Ao620 t1130.length co620) : Value).ownBlock ∧ some k_ ≠ ((.slice Ao621 t1134.length co621) : Value).ownBlock ∧ some k_ ≠ (v1139 : Value).ownBlock ∧ some k_ ≠ (v1147 : Value).ownBlock ∧ some k_ ≠ (v1152 : Value).ownBlock ∧ some k_ ≠ (v1156 : Value).ownBlock ∧ some k_ ≠ (v1160 : Value).ownBlock) v1144 t1142) ∧ Aside0 (Kd.R k29 29 wc w.heap.size (fun k_ => some k_ ≠ ((.slice Ao620 t1130.length co620) : Value).ownBlock ∧ some k_ ≠ ((.slice Ao621 t1134.length co621) : Value).ownBlock ∧ some k_ ≠ (v1139 : Value).ownBlock ∧ some k_ ≠ (v1144 : Value).ownBlock ∧ some k_ ≠ (v1152 : Value).ownBlock ∧ some k_ ≠ (v1156 : Value).ownBlock ∧ some k_ ≠ (v1160 : Value).ownBlock) v1147 t1146) ∧ Aside0 (Kd.R k29 29 wc w.heap.size (fun k_ => some k_ ≠ ((.slice Ao620 t1130.length co620) : Value).ownBlock ∧ some k_ ≠ ((.slice Ao621 t1134.length co621) : Value).ownBlock ∧ some k_ ≠ (v1139 : Value).ownBlock ∧ some k_ ≠ (v1144 : Value).ownBlock ∧ some k_ ≠ (v1147 : Value).ownBlock ∧ some k_ ≠ (v1156 : Value).ownBlock ∧ some k_ ≠ (v1160 : Value).ownBlock) v1152 t1150) ∧ Aside0 (Kd.R k29 29 wc w.heap.size (fun k_ => some k_ ≠ ((.slice Ao620 t1130.length co620) : Value).ownBlock ∧ some k_ ≠ ((.slice Ao621 t1134.length co621) : Value).ownBlock ∧ some k_ ≠ (v1139 : Value).ownBlock ∧ some k_ ≠ (v1144 : Value).ownBlock ∧ some k_ ≠ (v1147 : Value).ownBlock ∧ some k_ ≠ (v1152 : Value).ownBlock ∧ some k_ ≠ (v1160 : Value).ownBlock) v1156 t1154) ∧ Aside0 (Kd.R k29 29 wc w.heap.size (fun k_ => some k_ ≠ ((.slice Ao620 t1130.length co620) : Value).ownBlock ∧ some k_ ≠ ((.slice Ao621 t1134.length co621) : Value).ownBlock ∧ some k_ ≠ (v1139 : Value).ownBlock ∧ some k_ ≠ (v1144 : Value).ownBlock ∧ some k_ ≠ (v1147 : Value).ownBlock ∧ some k_ ≠ (v1152 : Value).ownBlock ∧ some k_ ≠ (v1156 : Value).ownBlock) v1160 t1158) ∧ Aside0 (Kd.R (Kd.int .i64) 3 wc w.heap.size (fun _ => True) (.slice (some ad1176) y1173.length co662) y1173) ∧ Aside0 (Below w.heap.size w wc))
                                        case first =>
                                          as_aux_lemma =>
                                            have H := HC661.out
                                            clear HC661
                                            replace H := Option.bind_eq_some_iff.mp H
                                            obtain ⟨t1179, A6650, H⟩ := H
                                            replace H : (if t1177 = true then (if (t1179 != true) = true then (thistlelaw02_SetsRing.j4 k4 t1130 t1134 t1138 t1142 t1146 t1150 t1154 t1158 y1173 x22_4 (rd y1173 x22_4) t1177 true) else ((thistlelaw02_within.f k4 t1142 (rd y1173 x22_4)).bind fun t1180 => (if (t1180 != t1178) = true then (thistlelaw02_SetsRing.j4 k4 t1130 t1134 t1138 t1142 t1146 t1150 t1154 t1158 y1173 x22_4 (rd y1173 x22_4) t1177 true) else ((thistlelaw02_within.f k4 t1146 (rd y1173 x22_4)).bind fun t1181 => (thistlelaw02_SetsRing.j4 k4 t1130 t1134 t1138 t1142 t1146 t1150 t1154 t1158 y1173 x22_4 (rd y1173 x22_4) t1177 (t1181 != (!t1178))))))) else (if (t1179 != t1178) = true then (thistlelaw02_SetsRing.j4 k4 t1130 t1134 t1138 t1142 t1146 t1150 t1154 t1158 y1173 x22_4 (rd y1173 x22_4) t1177 true) else ((thistlelaw02_within.f k4 t1142 (rd y1173 x22_4)).bind fun t1182 => (if (t1182 != false) = true then (thistlelaw02_SetsRing.j4 k4 t1130 t1134 t1138 t1142 t1146 t1150 t1154 t1158 y1173 x22_4 (rd y1173 x22_4) t1177 true) else ((thistlelaw02_within.f k4 t1146 (rd y1173 x22_4)).bind fun t1183 => (thistlelaw02_SetsRing.j4 k4 t1130 t1134 t1138 t1142 t1146 t1150 t1154 t1158 y1173 x22_4 (rd y1173 x22_4) t1177 (t1183 != false))))))) = some r := H
                                            have A665 := Aside0.mk A6650
                                            clear A6650
                                            by_cases c666 : t1177 = true
                                            · subst c666
                                              have H1 : (if (t1179 != true) = true then (thistlelaw02_SetsRing.j4 k4 t1130 t1134 t1138 t1142 t1146 t1150 t1154 t1158 y1173 x22_4 (rd y1173 x22_4) true true) else ((thistlelaw02_within.f k4 t1142 (rd y1173 x22_4)).bind fun t1180 => (if (t1180 != t1178) = true then (thistlelaw02_SetsRing.j4 k4 t1130 t1134 t1138 t1142 t1146 t1150 t1154 t1158 y1173 x22_4 (rd y1173 x22_4) true true) else ((thistlelaw02_within.f k4 t1146 (rd y1173 x22_4)).bind fun t1181 => (thistlelaw02_SetsRing.j4 k4 t1130 t1134 t1138 t1142 t1146 t1150 t1154 t1158 y1173 x22_4 (rd y1173 x22_4) true (t1181 != (!t1178))))))) = some r := by rw [if_pos rfl] at H; exact H
                                              clear H
                                              have H := H1
                                              clear H1
                                              by_cases c667 : (t1179 != true) = true
                                              · rw [if_pos c667] at H
                                                have c667b0 : (t1179 != true) = true := c667
                                                (try (have c667b1 : decide (t1179 = true) = false := by simpa using c667))
                                                (try (have c667b2 : (t1179 == true) = false := by simpa using c667))
                                                (try (have c667b3 : ¬ (t1179 = true) := by simpa using c667))
                                                clear c667
                                                (first | rw [c667b0] | (simp only [i64_w, i32_w]; rw [c667b0]) | skip)
                                                as_aux_lemma =>
                                                  exact absurd (H.trans (congrArg some hrt.out)) (by (first | (cases k4 <;> simp [thistlelaw02_SetsRing.j4]) | (unfold thistlelaw02_SetsRing.j4; split <;> simp)))
                                              · rw [if_neg c667] at H
                                                have c667b0 : (t1179 != true) = false := by simpa using c667
                                                (try (have c667b1 : decide (t1179 = true) = true := by simpa using c667))
                                                (try (have c667b2 : (t1179 == true) = true := by simpa using c667))
                                                clear c667
                                                (first | rw [c667b0] | (simp only [i64_w, i32_w]; rw [c667b0]) | skip)
                                                replace H := Option.bind_eq_some_iff.mp H
                                                obtain ⟨t1180, A6680, H⟩ := H
                                                replace H : (if (t1180 != t1178) = true then (thistlelaw02_SetsRing.j4 k4 t1130 t1134 t1138 t1142 t1146 t1150 t1154 t1158 y1173 x22_4 (rd y1173 x22_4) true true) else ((thistlelaw02_within.f k4 t1146 (rd y1173 x22_4)).bind fun t1181 => (thistlelaw02_SetsRing.j4 k4 t1130 t1134 t1138 t1142 t1146 t1150 t1154 t1158 y1173 x22_4 (rd y1173 x22_4) true (t1181 != (!t1178))))) = some r := H
                                                have A668 := Aside0.mk A6680
                                                clear A6680
                                                by_cases c669 : (t1180 != t1178) = true
                                                · rw [if_pos c669] at H
                                                  have c669b0 : (t1180 != t1178) = true := c669
                                                  (try (have c669b1 : decide (t1180 = t1178) = false := by simpa using c669))
                                                  (try (have c669b2 : (t1180 == t1178) = false := by simpa using c669))
                                                  (try (have c669b3 : ¬ (t1180 = t1178) := by simpa using c669))
                                                  clear c669
                                                  as_aux_lemma =>
                                                    exact absurd (H.trans (congrArg some hrt.out)) (by (first | (cases k4 <;> simp [thistlelaw02_SetsRing.j4]) | (unfold thistlelaw02_SetsRing.j4; split <;> simp)))
                                                · rw [if_neg c669] at H
                                                  have c669b0 : (t1180 != t1178) = false := by simpa using c669
                                                  (try (have c669b1 : decide (t1180 = t1178) = true := by simpa using c669))
                                                  (try (have c669b2 : (t1180 == t1178) = true := by simpa using c669))
                                                  clear c669
                                                  replace H := Option.bind_eq_some_iff.mp H
                                                  obtain ⟨t1181, A6700, H⟩ := H
                                                  replace H : (thistlelaw02_SetsRing.j4 k4 t1130 t1134 t1138 t1142 t1146 t1150 t1154 t1158 y1173 x22_4 (rd y1173 x22_4) true (t1181 != (!t1178))) = some r := H
                                                  have A670 := Aside0.mk A6700
                                                  clear A6700
                                                  as_aux_lemma =>
                                                    have H' := Aside0.mk H
                                                    clear H
                                                    obtain ⟨Ao671, co671, eo671⟩ := Kd.R_slice HO_9.out
                                                    subst eo671
                                                    have tok8_ : True := trivial
                                                    have tok9_ : True := trivial
                                                    have tok10_ : True := trivial
                                                    go_wp2_with (first | ((with_reducible refine gate_callee (f := 16) rfl ?_); clear tok8_; refine goesL_ (some 159) rfl rfl Tryd.func16 (by kernel_rfl) rfl #[.slice Ao671 t1138.length co671, .int .i64 (rd y1173 x22_4)] rfl (by (try simp only [List.map_toArray, List.map_cons, List.map_nil]); first | done | rfl | (simp only [List.length_drop, List.length_take]; rfl)) ?_; (with_reducible refine (thistlelaw02_within.calls k4 _ _ t1138 (rd y1173 x22_4) t1179 _ ?side1 ?side2 A665.out).mono ?_); (case side1 => repeat (first | exact (Kd.R_reads' HO_9.out).2.2 | (with_reducible refine Kd.C_alloc ?_ _) | (with_reducible refine Kd.C_drewN ?_ _) | (with_reducible refine Kd.C_drew ?_))); (case side2 => exact (Kd.R_reads' HO_9.out).2.1); rintro e w' ⟨rfl, ⟨nd, rfl⟩⟩; refine ⟨_, rfl, ?_⟩; obtain ⟨Ao672, co672, eo672⟩ := Kd.R_slice HO_11.out; subst eo672) | (go_at_call 16; clear tok9_; (with_reducible refine (thistlelaw02_within.calls k4 _ _ t1142 (rd y1173 x22_4) t1180 _ ?side1 ?side2 A668.out).mono ?_); (case side1 => repeat (first | exact (Kd.R_reads' HO_11.out).2.2 | (with_reducible refine Kd.C_alloc ?_ _) | (with_reducible refine Kd.C_drewN ?_ _) | (with_reducible refine Kd.C_drew ?_))); (case side2 => exact (Kd.R_reads' HO_11.out).2.1); rintro e w' ⟨rfl, ⟨nd, rfl⟩⟩; obtain ⟨Ao673, co673, eo673⟩ := Kd.R_slice HO_13.out; subst eo673) | (go_at_call 16; clear tok10_; (with_reducible refine (thistlelaw02_within.calls k4 _ _ t1146 (rd y1173 x22_4) t1181 _ ?side1 ?side2 A670.out).mono ?_); (case side1 => repeat (first | exact (Kd.R_reads' HO_13.out).2.2 | (with_reducible refine Kd.C_alloc ?_ _) | (with_reducible refine Kd.C_drewN ?_ _) | (with_reducible refine Kd.C_drew ?_))); (case side2 => exact (Kd.R_reads' HO_13.out).2.1); rintro e w' ⟨rfl, ⟨nd, rfl⟩⟩))
                                                    go_meet
                                                    case rel => exact ⟨_, ((t1181 != (!t1178))), (by first | rfl | (simp; done) | (simp [*]; done)), H', ⟨by have := HJ606.out; have := HJ618.out; have := HJ633.out; have := HK4.out; first | omega | exact Nat.le_refl _⟩, ⟨by (with_reducible repeat (first | apply Kd.R_alloc | apply Kd.R_drewN | apply Kd.R_drew)); exact HO_5.out⟩, ⟨by (with_reducible repeat (first | apply Kd.R_alloc | apply Kd.R_drewN | apply Kd.R_drew)); exact HO_7.out⟩, ⟨by (with_reducible repeat (first | apply Kd.R_alloc | apply Kd.R_drewN | apply Kd.R_drew)); exact HO_9.out⟩, ⟨by (with_reducible repeat (first | apply Kd.R_alloc | apply Kd.R_drewN | apply Kd.R_drew)); exact HO_11.out⟩, ⟨by (with_reducible repeat (first | apply Kd.R_alloc | apply Kd.R_drewN | apply Kd.R_drew)); exact HO_13.out⟩, ⟨by (with_reducible repeat (first | apply Kd.R_alloc | apply Kd.R_drewN | apply Kd.R_drew)); exact HO_15.out⟩, ⟨by (with_reducible repeat (first | apply Kd.R_alloc | apply Kd.R_drewN | apply Kd.R_drew)); exact HO_17.out⟩, ⟨by (with_reducible repeat (first | apply Kd.R_alloc | apply Kd.R_drewN | apply Kd.R_drew)); exact HO_19.out⟩, ⟨by (with_reducible repeat (first | apply Kd.R_alloc | apply Kd.R_drewN | apply Kd.R_drew)); exact HO_21.out⟩, ⟨by repeat (first | (with_reducible first | exact HB.out | apply below_alloc | apply pw_below_drewN | apply below_drew1) | exact HB.out)⟩⟩
                                            · replace c666 := Bool.eq_false_iff.mpr c666
                                              subst c666
                                              have H1 : (if (t1179 != t1178) = true then (thistlelaw02_SetsRing.j4 k4 t1130 t1134 t1138 t1142 t1146 t1150 t1154 t1158 y1173 x22_4 (rd y1173 x22_4) false true) else ((thistlelaw02_within.f k4 t1142 (rd y1173 x22_4)).bind fun t1182 => (if (t1182 != false) = true then (thistlelaw02_SetsRing.j4 k4 t1130 t1134 t1138 t1142 t1146 t1150 t1154 t1158 y1173 x22_4 (rd y1173 x22_4) false true) else ((thistlelaw02_within.f k4 t1146 (rd y1173 x22_4)).bind fun t1183 => (thistlelaw02_SetsRing.j4 k4 t1130 t1134 t1138 t1142 t1146 t1150 t1154 t1158 y1173 x22_4 (rd y1173 x22_4) false (t1183 != false)))))) = some r := by rw [if_neg (show ¬ (false = true) by decide)] at H; exact H
                                              clear H
                                              have H := H1
                                              clear H1
                                              by_cases c674 : (t1179 != t1178) = true
                                              · rw [if_pos c674] at H
                                                have c674b0 : (t1179 != t1178) = true := c674
                                                (try (have c674b1 : decide (t1179 = t1178) = false := by simpa using c674))
                                                (try (have c674b2 : (t1179 == t1178) = false := by simpa using c674))
                                                (try (have c674b3 : ¬ (t1179 = t1178) := by simpa using c674))
                                                clear c674
                                                as_aux_lemma =>
                                                  exact absurd (H.trans (congrArg some hrt.out)) (by (first | (cases k4 <;> simp [thistlelaw02_SetsRing.j4]) | (unfold thistlelaw02_SetsRing.j4; split <;> simp)))
                                              · rw [if_neg c674] at H
                                                have c674b0 : (t1179 != t1178) = false := by simpa using c674
                                                (try (have c674b1 : decide (t1179 = t1178) = true := by simpa using c674))
                                                (try (have c674b2 : (t1179 == t1178) = true := by simpa using c674))
                                                clear c674
                                                replace H := Option.bind_eq_some_iff.mp H
                                                obtain ⟨t1182, A6750, H⟩ := H
                                                replace H : (if (t1182 != false) = true then (thistlelaw02_SetsRing.j4 k4 t1130 t1134 t1138 t1142 t1146 t1150 t1154 t1158 y1173 x22_4 (rd y1173 x22_4) false true) else ((thistlelaw02_within.f k4 t1146 (rd y1173 x22_4)).bind fun t1183 => (thistlelaw02_SetsRing.j4 k4 t1130 t1134 t1138 t1142 t1146 t1150 t1154 t1158 y1173 x22_4 (rd y1173 x22_4) false (t1183 != false)))) = some r := H
                                                have A675 := Aside0.mk A6750
                                                clear A6750
                                                by_cases c676 : (t1182 != false) = true
                                                · rw [if_pos c676] at H
                                                  have c676b0 : (t1182 != false) = true := c676
                                                  (try (have c676b1 : decide (t1182 = false) = false := by simpa using c676))
                                                  (try (have c676b2 : (t1182 == false) = false := by simpa using c676))
                                                  (try (have c676b3 : ¬ (t1182 = false) := by simpa using c676))
                                                  clear c676
                                                  as_aux_lemma =>
                                                    exact absurd (H.trans (congrArg some hrt.out)) (by (first | (cases k4 <;> simp [thistlelaw02_SetsRing.j4]) | (unfold thistlelaw02_SetsRing.j4; split <;> simp)))
                                                · rw [if_neg c676] at H
                                                  have c676b0 : (t1182 != false) = false := by simpa using c676
                                                  (try (have c676b1 : decide (t1182 = false) = true := by simpa using c676))
                                                  (try (have c676b2 : (t1182 == false) = true := by simpa using c676))
                                                  clear c676
                                                  replace H := Option.bind_eq_some_iff.mp H
                                                  obtain ⟨t1183, A6770, H⟩ := H
                                                  replace H : (thistlelaw02_SetsRing.j4 k4 t1130 t1134 t1138 t1142 t1146 t1150 t1154 t1158 y1173 x22_4 (rd y1173 x22_4) false (t1183 != false)) = some r := H
                                                  have A677 := Aside0.mk A6770
                                                  clear A6770
                                                  as_aux_lemma =>
                                                    have H' := Aside0.mk H
                                                    clear H
                                                    obtain ⟨Ao678, co678, eo678⟩ := Kd.R_slice HO_9.out
                                                    subst eo678
                                                    have tok11_ : True := trivial
                                                    have tok12_ : True := trivial
                                                    have tok13_ : True := trivial
                                                    go_wp2_with (first | ((with_reducible refine gate_callee (f := 16) rfl ?_); clear tok11_; refine goesL_ (some 159) rfl rfl Tryd.func16 (by kernel_rfl) rfl #[.slice Ao678 t1138.length co678, .int .i64 (rd y1173 x22_4)] rfl (by (try simp only [List.map_toArray, List.map_cons, List.map_nil]); first | done | rfl | (simp only [List.length_drop, List.length_take]; rfl)) ?_; (with_reducible refine (thistlelaw02_within.calls k4 _ _ t1138 (rd y1173 x22_4) t1179 _ ?side1 ?side2 A665.out).mono ?_); (case side1 => repeat (first | exact (Kd.R_reads' HO_9.out).2.2 | (with_reducible refine Kd.C_alloc ?_ _) | (with_reducible refine Kd.C_drewN ?_ _) | (with_reducible refine Kd.C_drew ?_))); (case side2 => exact (Kd.R_reads' HO_9.out).2.1); rintro e w' ⟨rfl, ⟨nd, rfl⟩⟩; refine ⟨_, rfl, ?_⟩; obtain ⟨Ao679, co679, eo679⟩ := Kd.R_slice HO_11.out; subst eo679) | (go_at_call 16; clear tok12_; (with_reducible refine (thistlelaw02_within.calls k4 _ _ t1142 (rd y1173 x22_4) t1182 _ ?side1 ?side2 A675.out).mono ?_); (case side1 => repeat (first | exact (Kd.R_reads' HO_11.out).2.2 | (with_reducible refine Kd.C_alloc ?_ _) | (with_reducible refine Kd.C_drewN ?_ _) | (with_reducible refine Kd.C_drew ?_))); (case side2 => exact (Kd.R_reads' HO_11.out).2.1); rintro e w' ⟨rfl, ⟨nd, rfl⟩⟩; obtain ⟨Ao680, co680, eo680⟩ := Kd.R_slice HO_13.out; subst eo680) | (go_at_call 16; clear tok13_; (with_reducible refine (thistlelaw02_within.calls k4 _ _ t1146 (rd y1173 x22_4) t1183 _ ?side1 ?side2 A677.out).mono ?_); (case side1 => repeat (first | exact (Kd.R_reads' HO_13.out).2.2 | (with_reducible refine Kd.C_alloc ?_ _) | (with_reducible refine Kd.C_drewN ?_ _) | (with_reducible refine Kd.C_drew ?_))); (case side2 => exact (Kd.R_reads' HO_13.out).2.1); rintro e w' ⟨rfl, ⟨nd, rfl⟩⟩))
                                                    go_meet
                                                    case rel => exact ⟨_, ((t1183 != false)), (by first | rfl | (simp; done) | (simp [*]; done)), H', ⟨by have := HJ606.out; have := HJ618.out; have := HJ633.out; have := HK4.out; first | omega | exact Nat.le_refl _⟩, ⟨by (with_reducible repeat (first | apply Kd.R_alloc | apply Kd.R_drewN | apply Kd.R_drew)); exact HO_5.out⟩, ⟨by (with_reducible repeat (first | apply Kd.R_alloc | apply Kd.R_drewN | apply Kd.R_drew)); exact HO_7.out⟩, ⟨by (with_reducible repeat (first | apply Kd.R_alloc | apply Kd.R_drewN | apply Kd.R_drew)); exact HO_9.out⟩, ⟨by (with_reducible repeat (first | apply Kd.R_alloc | apply Kd.R_drewN | apply Kd.R_drew)); exact HO_11.out⟩, ⟨by (with_reducible repeat (first | apply Kd.R_alloc | apply Kd.R_drewN | apply Kd.R_drew)); exact HO_13.out⟩, ⟨by (with_reducible repeat (first | apply Kd.R_alloc | apply Kd.R_drewN | apply Kd.R_drew)); exact HO_15.out⟩, ⟨by (with_reducible repeat (first | apply Kd.R_alloc | apply Kd.R_drewN | apply Kd.R_drew)); exact HO_17.out⟩, ⟨by (with_reducible repeat (first | apply Kd.R_alloc | apply Kd.R_drewN | apply Kd.R_drew)); exact HO_19.out⟩, ⟨by (with_reducible repeat (first | apply Kd.R_alloc | apply Kd.R_drewN | apply Kd.R_drew)); exact HO_21.out⟩, ⟨by repeat (first | (with_reducible first | exact HB.out | apply below_alloc | apply pw_below_drewN | apply below_drew1) | exact HB.out)⟩⟩
                                        case rest =>
                                          as_aux_lemma =>
                                            clear HC661
                                            (try clear c1); (try clear p1); (try clear q1); (try clear hx1); (try clear c2); (try clear p2); (try clear c5); (try clear c6); (try clear c8); (try clear c9); (try clear c11); (try clear p11); (try clear q11); (try clear hx11); (try clear c12); (try clear c16); (try clear c22); (try clear c23); (try clear c24); (try clear c25); (try clear c26); (try clear c27); (try clear c60); (try clear c61); (try clear c62); (try clear c63); (try clear c64); (try clear c65); (try clear c66); (try clear c67); (try clear p117); (try clear q117); (try clear hx117); (try clear c604); (try clear c611); (try clear c611b0); (try clear c611b1); (try clear c612); (try clear c628); (try clear c628b0); (try clear c628b1); (try clear c629); (try clear c629b0); (try clear c629b1); (try clear c630); (try clear c630b0); (try clear c630b1); (try clear c631); (try clear c631b0); (try clear c631b1); (try clear c632); (try clear c632b0); (try clear c632b1); (try clear c633); (try clear c636); (try clear c638); (try clear c640); (try clear c642); (try clear c649); (try clear c652); (try clear c657); (try clear c657b0); (try clear c658); (try clear c658b0); (try clear c666); (try clear c667); (try clear c667b0); (try clear c667b1); (try clear c667b2); (try clear c669); (try clear c669b0); (try clear c669b1); (try clear c669b2); (try clear c674); (try clear c674b0); (try clear c674b1); (try clear c674b2); (try clear c676); (try clear c676b0); (try clear c676b1); (try clear c676b2); (try clear hx1176_0); (try clear p1176); (try clear p2); (try clear q1176)
                                            obtain ⟨kq, x185_660, rfl, HA, HJ660, HO_5, HO_7, HO_9, HO_11, HO_13, HO_15, HO_17, HO_19, HO_21, HB⟩ := hcut
                                            cases kq with
                                            | zero => exact absurd HA.out (by simp [thistlelaw02_SetsRing.j4])
                                            | succ kj660 =>
                                              have H := HA.out
                                              clear HA
                                              simp only [thistlelaw02_SetsRing.j4] at H
                                              by_cases c681 : x185_660 = true
                                              · subst c681
                                                have H1 : (some false) = some r := by rw [if_pos rfl] at H; exact H
                                                clear H
                                                have H := H1
                                                clear H1
                                                as_aux_lemma =>
                                                  exact absurd (H.trans (congrArg some hrt.out)) (by simp)
                                              · replace c681 := Bool.eq_false_iff.mpr c681
                                                subst c681
                                                have H1 : ((thistlelaw02_within.f kj660 t1150 (rd y1173 x22_4)).bind fun t1184 => ((thistlelaw02_unit.f (rd y1173 x22_4)).bind fun t1185 => (if t1185 = true then (if (t1184 != (!t1177)) = true then (some false) else ((thistlelaw02_within.f kj660 t1158 (rd y1173 x22_4)).bind fun t1186 => ((thistlelaw02_unit.f (rd y1173 x22_4)).bind fun t1187 => (if t1187 = true then (if (rd y1173 x22_4) ≤ 1114111 then (if (t1186 != (!t1177)) = true then (some false) else (thistlelaw02_SetsRing.l0 kj660 t1130 t1134 t1138 t1142 t1146 t1150 t1154 t1158 y1173 (wrap64 (x22_4 + 1)))) else (if (t1186 != false) = true then (some false) else (thistlelaw02_SetsRing.l0 kj660 t1130 t1134 t1138 t1142 t1146 t1150 t1154 t1158 y1173 (wrap64 (x22_4 + 1))))) else (if (t1186 != false) = true then (some false) else (thistlelaw02_SetsRing.l0 kj660 t1130 t1134 t1138 t1142 t1146 t1150 t1154 t1158 y1173 (wrap64 (x22_4 + 1)))))))) else (if (t1184 != false) = true then (some false) else ((thistlelaw02_within.f kj660 t1158 (rd y1173 x22_4)).bind fun t1188 => ((thistlelaw02_unit.f (rd y1173 x22_4)).bind fun t1189 => (if t1189 = true then (if (rd y1173 x22_4) ≤ 1114111 then (if (t1188 != (!t1177)) = true then (some false) else (thistlelaw02_SetsRing.l0 kj660 t1130 t1134 t1138 t1142 t1146 t1150 t1154 t1158 y1173 (wrap64 (x22_4 + 1)))) else (if (t1188 != false) = true then (some false) else (thistlelaw02_SetsRing.l0 kj660 t1130 t1134 t1138 t1142 t1146 t1150 t1154 t1158 y1173 (wrap64 (x22_4 + 1))))) else (if (t1188 != false) = true then (some false) else (thistlelaw02_SetsRing.l0 kj660 t1130 t1134 t1138 t1142 t1146 t1150 t1154 t1158 y1173 (wrap64 (x22_4 + 1))))))))))) = some r := by rw [if_neg (show ¬ (false = true) by decide)] at H; exact H
                                                clear H
                                                have H := H1
                                                clear H1
                                                replace H := Option.bind_eq_some_iff.mp H
                                                obtain ⟨t1184, A6820, H⟩ := H
                                                replace H : ((thistlelaw02_unit.f (rd y1173 x22_4)).bind fun t1185 => (if t1185 = true then (if (t1184 != (!t1177)) = true then (some false) else ((thistlelaw02_within.f kj660 t1158 (rd y1173 x22_4)).bind fun t1186 => ((thistlelaw02_unit.f (rd y1173 x22_4)).bind fun t1187 => (if t1187 = true then (if (rd y1173 x22_4) ≤ 1114111 then (if (t1186 != (!t1177)) = true then (some false) else (thistlelaw02_SetsRing.l0 kj660 t1130 t1134 t1138 t1142 t1146 t1150 t1154 t1158 y1173 (wrap64 (x22_4 + 1)))) else (if (t1186 != false) = true then (some false) else (thistlelaw02_SetsRing.l0 kj660 t1130 t1134 t1138 t1142 t1146 t1150 t1154 t1158 y1173 (wrap64 (x22_4 + 1))))) else (if (t1186 != false) = true then (some false) else (thistlelaw02_SetsRing.l0 kj660 t1130 t1134 t1138 t1142 t1146 t1150 t1154 t1158 y1173 (wrap64 (x22_4 + 1)))))))) else (if (t1184 != false) = true then (some false) else ((thistlelaw02_within.f kj660 t1158 (rd y1173 x22_4)).bind fun t1188 => ((thistlelaw02_unit.f (rd y1173 x22_4)).bind fun t1189 => (if t1189 = true then (if (rd y1173 x22_4) ≤ 1114111 then (if (t1188 != (!t1177)) = true then (some false) else (thistlelaw02_SetsRing.l0 kj660 t1130 t1134 t1138 t1142 t1146 t1150 t1154 t1158 y1173 (wrap64 (x22_4 + 1)))) else (if (t1188 != false) = true then (some false) else (thistlelaw02_SetsRing.l0 kj660 t1130 t1134 t1138 t1142 t1146 t1150 t1154 t1158 y1173 (wrap64 (x22_4 + 1))))) else (if (t1188 != false) = true then (some false) else (thistlelaw02_SetsRing.l0 kj660 t1130 t1134 t1138 t1142 t1146 t1150 t1154 t1158 y1173 (wrap64 (x22_4 + 1)))))))))) = some r := H
                                                have A682 := Aside0.mk A6820
                                                clear A6820
                                                replace H := Option.bind_eq_some_iff.mp H
                                                obtain ⟨t1185, A6830, H⟩ := H
                                                replace H : (if t1185 = true then (if (t1184 != (!t1177)) = true then (some false) else ((thistlelaw02_within.f kj660 t1158 (rd y1173 x22_4)).bind fun t1186 => ((thistlelaw02_unit.f (rd y1173 x22_4)).bind fun t1187 => (if t1187 = true then (if (rd y1173 x22_4) ≤ 1114111 then (if (t1186 != (!t1177)) = true then (some false) else (thistlelaw02_SetsRing.l0 kj660 t1130 t1134 t1138 t1142 t1146 t1150 t1154 t1158 y1173 (wrap64 (x22_4 + 1)))) else (if (t1186 != false) = true then (some false) else (thistlelaw02_SetsRing.l0 kj660 t1130 t1134 t1138 t1142 t1146 t1150 t1154 t1158 y1173 (wrap64 (x22_4 + 1))))) else (if (t1186 != false) = true then (some false) else (thistlelaw02_SetsRing.l0 kj660 t1130 t1134 t1138 t1142 t1146 t1150 t1154 t1158 y1173 (wrap64 (x22_4 + 1)))))))) else (if (t1184 != false) = true then (some false) else ((thistlelaw02_within.f kj660 t1158 (rd y1173 x22_4)).bind fun t1188 => ((thistlelaw02_unit.f (rd y1173 x22_4)).bind fun t1189 => (if t1189 = true then (if (rd y1173 x22_4) ≤ 1114111 then (if (t1188 != (!t1177)) = true then (some false) else (thistlelaw02_SetsRing.l0 kj660 t1130 t1134 t1138 t1142 t1146 t1150 t1154 t1158 y1173 (wrap64 (x22_4 + 1)))) else (if (t1188 != false) = true then (some false) else (thistlelaw02_SetsRing.l0 kj660 t1130 t1134 t1138 t1142 t1146 t1150 t1154 t1158 y1173 (wrap64 (x22_4 + 1))))) else (if (t1188 != false) = true then (some false) else (thistlelaw02_SetsRing.l0 kj660 t1130 t1134 t1138 t1142 t1146 t1150 t1154 t1158 y1173 (wrap64 (x22_4 + 1))))))))) = some r := H
                                                have A683 := Aside0.mk A6830
                                                clear A6830
                                                by_cases c684 : t1185 = true
                                                · subst c684
                                                  have H1 : (if (t1184 != (!t1177)) = true then (some false) else ((thistlelaw02_within.f kj660 t1158 (rd y1173 x22_4)).bind fun t1186 => ((thistlelaw02_unit.f (rd y1173 x22_4)).bind fun t1187 => (if t1187 = true then (if (rd y1173 x22_4) ≤ 1114111 then (if (t1186 != (!t1177)) = true then (some false) else (thistlelaw02_SetsRing.l0 kj660 t1130 t1134 t1138 t1142 t1146 t1150 t1154 t1158 y1173 (wrap64 (x22_4 + 1)))) else (if (t1186 != false) = true then (some false) else (thistlelaw02_SetsRing.l0 kj660 t1130 t1134 t1138 t1142 t1146 t1150 t1154 t1158 y1173 (wrap64 (x22_4 + 1))))) else (if (t1186 != false) = true then (some false) else (thistlelaw02_SetsRing.l0 kj660 t1130 t1134 t1138 t1142 t1146 t1150 t1154 t1158 y1173 (wrap64 (x22_4 + 1)))))))) = some r := by rw [if_pos rfl] at H; exact H
                                                  clear H
                                                  have H := H1
                                                  clear H1
                                                  by_cases c685 : (t1184 != (!t1177)) = true
                                                  · rw [if_pos c685] at H
                                                    have c685b0 : (t1184 != (!t1177)) = true := c685
                                                    (try (have c685b1 : (t1184 == t1177) = true := by revert c685; cases t1184 <;> cases t1177 <;> simp))
                                                    (try (have c685b2 : (t1184 != t1177) = false := by revert c685; cases t1184 <;> cases t1177 <;> simp))
                                                    (try (have c685b3 : decide (t1184 = t1177) = true := by revert c685; cases t1184 <;> cases t1177 <;> simp))
                                                    (try (have c685b4 : decide (t1184 = (!t1177)) = false := by simpa using c685))
                                                    (try (have c685b5 : (t1184 == (!t1177)) = false := by simpa using c685))
                                                    (try (have c685b6 : ¬ (t1184 = (!t1177)) := by simpa using c685))
                                                    clear c685
                                                    as_aux_lemma =>
                                                      exact absurd (H.trans (congrArg some hrt.out)) (by simp)
                                                  · rw [if_neg c685] at H
                                                    have c685b0 : (t1184 != (!t1177)) = false := by simpa using c685
                                                    (try (have c685b1 : (t1184 == t1177) = false := by revert c685; cases t1184 <;> cases t1177 <;> simp))
                                                    (try (have c685b2 : (t1184 != t1177) = true := by revert c685; cases t1184 <;> cases t1177 <;> simp))
                                                    (try (have c685b3 : decide (t1184 = t1177) = false := by revert c685; cases t1184 <;> cases t1177 <;> simp))
                                                    (try (have c685b4 : ¬ (t1184 = t1177) := by revert c685; cases t1184 <;> cases t1177 <;> simp))
                                                    (try (have c685b5 : t1184 = (!t1177) := by revert c685; cases t1184 <;> cases t1177 <;> simp))
                                                    (try (have c685b6 : (t1184 == (!t1177)) = true := by revert c685; cases t1184 <;> cases t1177 <;> simp))
                                                    (try (have c685b7 : decide (t1184 = (!t1177)) = true := by revert c685; cases t1184 <;> cases t1177 <;> simp))
                                                    (try (have c685b8 : decide (t1184 = (!t1177)) = true := by simpa using c685))
                                                    (try (have c685b9 : (t1184 == (!t1177)) = true := by simpa using c685))
                                                    clear c685
                                                    replace H := Option.bind_eq_some_iff.mp H
                                                    obtain ⟨t1186, A6860, H⟩ := H
                                                    replace H : ((thistlelaw02_unit.f (rd y1173 x22_4)).bind fun t1187 => (if t1187 = true then (if (rd y1173 x22_4) ≤ 1114111 then (if (t1186 != (!t1177)) = true then (some false) else (thistlelaw02_SetsRing.l0 kj660 t1130 t1134 t1138 t1142 t1146 t1150 t1154 t1158 y1173 (wrap64 (x22_4 + 1)))) else (if (t1186 != false) = true then (some false) else (thistlelaw02_SetsRing.l0 kj660 t1130 t1134 t1138 t1142 t1146 t1150 t1154 t1158 y1173 (wrap64 (x22_4 + 1))))) else (if (t1186 != false) = true then (some false) else (thistlelaw02_SetsRing.l0 kj660 t1130 t1134 t1138 t1142 t1146 t1150 t1154 t1158 y1173 (wrap64 (x22_4 + 1)))))) = some r := H
                                                    have A686 := Aside0.mk A6860
                                                    clear A6860
                                                    replace H := Option.bind_eq_some_iff.mp H
                                                    obtain ⟨t1187, A6870, H⟩ := H
                                                    replace H : (if t1187 = true then (if (rd y1173 x22_4) ≤ 1114111 then (if (t1186 != (!t1177)) = true then (some false) else (thistlelaw02_SetsRing.l0 kj660 t1130 t1134 t1138 t1142 t1146 t1150 t1154 t1158 y1173 (wrap64 (x22_4 + 1)))) else (if (t1186 != false) = true then (some false) else (thistlelaw02_SetsRing.l0 kj660 t1130 t1134 t1138 t1142 t1146 t1150 t1154 t1158 y1173 (wrap64 (x22_4 + 1))))) else (if (t1186 != false) = true then (some false) else (thistlelaw02_SetsRing.l0 kj660 t1130 t1134 t1138 t1142 t1146 t1150 t1154 t1158 y1173 (wrap64 (x22_4 + 1))))) = some r := H
                                                    have A687 := Aside0.mk A6870
                                                    clear A6870
                                                    by_cases c688 : t1187 = true
                                                    · subst c688
                                                      have H1 : (if (rd y1173 x22_4) ≤ 1114111 then (if (t1186 != (!t1177)) = true then (some false) else (thistlelaw02_SetsRing.l0 kj660 t1130 t1134 t1138 t1142 t1146 t1150 t1154 t1158 y1173 (wrap64 (x22_4 + 1)))) else (if (t1186 != false) = true then (some false) else (thistlelaw02_SetsRing.l0 kj660 t1130 t1134 t1138 t1142 t1146 t1150 t1154 t1158 y1173 (wrap64 (x22_4 + 1))))) = some r := by rw [if_pos rfl] at H; exact H
                                                      clear H
                                                      have H := H1
                                                      clear H1
                                                      by_cases c689 : (rd y1173 x22_4) ≤ 1114111
                                                      · rw [if_pos c689] at H
                                                        have c689b0 : decide ((rd y1173 x22_4) ≤ 1114111) = true := decide_eq_true c689
                                                        clear c689
                                                        by_cases c690 : (t1186 != (!t1177)) = true
                                                        · rw [if_pos c690] at H
                                                          have c690b0 : (t1186 != (!t1177)) = true := c690
                                                          (try (have c690b1 : (t1186 == t1177) = true := by revert c690; cases t1186 <;> cases t1177 <;> simp))
                                                          (try (have c690b2 : (t1186 != t1177) = false := by revert c690; cases t1186 <;> cases t1177 <;> simp))
                                                          (try (have c690b3 : decide (t1186 = t1177) = true := by revert c690; cases t1186 <;> cases t1177 <;> simp))
                                                          (try (have c690b4 : decide (t1186 = (!t1177)) = false := by simpa using c690))
                                                          (try (have c690b5 : (t1186 == (!t1177)) = false := by simpa using c690))
                                                          (try (have c690b6 : ¬ (t1186 = (!t1177)) := by simpa using c690))
                                                          clear c690
                                                          as_aux_lemma =>
                                                            exact absurd (H.trans (congrArg some hrt.out)) (by simp)
                                                        · rw [if_neg c690] at H
                                                          have c690b0 : (t1186 != (!t1177)) = false := by simpa using c690
                                                          (try (have c690b1 : (t1186 == t1177) = false := by revert c690; cases t1186 <;> cases t1177 <;> simp))
                                                          (try (have c690b2 : (t1186 != t1177) = true := by revert c690; cases t1186 <;> cases t1177 <;> simp))
                                                          (try (have c690b3 : decide (t1186 = t1177) = false := by revert c690; cases t1186 <;> cases t1177 <;> simp))
                                                          (try (have c690b4 : ¬ (t1186 = t1177) := by revert c690; cases t1186 <;> cases t1177 <;> simp))
                                                          (try (have c690b5 : t1186 = (!t1177) := by revert c690; cases t1186 <;> cases t1177 <;> simp))
                                                          (try (have c690b6 : (t1186 == (!t1177)) = true := by revert c690; cases t1186 <;> cases t1177 <;> simp))
                                                          (try (have c690b7 : decide (t1186 = (!t1177)) = true := by revert c690; cases t1186 <;> cases t1177 <;> simp))
                                                          (try (have c690b8 : decide (t1186 = (!t1177)) = true := by simpa using c690))
                                                          (try (have c690b9 : (t1186 == (!t1177)) = true := by simpa using c690))
                                                          clear c690
                                                          as_aux_lemma =>
                                                            have H' := Aside0.mk H
                                                            clear H
                                                            obtain ⟨Ao691, co691, eo691⟩ := Kd.R_slice HO_15.out
                                                            subst eo691
                                                            have tok14_ : True := trivial
                                                            have tok15_ : True := trivial
                                                            have tok16_ : True := trivial
                                                            have tok17_ : True := trivial
                                                            go_wp2_with (first | ((with_reducible refine gate_callee (f := 16) rfl ?_); clear tok14_; refine goesL_ (some 188) rfl rfl Tryd.func16 (by kernel_rfl) rfl #[.slice Ao691 t1150.length co691, .int .i64 (rd y1173 x22_4)] rfl (by (try simp only [List.map_toArray, List.map_cons, List.map_nil]); first | done | rfl | (simp only [List.length_drop, List.length_take]; rfl)) ?_; (with_reducible refine (thistlelaw02_within.calls kj660 _ _ t1150 (rd y1173 x22_4) t1184 _ ?side1 ?side2 A682.out).mono ?_); (case side1 => repeat (first | exact (Kd.R_reads' HO_15.out).2.2 | (with_reducible refine Kd.C_alloc ?_ _) | (with_reducible refine Kd.C_drewN ?_ _) | (with_reducible refine Kd.C_drew ?_))); (case side2 => exact (Kd.R_reads' HO_15.out).2.1); rintro e w' ⟨rfl, ⟨nd, rfl⟩⟩; refine ⟨_, rfl, ?_⟩) | ((with_reducible refine gate_callee (f := 15) rfl ?_); clear tok15_; refine goesL_ (some 190) rfl rfl Tryd.func15 (by kernel_rfl) rfl #[.int .i64 (rd y1173 x22_4)] rfl (by (try simp only [List.map_toArray, List.map_cons, List.map_nil]); first | done | rfl | (simp only [List.length_drop, List.length_take]; rfl)) ?_; (with_reducible refine (thistlelaw02_unit.calls (rd y1173 x22_4) true _ A683.out).mono ?_); rintro e w' ⟨rfl, ⟨nd, rfl⟩⟩; refine ⟨_, rfl, ?_⟩; obtain ⟨Ao692, co692, eo692⟩ := Kd.R_slice HO_19.out; subst eo692) | (go_at_call 16; clear tok16_; (with_reducible refine (thistlelaw02_within.calls kj660 _ _ t1158 (rd y1173 x22_4) t1186 _ ?side1 ?side2 A686.out).mono ?_); (case side1 => repeat (first | exact (Kd.R_reads' HO_19.out).2.2 | (with_reducible refine Kd.C_alloc ?_ _) | (with_reducible refine Kd.C_drewN ?_ _) | (with_reducible refine Kd.C_drew ?_))); (case side2 => exact (Kd.R_reads' HO_19.out).2.1); rintro e w' ⟨rfl, ⟨nd, rfl⟩⟩) | (go_at_call 15; clear tok17_; (with_reducible refine (thistlelaw02_unit.calls (rd y1173 x22_4) true _ A687.out).mono ?_); rintro e w' ⟨rfl, ⟨nd, rfl⟩⟩))
                                                            go_roundg kj660
                                                            case measure => have := HJ606.out; have := HJ618.out; have := HJ633.out; have := HK4.out; have := HJ660.out; omega
                                                            case rel => exact ⟨(wrap64 (x22_4 + 1)), (by first | rfl | (simp; done) | (simp [*]; done)), H', ⟨by have := HJ606.out; have := HJ618.out; have := HJ633.out; have := HK4.out; have := HJ660.out; omega⟩, ⟨by (with_reducible repeat (first | apply Kd.R_alloc | apply Kd.R_drewN | apply Kd.R_drew)); exact HO_5.out⟩, ⟨by (with_reducible repeat (first | apply Kd.R_alloc | apply Kd.R_drewN | apply Kd.R_drew)); exact HO_7.out⟩, ⟨by (with_reducible repeat (first | apply Kd.R_alloc | apply Kd.R_drewN | apply Kd.R_drew)); exact HO_9.out⟩, ⟨by (with_reducible repeat (first | apply Kd.R_alloc | apply Kd.R_drewN | apply Kd.R_drew)); exact HO_11.out⟩, ⟨by (with_reducible repeat (first | apply Kd.R_alloc | apply Kd.R_drewN | apply Kd.R_drew)); exact HO_13.out⟩, ⟨by (with_reducible repeat (first | apply Kd.R_alloc | apply Kd.R_drewN | apply Kd.R_drew)); exact HO_15.out⟩, ⟨by (with_reducible repeat (first | apply Kd.R_alloc | apply Kd.R_drewN | apply Kd.R_drew)); exact HO_17.out⟩, ⟨by (with_reducible repeat (first | apply Kd.R_alloc | apply Kd.R_drewN | apply Kd.R_drew)); exact HO_19.out⟩, ⟨by (with_reducible repeat (first | apply Kd.R_alloc | apply Kd.R_drewN | apply Kd.R_drew)); exact HO_21.out⟩, ⟨by repeat (first | (with_reducible first | exact HB.out | apply below_alloc | apply pw_below_drewN | apply below_drew1) | exact HB.out)⟩⟩
                                                      · rw [if_neg c689] at H
                                                        have c689b0 : decide ((rd y1173 x22_4) ≤ 1114111) = false := decide_eq_false c689
                                                        clear c689
                                                        by_cases c693 : (t1186 != false) = true
                                                        · rw [if_pos c693] at H
                                                          have c693b0 : (t1186 != false) = true := c693
                                                          (try (have c693b1 : decide (t1186 = false) = false := by simpa using c693))
                                                          (try (have c693b2 : (t1186 == false) = false := by simpa using c693))
                                                          (try (have c693b3 : ¬ (t1186 = false) := by simpa using c693))
                                                          clear c693
                                                          as_aux_lemma =>
                                                            exact absurd (H.trans (congrArg some hrt.out)) (by simp)
                                                        · rw [if_neg c693] at H
                                                          have c693b0 : (t1186 != false) = false := by simpa using c693
                                                          (try (have c693b1 : decide (t1186 = false) = true := by simpa using c693))
                                                          (try (have c693b2 : (t1186 == false) = true := by simpa using c693))
                                                          clear c693
                                                          as_aux_lemma =>
                                                            have H' := Aside0.mk H
                                                            clear H
                                                            obtain ⟨Ao694, co694, eo694⟩ := Kd.R_slice HO_15.out
                                                            subst eo694
                                                            have tok18_ : True := trivial
                                                            have tok19_ : True := trivial
                                                            have tok20_ : True := trivial
                                                            have tok21_ : True := trivial
                                                            go_wp2_with (first | ((with_reducible refine gate_callee (f := 16) rfl ?_); clear tok18_; refine goesL_ (some 188) rfl rfl Tryd.func16 (by kernel_rfl) rfl #[.slice Ao694 t1150.length co694, .int .i64 (rd y1173 x22_4)] rfl (by (try simp only [List.map_toArray, List.map_cons, List.map_nil]); first | done | rfl | (simp only [List.length_drop, List.length_take]; rfl)) ?_; (with_reducible refine (thistlelaw02_within.calls kj660 _ _ t1150 (rd y1173 x22_4) t1184 _ ?side1 ?side2 A682.out).mono ?_); (case side1 => repeat (first | exact (Kd.R_reads' HO_15.out).2.2 | (with_reducible refine Kd.C_alloc ?_ _) | (with_reducible refine Kd.C_drewN ?_ _) | (with_reducible refine Kd.C_drew ?_))); (case side2 => exact (Kd.R_reads' HO_15.out).2.1); rintro e w' ⟨rfl, ⟨nd, rfl⟩⟩; refine ⟨_, rfl, ?_⟩) | ((with_reducible refine gate_callee (f := 15) rfl ?_); clear tok19_; refine goesL_ (some 190) rfl rfl Tryd.func15 (by kernel_rfl) rfl #[.int .i64 (rd y1173 x22_4)] rfl (by (try simp only [List.map_toArray, List.map_cons, List.map_nil]); first | done | rfl | (simp only [List.length_drop, List.length_take]; rfl)) ?_; (with_reducible refine (thistlelaw02_unit.calls (rd y1173 x22_4) true _ A683.out).mono ?_); rintro e w' ⟨rfl, ⟨nd, rfl⟩⟩; refine ⟨_, rfl, ?_⟩; obtain ⟨Ao695, co695, eo695⟩ := Kd.R_slice HO_19.out; subst eo695) | (go_at_call 16; clear tok20_; (with_reducible refine (thistlelaw02_within.calls kj660 _ _ t1158 (rd y1173 x22_4) t1186 _ ?side1 ?side2 A686.out).mono ?_); (case side1 => repeat (first | exact (Kd.R_reads' HO_19.out).2.2 | (with_reducible refine Kd.C_alloc ?_ _) | (with_reducible refine Kd.C_drewN ?_ _) | (with_reducible refine Kd.C_drew ?_))); (case side2 => exact (Kd.R_reads' HO_19.out).2.1); rintro e w' ⟨rfl, ⟨nd, rfl⟩⟩) | (go_at_call 15; clear tok21_; (with_reducible refine (thistlelaw02_unit.calls (rd y1173 x22_4) true _ A687.out).mono ?_); rintro e w' ⟨rfl, ⟨nd, rfl⟩⟩))
                                                            go_roundg kj660
                                                            case measure => have := HJ606.out; have := HJ618.out; have := HJ633.out; have := HK4.out; have := HJ660.out; omega
                                                            case rel => exact ⟨(wrap64 (x22_4 + 1)), (by first | rfl | (simp; done) | (simp [*]; done)), H', ⟨by have := HJ606.out; have := HJ618.out; have := HJ633.out; have := HK4.out; have := HJ660.out; omega⟩, ⟨by (with_reducible repeat (first | apply Kd.R_alloc | apply Kd.R_drewN | apply Kd.R_drew)); exact HO_5.out⟩, ⟨by (with_reducible repeat (first | apply Kd.R_alloc | apply Kd.R_drewN | apply Kd.R_drew)); exact HO_7.out⟩, ⟨by (with_reducible repeat (first | apply Kd.R_alloc | apply Kd.R_drewN | apply Kd.R_drew)); exact HO_9.out⟩, ⟨by (with_reducible repeat (first | apply Kd.R_alloc | apply Kd.R_drewN | apply Kd.R_drew)); exact HO_11.out⟩, ⟨by (with_reducible repeat (first | apply Kd.R_alloc | apply Kd.R_drewN | apply Kd.R_drew)); exact HO_13.out⟩, ⟨by (with_reducible repeat (first | apply Kd.R_alloc | apply Kd.R_drewN | apply Kd.R_drew)); exact HO_15.out⟩, ⟨by (with_reducible repeat (first | apply Kd.R_alloc | apply Kd.R_drewN | apply Kd.R_drew)); exact HO_17.out⟩, ⟨by (with_reducible repeat (first | apply Kd.R_alloc | apply Kd.R_drewN | apply Kd.R_drew)); exact HO_19.out⟩, ⟨by (with_reducible repeat (first | apply Kd.R_alloc | apply Kd.R_drewN | apply Kd.R_drew)); exact HO_21.out⟩, ⟨by repeat (first | (with_reducible first | exact HB.out | apply below_alloc | apply pw_below_drewN | apply below_drew1) | exact HB.out)⟩⟩
                                                    · replace c688 := Bool.eq_false_iff.mpr c688
                                                      subst c688
                                                      have H1 : (if (t1186 != false) = true then (some false) else (thistlelaw02_SetsRing.l0 kj660 t1130 t1134 t1138 t1142 t1146 t1150 t1154 t1158 y1173 (wrap64 (x22_4 + 1)))) = some r := by rw [if_neg (show ¬ (false = true) by decide)] at H; exact H
                                                      clear H
                                                      have H := H1
                                                      clear H1
                                                      by_cases c696 : (t1186 != false) = true
                                                      · rw [if_pos c696] at H
                                                        have c696b0 : (t1186 != false) = true := c696
                                                        (try (have c696b1 : decide (t1186 = false) = false := by simpa using c696))
                                                        (try (have c696b2 : (t1186 == false) = false := by simpa using c696))
                                                        (try (have c696b3 : ¬ (t1186 = false) := by simpa using c696))
                                                        clear c696
                                                        as_aux_lemma =>
                                                          exact absurd (H.trans (congrArg some hrt.out)) (by simp)
                                                      · rw [if_neg c696] at H
                                                        have c696b0 : (t1186 != false) = false := by simpa using c696
                                                        (try (have c696b1 : decide (t1186 = false) = true := by simpa using c696))
                                                        (try (have c696b2 : (t1186 == false) = true := by simpa using c696))
                                                        clear c696
                                                        as_aux_lemma =>
                                                          have H' := Aside0.mk H
                                                          clear H
                                                          obtain ⟨Ao697, co697, eo697⟩ := Kd.R_slice HO_15.out
                                                          subst eo697
                                                          have tok22_ : True := trivial
                                                          have tok23_ : True := trivial
                                                          have tok24_ : True := trivial
                                                          have tok25_ : True := trivial
                                                          go_wp2_with (first | ((with_reducible refine gate_callee (f := 16) rfl ?_); clear tok22_; refine goesL_ (some 188) rfl rfl Tryd.func16 (by kernel_rfl) rfl #[.slice Ao697 t1150.length co697, .int .i64 (rd y1173 x22_4)] rfl (by (try simp only [List.map_toArray, List.map_cons, List.map_nil]); first | done | rfl | (simp only [List.length_drop, List.length_take]; rfl)) ?_; (with_reducible refine (thistlelaw02_within.calls kj660 _ _ t1150 (rd y1173 x22_4) t1184 _ ?side1 ?side2 A682.out).mono ?_); (case side1 => repeat (first | exact (Kd.R_reads' HO_15.out).2.2 | (with_reducible refine Kd.C_alloc ?_ _) | (with_reducible refine Kd.C_drewN ?_ _) | (with_reducible refine Kd.C_drew ?_))); (case side2 => exact (Kd.R_reads' HO_15.out).2.1); rintro e w' ⟨rfl, ⟨nd, rfl⟩⟩; refine ⟨_, rfl, ?_⟩) | ((with_reducible refine gate_callee (f := 15) rfl ?_); clear tok23_; refine goesL_ (some 190) rfl rfl Tryd.func15 (by kernel_rfl) rfl #[.int .i64 (rd y1173 x22_4)] rfl (by (try simp only [List.map_toArray, List.map_cons, List.map_nil]); first | done | rfl | (simp only [List.length_drop, List.length_take]; rfl)) ?_; (with_reducible refine (thistlelaw02_unit.calls (rd y1173 x22_4) true _ A683.out).mono ?_); rintro e w' ⟨rfl, ⟨nd, rfl⟩⟩; refine ⟨_, rfl, ?_⟩; obtain ⟨Ao698, co698, eo698⟩ := Kd.R_slice HO_19.out; subst eo698) | (go_at_call 16; clear tok24_; (with_reducible refine (thistlelaw02_within.calls kj660 _ _ t1158 (rd y1173 x22_4) t1186 _ ?side1 ?side2 A686.out).mono ?_); (case side1 => repeat (first | exact (Kd.R_reads' HO_19.out).2.2 | (with_reducible refine Kd.C_alloc ?_ _) | (with_reducible refine Kd.C_drewN ?_ _) | (with_reducible refine Kd.C_drew ?_))); (case side2 => exact (Kd.R_reads' HO_19.out).2.1); rintro e w' ⟨rfl, ⟨nd, rfl⟩⟩) | (go_at_call 15; clear tok25_; (with_reducible refine (thistlelaw02_unit.calls (rd y1173 x22_4) false _ A687.out).mono ?_); rintro e w' ⟨rfl, ⟨nd, rfl⟩⟩))
                                                          go_roundg kj660
                                                          case measure => have := HJ606.out; have := HJ618.out; have := HJ633.out; have := HK4.out; have := HJ660.out; omega
                                                          case rel => exact ⟨(wrap64 (x22_4 + 1)), (by first | rfl | (simp; done) | (simp [*]; done)), H', ⟨by have := HJ606.out; have := HJ618.out; have := HJ633.out; have := HK4.out; have := HJ660.out; omega⟩, ⟨by (with_reducible repeat (first | apply Kd.R_alloc | apply Kd.R_drewN | apply Kd.R_drew)); exact HO_5.out⟩, ⟨by (with_reducible repeat (first | apply Kd.R_alloc | apply Kd.R_drewN | apply Kd.R_drew)); exact HO_7.out⟩, ⟨by (with_reducible repeat (first | apply Kd.R_alloc | apply Kd.R_drewN | apply Kd.R_drew)); exact HO_9.out⟩, ⟨by (with_reducible repeat (first | apply Kd.R_alloc | apply Kd.R_drewN | apply Kd.R_drew)); exact HO_11.out⟩, ⟨by (with_reducible repeat (first | apply Kd.R_alloc | apply Kd.R_drewN | apply Kd.R_drew)); exact HO_13.out⟩, ⟨by (with_reducible repeat (first | apply Kd.R_alloc | apply Kd.R_drewN | apply Kd.R_drew)); exact HO_15.out⟩, ⟨by (with_reducible repeat (first | apply Kd.R_alloc | apply Kd.R_drewN | apply Kd.R_drew)); exact HO_17.out⟩, ⟨by (with_reducible repeat (first | apply Kd.R_alloc | apply Kd.R_drewN | apply Kd.R_drew)); exact HO_19.out⟩, ⟨by (with_reducible repeat (first | apply Kd.R_alloc | apply Kd.R_drewN | apply Kd.R_drew)); exact HO_21.out⟩, ⟨by repeat (first | (with_reducible first | exact HB.out | apply below_alloc | apply pw_below_drewN | apply below_drew1) | exact HB.out)⟩⟩
                                                · replace c684 := Bool.eq_false_iff.mpr c684
                                                  subst c684
                                                  have H1 : (if (t1184 != false) = true then (some false) else ((thistlelaw02_within.f kj660 t1158 (rd y1173 x22_4)).bind fun t1188 => ((thistlelaw02_unit.f (rd y1173 x22_4)).bind fun t1189 => (if t1189 = true then (if (rd y1173 x22_4) ≤ 1114111 then (if (t1188 != (!t1177)) = true then (some false) else (thistlelaw02_SetsRing.l0 kj660 t1130 t1134 t1138 t1142 t1146 t1150 t1154 t1158 y1173 (wrap64 (x22_4 + 1)))) else (if (t1188 != false) = true then (some false) else (thistlelaw02_SetsRing.l0 kj660 t1130 t1134 t1138 t1142 t1146 t1150 t1154 t1158 y1173 (wrap64 (x22_4 + 1))))) else (if (t1188 != false) = true then (some false) else (thistlelaw02_SetsRing.l0 kj660 t1130 t1134 t1138 t1142 t1146 t1150 t1154 t1158 y1173 (wrap64 (x22_4 + 1)))))))) = some r := by rw [if_neg (show ¬ (false = true) by decide)] at H; exact H
                                                  clear H
                                                  have H := H1
                                                  clear H1
                                                  by_cases c699 : (t1184 != false) = true
                                                  · rw [if_pos c699] at H
                                                    have c699b0 : (t1184 != false) = true := c699
                                                    (try (have c699b1 : decide (t1184 = false) = false := by simpa using c699))
                                                    (try (have c699b2 : (t1184 == false) = false := by simpa using c699))
                                                    (try (have c699b3 : ¬ (t1184 = false) := by simpa using c699))
                                                    clear c699
                                                    as_aux_lemma =>
                                                      exact absurd (H.trans (congrArg some hrt.out)) (by simp)
                                                  · rw [if_neg c699] at H
                                                    have c699b0 : (t1184 != false) = false := by simpa using c699
                                                    (try (have c699b1 : decide (t1184 = false) = true := by simpa using c699))
                                                    (try (have c699b2 : (t1184 == false) = true := by simpa using c699))
                                                    clear c699
                                                    replace H := Option.bind_eq_some_iff.mp H
                                                    obtain ⟨t1188, A7000, H⟩ := H
                                                    replace H : ((thistlelaw02_unit.f (rd y1173 x22_4)).bind fun t1189 => (if t1189 = true then (if (rd y1173 x22_4) ≤ 1114111 then (if (t1188 != (!t1177)) = true then (some false) else (thistlelaw02_SetsRing.l0 kj660 t1130 t1134 t1138 t1142 t1146 t1150 t1154 t1158 y1173 (wrap64 (x22_4 + 1)))) else (if (t1188 != false) = true then (some false) else (thistlelaw02_SetsRing.l0 kj660 t1130 t1134 t1138 t1142 t1146 t1150 t1154 t1158 y1173 (wrap64 (x22_4 + 1))))) else (if (t1188 != false) = true then (some false) else (thistlelaw02_SetsRing.l0 kj660 t1130 t1134 t1138 t1142 t1146 t1150 t1154 t1158 y1173 (wrap64 (x22_4 + 1)))))) = some r := H
                                                    have A700 := Aside0.mk A7000
                                                    clear A7000
                                                    replace H := Option.bind_eq_some_iff.mp H
                                                    obtain ⟨t1189, A7010, H⟩ := H
                                                    replace H : (if t1189 = true then (if (rd y1173 x22_4) ≤ 1114111 then (if (t1188 != (!t1177)) = true then (some false) else (thistlelaw02_SetsRing.l0 kj660 t1130 t1134 t1138 t1142 t1146 t1150 t1154 t1158 y1173 (wrap64 (x22_4 + 1)))) else (if (t1188 != false) = true then (some false) else (thistlelaw02_SetsRing.l0 kj660 t1130 t1134 t1138 t1142 t1146 t1150 t1154 t1158 y1173 (wrap64 (x22_4 + 1))))) else (if (t1188 != false) = true then (some false) else (thistlelaw02_SetsRing.l0 kj660 t1130 t1134 t1138 t1142 t1146 t1150 t1154 t1158 y1173 (wrap64 (x22_4 + 1))))) = some r := H
                                                    have A701 := Aside0.mk A7010
                                                    clear A7010
                                                    by_cases c702 : t1189 = true
                                                    · subst c702
                                                      have H1 : (if (rd y1173 x22_4) ≤ 1114111 then (if (t1188 != (!t1177)) = true then (some false) else (thistlelaw02_SetsRing.l0 kj660 t1130 t1134 t1138 t1142 t1146 t1150 t1154 t1158 y1173 (wrap64 (x22_4 + 1)))) else (if (t1188 != false) = true then (some false) else (thistlelaw02_SetsRing.l0 kj660 t1130 t1134 t1138 t1142 t1146 t1150 t1154 t1158 y1173 (wrap64 (x22_4 + 1))))) = some r := by rw [if_pos rfl] at H; exact H
                                                      clear H
                                                      have H := H1
                                                      clear H1
                                                      by_cases c703 : (rd y1173 x22_4) ≤ 1114111
                                                      · rw [if_pos c703] at H
                                                        have c703b0 : decide ((rd y1173 x22_4) ≤ 1114111) = true := decide_eq_true c703
                                                        clear c703
                                                        by_cases c704 : (t1188 != (!t1177)) = true
                                                        · rw [if_pos c704] at H
                                                          have c704b0 : (t1188 != (!t1177)) = true := c704
                                                          (try (have c704b1 : (t1188 == t1177) = true := by revert c704; cases t1188 <;> cases t1177 <;> simp))
                                                          (try (have c704b2 : (t1188 != t1177) = false := by revert c704; cases t1188 <;> cases t1177 <;> simp))
                                                          (try (have c704b3 : decide (t1188 = t1177) = true := by revert c704; cases t1188 <;> cases t1177 <;> simp))
                                                          (try (have c704b4 : decide (t1188 = (!t1177)) = false := by simpa using c704))
                                                          (try (have c704b5 : (t1188 == (!t1177)) = false := by simpa using c704))
                                                          (try (have c704b6 : ¬ (t1188 = (!t1177)) := by simpa using c704))
                                                          clear c704
                                                          as_aux_lemma =>
                                                            exact absurd (H.trans (congrArg some hrt.out)) (by simp)
                                                        · rw [if_neg c704] at H
                                                          have c704b0 : (t1188 != (!t1177)) = false := by simpa using c704
                                                          (try (have c704b1 : (t1188 == t1177) = false := by revert c704; cases t1188 <;> cases t1177 <;> simp))
                                                          (try (have c704b2 : (t1188 != t1177) = true := by revert c704; cases t1188 <;> cases t1177 <;> simp))
                                                          (try (have c704b3 : decide (t1188 = t1177) = false := by revert c704; cases t1188 <;> cases t1177 <;> simp))
                                                          (try (have c704b4 : ¬ (t1188 = t1177) := by revert c704; cases t1188 <;> cases t1177 <;> simp))
                                                          (try (have c704b5 : t1188 = (!t1177) := by revert c704; cases t1188 <;> cases t1177 <;> simp))
                                                          (try (have c704b6 : (t1188 == (!t1177)) = true := by revert c704; cases t1188 <;> cases t1177 <;> simp))
                                                          (try (have c704b7 : decide (t1188 = (!t1177)) = true := by revert c704; cases t1188 <;> cases t1177 <;> simp))
                                                          (try (have c704b8 : decide (t1188 = (!t1177)) = true := by simpa using c704))
                                                          (try (have c704b9 : (t1188 == (!t1177)) = true := by simpa using c704))
                                                          clear c704
                                                          as_aux_lemma =>
                                                            have H' := Aside0.mk H
                                                            clear H
                                                            obtain ⟨Ao705, co705, eo705⟩ := Kd.R_slice HO_15.out
                                                            subst eo705
                                                            have tok26_ : True := trivial
                                                            have tok27_ : True := trivial
                                                            have tok28_ : True := trivial
                                                            have tok29_ : True := trivial
                                                            go_wp2_with (first | ((with_reducible refine gate_callee (f := 16) rfl ?_); clear tok26_; refine goesL_ (some 188) rfl rfl Tryd.func16 (by kernel_rfl) rfl #[.slice Ao705 t1150.length co705, .int .i64 (rd y1173 x22_4)] rfl (by (try simp only [List.map_toArray, List.map_cons, List.map_nil]); first | done | rfl | (simp only [List.length_drop, List.length_take]; rfl)) ?_; (with_reducible refine (thistlelaw02_within.calls kj660 _ _ t1150 (rd y1173 x22_4) t1184 _ ?side1 ?side2 A682.out).mono ?_); (case side1 => repeat (first | exact (Kd.R_reads' HO_15.out).2.2 | (with_reducible refine Kd.C_alloc ?_ _) | (with_reducible refine Kd.C_drewN ?_ _) | (with_reducible refine Kd.C_drew ?_))); (case side2 => exact (Kd.R_reads' HO_15.out).2.1); rintro e w' ⟨rfl, ⟨nd, rfl⟩⟩; refine ⟨_, rfl, ?_⟩) | ((with_reducible refine gate_callee (f := 15) rfl ?_); clear tok27_; refine goesL_ (some 190) rfl rfl Tryd.func15 (by kernel_rfl) rfl #[.int .i64 (rd y1173 x22_4)] rfl (by (try simp only [List.map_toArray, List.map_cons, List.map_nil]); first | done | rfl | (simp only [List.length_drop, List.length_take]; rfl)) ?_; (with_reducible refine (thistlelaw02_unit.calls (rd y1173 x22_4) false _ A683.out).mono ?_); rintro e w' ⟨rfl, ⟨nd, rfl⟩⟩; refine ⟨_, rfl, ?_⟩; obtain ⟨Ao706, co706, eo706⟩ := Kd.R_slice HO_19.out; subst eo706) | (go_at_call 16; clear tok28_; (with_reducible refine (thistlelaw02_within.calls kj660 _ _ t1158 (rd y1173 x22_4) t1188 _ ?side1 ?side2 A700.out).mono ?_); (case side1 => repeat (first | exact (Kd.R_reads' HO_19.out).2.2 | (with_reducible refine Kd.C_alloc ?_ _) | (with_reducible refine Kd.C_drewN ?_ _) | (with_reducible refine Kd.C_drew ?_))); (case side2 => exact (Kd.R_reads' HO_19.out).2.1); rintro e w' ⟨rfl, ⟨nd, rfl⟩⟩) | (go_at_call 15; clear tok29_; (with_reducible refine (thistlelaw02_unit.calls (rd y1173 x22_4) true _ A701.out).mono ?_); rintro e w' ⟨rfl, ⟨nd, rfl⟩⟩))
                                                            go_roundg kj660
                                                            case measure => have := HJ606.out; have := HJ618.out; have := HJ633.out; have := HK4.out; have := HJ660.out; omega
                                                            case rel => exact ⟨(wrap64 (x22_4 + 1)), (by first | rfl | (simp; done) | (simp [*]; done)), H', ⟨by have := HJ606.out; have := HJ618.out; have := HJ633.out; have := HK4.out; have := HJ660.out; omega⟩, ⟨by (with_reducible repeat (first | apply Kd.R_alloc | apply Kd.R_drewN | apply Kd.R_drew)); exact HO_5.out⟩, ⟨by (with_reducible repeat (first | apply Kd.R_alloc | apply Kd.R_drewN | apply Kd.R_drew)); exact HO_7.out⟩, ⟨by (with_reducible repeat (first | apply Kd.R_alloc | apply Kd.R_drewN | apply Kd.R_drew)); exact HO_9.out⟩, ⟨by (with_reducible repeat (first | apply Kd.R_alloc | apply Kd.R_drewN | apply Kd.R_drew)); exact HO_11.out⟩, ⟨by (with_reducible repeat (first | apply Kd.R_alloc | apply Kd.R_drewN | apply Kd.R_drew)); exact HO_13.out⟩, ⟨by (with_reducible repeat (first | apply Kd.R_alloc | apply Kd.R_drewN | apply Kd.R_drew)); exact HO_15.out⟩, ⟨by (with_reducible repeat (first | apply Kd.R_alloc | apply Kd.R_drewN | apply Kd.R_drew)); exact HO_17.out⟩, ⟨by (with_reducible repeat (first | apply Kd.R_alloc | apply Kd.R_drewN | apply Kd.R_drew)); exact HO_19.out⟩, ⟨by (with_reducible repeat (first | apply Kd.R_alloc | apply Kd.R_drewN | apply Kd.R_drew)); exact HO_21.out⟩, ⟨by repeat (first | (with_reducible first | exact HB.out | apply below_alloc | apply pw_below_drewN | apply below_drew1) | exact HB.out)⟩⟩
                                                      · rw [if_neg c703] at H
                                                        have c703b0 : decide ((rd y1173 x22_4) ≤ 1114111) = false := decide_eq_false c703
                                                        clear c703
                                                        by_cases c707 : (t1188 != false) = true
                                                        · rw [if_pos c707] at H
                                                          have c707b0 : (t1188 != false) = true := c707
                                                          (try (have c707b1 : decide (t1188 = false) = false := by simpa using c707))
                                                          (try (have c707b2 : (t1188 == false) = false := by simpa using c707))
                                                          (try (have c707b3 : ¬ (t1188 = false) := by simpa using c707))
                                                          clear c707
                                                          as_aux_lemma =>
                                                            exact absurd (H.trans (congrArg some hrt.out)) (by simp)
                                                        · rw [if_neg c707] at H
                                                          have c707b0 : (t1188 != false) = false := by simpa using c707
                                                          (try (have c707b1 : decide (t1188 = false) = true := by simpa using c707))
                                                          (try (have c707b2 : (t1188 == false) = true := by simpa using c707))
                                                          clear c707
                                                          as_aux_lemma =>
                                                            have H' := Aside0.mk H
                                                            clear H
                                                            obtain ⟨Ao708, co708, eo708⟩ := Kd.R_slice HO_15.out
                                                            subst eo708
                                                            have tok30_ : True := trivial
                                                            have tok31_ : True := trivial
                                                            have tok32_ : True := trivial
                                                            have tok33_ : True := trivial
                                                            go_wp2_with (first | ((with_reducible refine gate_callee (f := 16) rfl ?_); clear tok30_; refine goesL_ (some 188) rfl rfl Tryd.func16 (by kernel_rfl) rfl #[.slice Ao708 t1150.length co708, .int .i64 (rd y1173 x22_4)] rfl (by (try simp only [List.map_toArray, List.map_cons, List.map_nil]); first | done | rfl | (simp only [List.length_drop, List.length_take]; rfl)) ?_; (with_reducible refine (thistlelaw02_within.calls kj660 _ _ t1150 (rd y1173 x22_4) t1184 _ ?side1 ?side2 A682.out).mono ?_); (case side1 => repeat (first | exact (Kd.R_reads' HO_15.out).2.2 | (with_reducible refine Kd.C_alloc ?_ _) | (with_reducible refine Kd.C_drewN ?_ _) | (with_reducible refine Kd.C_drew ?_))); (case side2 => exact (Kd.R_reads' HO_15.out).2.1); rintro e w' ⟨rfl, ⟨nd, rfl⟩⟩; refine ⟨_, rfl, ?_⟩) | ((with_reducible refine gate_callee (f := 15) rfl ?_); clear tok31_; refine goesL_ (some 190) rfl rfl Tryd.func15 (by kernel_rfl) rfl #[.int .i64 (rd y1173 x22_4)] rfl (by (try simp only [List.map_toArray, List.map_cons, List.map_nil]); first | done | rfl | (simp only [List.length_drop, List.length_take]; rfl)) ?_; (with_reducible refine (thistlelaw02_unit.calls (rd y1173 x22_4) false _ A683.out).mono ?_); rintro e w' ⟨rfl, ⟨nd, rfl⟩⟩; refine ⟨_, rfl, ?_⟩; obtain ⟨Ao709, co709, eo709⟩ := Kd.R_slice HO_19.out; subst eo709) | (go_at_call 16; clear tok32_; (with_reducible refine (thistlelaw02_within.calls kj660 _ _ t1158 (rd y1173 x22_4) t1188 _ ?side1 ?side2 A700.out).mono ?_); (case side1 => repeat (first | exact (Kd.R_reads' HO_19.out).2.2 | (with_reducible refine Kd.C_alloc ?_ _) | (with_reducible refine Kd.C_drewN ?_ _) | (with_reducible refine Kd.C_drew ?_))); (case side2 => exact (Kd.R_reads' HO_19.out).2.1); rintro e w' ⟨rfl, ⟨nd, rfl⟩⟩) | (go_at_call 15; clear tok33_; (with_reducible refine (thistlelaw02_unit.calls (rd y1173 x22_4) true _ A701.out).mono ?_); rintro e w' ⟨rfl, ⟨nd, rfl⟩⟩))
                                                            go_roundg kj660
                                                            case measure => have := HJ606.out; have := HJ618.out; have := HJ633.out; have := HK4.out; have := HJ660.out; omega
                                                            case rel => exact ⟨(wrap64 (x22_4 + 1)), (by first | rfl | (simp; done) | (simp [*]; done)), H', ⟨by have := HJ606.out; have := HJ618.out; have := HJ633.out; have := HK4.out; have := HJ660.out; omega⟩, ⟨by (with_reducible repeat (first | apply Kd.R_alloc | apply Kd.R_drewN | apply Kd.R_drew)); exact HO_5.out⟩, ⟨by (with_reducible repeat (first | apply Kd.R_alloc | apply Kd.R_drewN | apply Kd.R_drew)); exact HO_7.out⟩, ⟨by (with_reducible repeat (first | apply Kd.R_alloc | apply Kd.R_drewN | apply Kd.R_drew)); exact HO_9.out⟩, ⟨by (with_reducible repeat (first | apply Kd.R_alloc | apply Kd.R_drewN | apply Kd.R_drew)); exact HO_11.out⟩, ⟨by (with_reducible repeat (first | apply Kd.R_alloc | apply Kd.R_drewN | apply Kd.R_drew)); exact HO_13.out⟩, ⟨by (with_reducible repeat (first | apply Kd.R_alloc | apply Kd.R_drewN | apply Kd.R_drew)); exact HO_15.out⟩, ⟨by (with_reducible repeat (first | apply Kd.R_alloc | apply Kd.R_drewN | apply Kd.R_drew)); exact HO_17.out⟩, ⟨by (with_reducible repeat (first | apply Kd.R_alloc | apply Kd.R_drewN | apply Kd.R_drew)); exact HO_19.out⟩, ⟨by (with_reducible repeat (first | apply Kd.R_alloc | apply Kd.R_drewN | apply Kd.R_drew)); exact HO_21.out⟩, ⟨by repeat (first | (with_reducible first | exact HB.out | apply below_alloc | apply pw_below_drewN | apply below_drew1) | exact HB.out)⟩⟩
                                                    · replace c702 := Bool.eq_false_iff.mpr c702
                                                      subst c702
                                                      have H1 : (if (t1188 != false) = true then (some false) else (thistlelaw02_SetsRing.l0 kj660 t1130 t1134 t1138 t1142 t1146 t1150 t1154 t1158 y1173 (wrap64 (x22_4 + 1)))) = some r := by rw [if_neg (show ¬ (false = true) by decide)] at H; exact H
                                                      clear H
                                                      have H := H1
                                                      clear H1
                                                      by_cases c710 : (t1188 != false) = true
                                                      · rw [if_pos c710] at H
                                                        have c710b0 : (t1188 != false) = true := c710
                                                        (try (have c710b1 : decide (t1188 = false) = false := by simpa using c710))
                                                        (try (have c710b2 : (t1188 == false) = false := by simpa using c710))
                                                        (try (have c710b3 : ¬ (t1188 = false) := by simpa using c710))
                                                        clear c710
                                                        as_aux_lemma =>
                                                          exact absurd (H.trans (congrArg some hrt.out)) (by simp)
                                                      · rw [if_neg c710] at H
                                                        have c710b0 : (t1188 != false) = false := by simpa using c710
                                                        (try (have c710b1 : decide (t1188 = false) = true := by simpa using c710))
                                                        (try (have c710b2 : (t1188 == false) = true := by simpa using c710))
                                                        clear c710
                                                        as_aux_lemma =>
                                                          have H' := Aside0.mk H
                                                          clear H
                                                          obtain ⟨Ao711, co711, eo711⟩ := Kd.R_slice HO_15.out
                                                          subst eo711
                                                          have tok34_ : True := trivial
                                                          have tok35_ : True := trivial
                                                          have tok36_ : True := trivial
                                                          have tok37_ : True := trivial
                                                          go_wp2_with (first | ((with_reducible refine gate_callee (f := 16) rfl ?_); clear tok34_; refine goesL_ (some 188) rfl rfl Tryd.func16 (by kernel_rfl) rfl #[.slice Ao711 t1150.length co711, .int .i64 (rd y1173 x22_4)] rfl (by (try simp only [List.map_toArray, List.map_cons, List.map_nil]); first | done | rfl | (simp only [List.length_drop, List.length_take]; rfl)) ?_; (with_reducible refine (thistlelaw02_within.calls kj660 _ _ t1150 (rd y1173 x22_4) t1184 _ ?side1 ?side2 A682.out).mono ?_); (case side1 => repeat (first | exact (Kd.R_reads' HO_15.out).2.2 | (with_reducible refine Kd.C_alloc ?_ _) | (with_reducible refine Kd.C_drewN ?_ _) | (with_reducible refine Kd.C_drew ?_))); (case side2 => exact (Kd.R_reads' HO_15.out).2.1); rintro e w' ⟨rfl, ⟨nd, rfl⟩⟩; refine ⟨_, rfl, ?_⟩) | ((with_reducible refine gate_callee (f := 15) rfl ?_); clear tok35_; refine goesL_ (some 190) rfl rfl Tryd.func15 (by kernel_rfl) rfl #[.int .i64 (rd y1173 x22_4)] rfl (by (try simp only [List.map_toArray, List.map_cons, List.map_nil]); first | done | rfl | (simp only [List.length_drop, List.length_take]; rfl)) ?_; (with_reducible refine (thistlelaw02_unit.calls (rd y1173 x22_4) false _ A683.out).mono ?_); rintro e w' ⟨rfl, ⟨nd, rfl⟩⟩; refine ⟨_, rfl, ?_⟩; obtain ⟨Ao712, co712, eo712⟩ := Kd.R_slice HO_19.out; subst eo712) | (go_at_call 16; clear tok36_; (with_reducible refine (thistlelaw02_within.calls kj660 _ _ t1158 (rd y1173 x22_4) t1188 _ ?side1 ?side2 A700.out).mono ?_); (case side1 => repeat (first | exact (Kd.R_reads' HO_19.out).2.2 | (with_reducible refine Kd.C_alloc ?_ _) | (with_reducible refine Kd.C_drewN ?_ _) | (with_reducible refine Kd.C_drew ?_))); (case side2 => exact (Kd.R_reads' HO_19.out).2.1); rintro e w' ⟨rfl, ⟨nd, rfl⟩⟩) | (go_at_call 15; clear tok37_; (with_reducible refine (thistlelaw02_unit.calls (rd y1173 x22_4) false _ A701.out).mono ?_); rintro e w' ⟨rfl, ⟨nd, rfl⟩⟩))
                                                          go_roundg kj660
                                                          case measure => have := HJ606.out; have := HJ618.out; have := HJ633.out; have := HK4.out; have := HJ660.out; omega
                                                          case rel => exact ⟨(wrap64 (x22_4 + 1)), (by first | rfl | (simp; done) | (simp [*]; done)), H', ⟨by have := HJ606.out; have := HJ618.out; have := HJ633.out; have := HK4.out; have := HJ660.out; omega⟩, ⟨by (with_reducible repeat (first | apply Kd.R_alloc | apply Kd.R_drewN | apply Kd.R_drew)); exact HO_5.out⟩, ⟨by (with_reducible repeat (first | apply Kd.R_alloc | apply Kd.R_drewN | apply Kd.R_drew)); exact HO_7.out⟩, ⟨by (with_reducible repeat (first | apply Kd.R_alloc | apply Kd.R_drewN | apply Kd.R_drew)); exact HO_9.out⟩, ⟨by (with_reducible repeat (first | apply Kd.R_alloc | apply Kd.R_drewN | apply Kd.R_drew)); exact HO_11.out⟩, ⟨by (with_reducible repeat (first | apply Kd.R_alloc | apply Kd.R_drewN | apply Kd.R_drew)); exact HO_13.out⟩, ⟨by (with_reducible repeat (first | apply Kd.R_alloc | apply Kd.R_drewN | apply Kd.R_drew)); exact HO_15.out⟩, ⟨by (with_reducible repeat (first | apply Kd.R_alloc | apply Kd.R_drewN | apply Kd.R_drew)); exact HO_17.out⟩, ⟨by (with_reducible repeat (first | apply Kd.R_alloc | apply Kd.R_drewN | apply Kd.R_drew)); exact HO_19.out⟩, ⟨by (with_reducible repeat (first | apply Kd.R_alloc | apply Kd.R_drewN | apply Kd.R_drew)); exact HO_21.out⟩, ⟨by repeat (first | (with_reducible first | exact HB.out | apply below_alloc | apply pw_below_drewN | apply below_drew1) | exact HB.out)⟩⟩
                                      · rw [if_neg c658] at H
                                        exact absurd H (by simp)
                                    · rw [if_neg c657] at H
                                      have c657b0 : decide (x22_4 < (y1173.length : Int)) = false := decide_eq_false c657
                                      clear c657
                                      replace H := Option.bind_eq_some_iff.mp H
                                      obtain ⟨⟨t1190, t1191⟩, A7130, H⟩ := H
                                      replace H : ((sets_Not.f k4 t1138).bind fun bt1194 => ((sets_And.f k4 t1130 t1154).bind fun bt1198 => ((sets_Not.f k4 t1150).bind fun bt1202 => (if t1191 = 0 then (if bt1194.2 = 0 then (if bt1198.2 = 0 then (thistlelaw02_SetsRing.j5 k4 t1130 t1134 t1138 t1142 t1146 t1150 t1190 bt1194.1 bt1198.1 bt1202.1 (bt1202.2 != 0)) else (thistlelaw02_SetsRing.j5 k4 t1130 t1134 t1138 t1142 t1146 t1150 t1190 bt1194.1 bt1198.1 bt1202.1 true)) else (thistlelaw02_SetsRing.j5 k4 t1130 t1134 t1138 t1142 t1146 t1150 t1190 bt1194.1 bt1198.1 bt1202.1 true)) else (thistlelaw02_SetsRing.j5 k4 t1130 t1134 t1138 t1142 t1146 t1150 t1190 bt1194.1 bt1198.1 bt1202.1 true))))) = some r := H
                                      have A713 := Aside0.mk A7130
                                      clear A7130
                                      replace H := Option.bind_eq_some_iff.mp H
                                      obtain ⟨⟨t1194, t1195⟩, A7140, H⟩ := H
                                      replace H : ((sets_And.f k4 t1130 t1154).bind fun bt1198 => ((sets_Not.f k4 t1150).bind fun bt1202 => (if t1191 = 0 then (if t1195 = 0 then (if bt1198.2 = 0 then (thistlelaw02_SetsRing.j5 k4 t1130 t1134 t1138 t1142 t1146 t1150 t1190 t1194 bt1198.1 bt1202.1 (bt1202.2 != 0)) else (thistlelaw02_SetsRing.j5 k4 t1130 t1134 t1138 t1142 t1146 t1150 t1190 t1194 bt1198.1 bt1202.1 true)) else (thistlelaw02_SetsRing.j5 k4 t1130 t1134 t1138 t1142 t1146 t1150 t1190 t1194 bt1198.1 bt1202.1 true)) else (thistlelaw02_SetsRing.j5 k4 t1130 t1134 t1138 t1142 t1146 t1150 t1190 t1194 bt1198.1 bt1202.1 true)))) = some r := H
                                      have A714 := Aside0.mk A7140
                                      clear A7140
                                      replace H := Option.bind_eq_some_iff.mp H
                                      obtain ⟨⟨t1198, t1199⟩, A7150, H⟩ := H
                                      replace H : ((sets_Not.f k4 t1150).bind fun bt1202 => (if t1191 = 0 then (if t1195 = 0 then (if t1199 = 0 then (thistlelaw02_SetsRing.j5 k4 t1130 t1134 t1138 t1142 t1146 t1150 t1190 t1194 t1198 bt1202.1 (bt1202.2 != 0)) else (thistlelaw02_SetsRing.j5 k4 t1130 t1134 t1138 t1142 t1146 t1150 t1190 t1194 t1198 bt1202.1 true)) else (thistlelaw02_SetsRing.j5 k4 t1130 t1134 t1138 t1142 t1146 t1150 t1190 t1194 t1198 bt1202.1 true)) else (thistlelaw02_SetsRing.j5 k4 t1130 t1134 t1138 t1142 t1146 t1150 t1190 t1194 t1198 bt1202.1 true))) = some r := H
                                      have A715 := Aside0.mk A7150
                                      clear A7150
                                      replace H := Option.bind_eq_some_iff.mp H
                                      obtain ⟨⟨t1202, t1203⟩, A7160, H⟩ := H
                                      replace H : (if t1191 = 0 then (if t1195 = 0 then (if t1199 = 0 then (thistlelaw02_SetsRing.j5 k4 t1130 t1134 t1138 t1142 t1146 t1150 t1190 t1194 t1198 t1202 (t1203 != 0)) else (thistlelaw02_SetsRing.j5 k4 t1130 t1134 t1138 t1142 t1146 t1150 t1190 t1194 t1198 t1202 true)) else (thistlelaw02_SetsRing.j5 k4 t1130 t1134 t1138 t1142 t1146 t1150 t1190 t1194 t1198 t1202 true)) else (thistlelaw02_SetsRing.j5 k4 t1130 t1134 t1138 t1142 t1146 t1150 t1190 t1194 t1198 t1202 true)) = some r := H
                                      have A716 := Aside0.mk A7160
                                      clear A7160
                                      have HC717 := Aside0.mk H
                                      clear H
                                      obtain ⟨Ao718, co718, eo718⟩ := Kd.R_slice HO_21.out
                                      subst eo718
                                      obtain ⟨Ao719, co719, eo719⟩ := Kd.R_slice HO_15.out
                                      subst eo719
                                      obtain ⟨Ao720, co720, eo720⟩ := Kd.R_slice HO_17.out
                                      subst eo720
                                      go_upto_region 33 with (first | ((with_reducible refine gate_callee (f := 23) rfl ?_); refine goesL_ (some 215) rfl rfl Tryd.func23 (by kernel_rfl) rfl #[.slice Ao719 t1150.length co719, .slice Ao720 t1154.length co720] rfl (by (try simp only [List.map_toArray, List.map_cons, List.map_nil]); first | done | rfl | (simp only [List.length_drop, List.length_take]; rfl)) ?_; (with_reducible refine (sets_And.calls k4 _ _ t1150 _ _ t1154 t1190 t1191 _ ?side1 ?side2 ?side3 ?side4 ?side5 A713.out).mono ?_); (case side1 => repeat (first | exact (Kd.R_reads' HO_15.out).2.2 | (with_reducible refine Kd.C_alloc ?_ _) | (with_reducible refine Kd.C_drewN ?_ _) | (with_reducible refine Kd.C_drew ?_))); (case side2 => exact (Kd.R_reads' HO_15.out).2.1); (case side3 => repeat (first | exact (Kd.R_reads' HO_17.out).2.2 | (with_reducible refine Kd.C_alloc ?_ _) | (with_reducible refine Kd.C_drewN ?_ _) | (with_reducible refine Kd.C_drew ?_))); (case side4 => exact (Kd.R_reads' HO_17.out).2.1); (case side5 => first | exact hG | exact Glob.of_below hG (by repeat (first | (with_reducible first | exact HB.out | apply below_alloc | apply pw_below_drewN | apply below_drew1) | exact HB.out)) | exact Glob.of_below hG HB.out | exact Glob.drewN hG _ | exact Glob.drew hG | (with_reducible repeat (first | exact hG | apply Glob.drewN | apply Glob.drew | apply Glob.alloc))); rintro e w721 ⟨v1192, rfl, ho0, hb⟩; refine ⟨_, rfl, ?_⟩; have n0_ := Aside0.mk (Kd.R_elder' (by (with_reducible repeat (first | apply Kd.R_alloc | apply Kd.R_drewN | apply Kd.R_drew)); exact HO_5.out) (Kd.R_base ho0) hb); have n1_ := Aside0.mk (Kd.R_elder' (by (with_reducible repeat (first | apply Kd.R_alloc | apply Kd.R_drewN | apply Kd.R_drew)); exact HO_7.out) (Kd.R_base ho0) hb); have n2_ := Aside0.mk (Kd.R_elder' (by (with_reducible repeat (first | apply Kd.R_alloc | apply Kd.R_drewN | apply Kd.R_drew)); exact HO_9.out) (Kd.R_base ho0) hb); have n3_ := Aside0.mk (Kd.R_elder' (by (with_reducible repeat (first | apply Kd.R_alloc | apply Kd.R_drewN | apply Kd.R_drew)); exact HO_11.out) (Kd.R_base ho0) hb); have n4_ := Aside0.mk (Kd.R_elder' (by (with_reducible repeat (first | apply Kd.R_alloc | apply Kd.R_drewN | apply Kd.R_drew)); exact HO_13.out) (Kd.R_base ho0) hb); have n5_ := Aside0.mk (Kd.R_elder' (by (with_reducible repeat (first | apply Kd.R_alloc | apply Kd.R_drewN | apply Kd.R_drew)); exact HO_15.out) (Kd.R_base ho0) hb); have n6_ := Aside0.mk (Kd.R_elder' (by (with_reducible repeat (first | apply Kd.R_alloc | apply Kd.R_drewN | apply Kd.R_drew)); exact HO_17.out) (Kd.R_base ho0) hb); have n7_ := Aside0.mk (Kd.R_elder' (by (with_reducible repeat (first | apply Kd.R_alloc | apply Kd.R_drewN | apply Kd.R_drew)); exact HO_19.out) (Kd.R_base ho0) hb); have n8_ := Aside0.mk (Kd.R_below (by (with_reducible repeat (first | apply Kd.R_alloc | apply Kd.R_drewN | apply Kd.R_drew)); exact HO_21.out) hb); have n9_ := Aside0.mk (Kd.R_lower (Kd.R_new' (Kd.R_new' (Kd.R_new' (Kd.R_new' (Kd.R_new' (Kd.R_new' (Kd.R_new' (Kd.R_new' ho0 (Kd.R_lt (by (with_reducible repeat (first | apply Kd.R_alloc | apply Kd.R_drewN | apply Kd.R_drew)); exact HO_5.out))) (Kd.R_lt (by (with_reducible repeat (first | apply Kd.R_alloc | apply Kd.R_drewN | apply Kd.R_drew)); exact HO_7.out))) (Kd.R_lt (by (with_reducible repeat (first | apply Kd.R_alloc | apply Kd.R_drewN | apply Kd.R_drew)); exact HO_9.out))) (Kd.R_lt (by (with_reducible repeat (first | apply Kd.R_alloc | apply Kd.R_drewN | apply Kd.R_drew)); exact HO_11.out))) (Kd.R_lt (by (with_reducible repeat (first | apply Kd.R_alloc | apply Kd.R_drewN | apply Kd.R_drew)); exact HO_13.out))) (Kd.R_lt (by (with_reducible repeat (first | apply Kd.R_alloc | apply Kd.R_drewN | apply Kd.R_drew)); exact HO_15.out))) (Kd.R_lt (by (with_reducible repeat (first | apply Kd.R_alloc | apply Kd.R_drewN | apply Kd.R_drew)); exact HO_17.out))) (Kd.R_lt (by (with_reducible repeat (first | apply Kd.R_alloc | apply Kd.R_drewN | apply Kd.R_drew)); exact HO_19.out))) (below_size (by repeat (first | (with_reducible first | exact HB.out | apply below_alloc | apply pw_below_drewN | apply below_drew1) | exact HB.out)))); have n10_ := Aside0.mk (below_step (by repeat (first | (with_reducible first | exact HB.out | apply below_alloc | apply pw_below_drewN | apply below_drew1) | exact HB.out)) hb); clear HO_5; clear HO_7; clear HO_9; clear HO_11; clear HO_13; clear HO_15; clear HO_17; clear HO_19; clear HO_21; clear HB; have HO_5 := n0_; have HO_7 := n1_; have HO_9 := n2_; have HO_11 := n3_; have HO_13 := n4_; have HO_15 := n5_; have HO_17 := n6_; have HO_19 := n7_; have HO_21 := n8_; have HO1193 := n9_; have HB := n10_; clear n0_ n1_ n2_ n3_ n4_ n5_ n6_ n7_ n8_ n9_ n10_; (try clear hb); (try clear hb2); (try clear hk); (try clear hi); (try clear ho0); obtain ⟨Ao722, co722, eo722⟩ := Kd.R_slice HO_9.out; subst eo722) | ((with_reducible refine gate_callee (f := 25) rfl ?_); refine goesL_ (some 220) rfl rfl Tryd.func25 (by kernel_rfl) rfl #[.slice Ao722 t1138.length co722] rfl (by (try simp only [List.map_toArray, List.map_cons, List.map_nil]); first | done | rfl | (simp only [List.length_drop, List.length_take]; rfl)) ?_; (with_reducible refine (sets_Not.calls k4 _ _ t1138 t1194 t1195 _ ?side1 ?side2 ?side3 A714.out).mono ?_); (case side1 => repeat (first | exact (Kd.R_reads' HO_9.out).2.2 | (with_reducible refine Kd.C_alloc ?_ _) | (with_reducible refine Kd.C_drewN ?_ _) | (with_reducible refine Kd.C_drew ?_))); (case side2 => exact (Kd.R_reads' HO_9.out).2.1); (case side3 => first | exact hG | exact Glob.of_below hG (by repeat (first | (with_reducible first | exact HB.out | apply below_alloc | apply pw_below_drewN | apply below_drew1) | exact HB.out)) | exact Glob.of_below hG HB.out | exact Glob.drewN hG _ | exact Glob.drew hG | (with_reducible repeat (first | exact hG | apply Glob.drewN | apply Glob.drew | apply Glob.alloc))); rintro e w723 ⟨v1196, rfl, ho0, hb⟩; refine ⟨_, rfl, ?_⟩; have n0_ := Aside0.mk (Kd.R_elder' (by (with_reducible repeat (first | apply Kd.R_alloc | apply Kd.R_drewN | apply Kd.R_drew)); exact HO_5.out) (Kd.R_base ho0) hb); have n1_ := Aside0.mk (Kd.R_elder' (by (with_reducible repeat (first | apply Kd.R_alloc | apply Kd.R_drewN | apply Kd.R_drew)); exact HO_7.out) (Kd.R_base ho0) hb); have n2_ := Aside0.mk (Kd.R_elder' (by (with_reducible repeat (first | apply Kd.R_alloc | apply Kd.R_drewN | apply Kd.R_drew)); exact HO_9.out) (Kd.R_base ho0) hb); have n3_ := Aside0.mk (Kd.R_elder' (by (with_reducible repeat (first | apply Kd.R_alloc | apply Kd.R_drewN | apply Kd.R_drew)); exact HO_11.out) (Kd.R_base ho0) hb); have n4_ := Aside0.mk (Kd.R_elder' (by (with_reducible repeat (first | apply Kd.R_alloc | apply Kd.R_drewN | apply Kd.R_drew)); exact HO_13.out) (Kd.R_base ho0) hb); have n5_ := Aside0.mk (Kd.R_elder' (by (with_reducible repeat (first | apply Kd.R_alloc | apply Kd.R_drewN | apply Kd.R_drew)); exact HO_15.out) (Kd.R_base ho0) hb); have n6_ := Aside0.mk (Kd.R_elder' (by (with_reducible repeat (first | apply Kd.R_alloc | apply Kd.R_drewN | apply Kd.R_drew)); exact HO_17.out) (Kd.R_base ho0) hb); have n7_ := Aside0.mk (Kd.R_elder' (by (with_reducible repeat (first | apply Kd.R_alloc | apply Kd.R_drewN | apply Kd.R_drew)); exact HO_19.out) (Kd.R_base ho0) hb); have n8_ := Aside0.mk (Kd.R_below (by (with_reducible repeat (first | apply Kd.R_alloc | apply Kd.R_drewN | apply Kd.R_drew)); exact HO_21.out) hb); have n9_ := Aside0.mk (Kd.R_elder' (by (with_reducible repeat (first | apply Kd.R_alloc | apply Kd.R_drewN | apply Kd.R_drew)); exact HO1193.out) (Kd.R_base ho0) hb); have n10_ := Aside0.mk (Kd.R_lower (Kd.R_new' (Kd.R_new' (Kd.R_new' (Kd.R_new' (Kd.R_new' (Kd.R_new' (Kd.R_new' (Kd.R_new' (Kd.R_new' ho0 (Kd.R_lt (by (with_reducible repeat (first | apply Kd.R_alloc | apply Kd.R_drewN | apply Kd.R_drew)); exact HO_5.out))) (Kd.R_lt (by (with_reducible repeat (first | apply Kd.R_alloc | apply Kd.R_drewN | apply Kd.R_drew)); exact HO_7.out))) (Kd.R_lt (by (with_reducible repeat (first | apply Kd.R_alloc | apply Kd.R_drewN | apply Kd.R_drew)); exact HO_9.out))) (Kd.R_lt (by (with_reducible repeat (first | apply Kd.R_alloc | apply Kd.R_drewN | apply Kd.R_drew)); exact HO_11.out))) (Kd.R_lt (by (with_reducible repeat (first | apply Kd.R_alloc | apply Kd.R_drewN | apply Kd.R_drew)); exact HO_13.out))) (Kd.R_lt (by (with_reducible repeat (first | apply Kd.R_alloc | apply Kd.R_drewN | apply Kd.R_drew)); exact HO_15.out))) (Kd.R_lt (by (with_reducible repeat (first | apply Kd.R_alloc | apply Kd.R_drewN | apply Kd.R_drew)); exact HO_17.out))) (Kd.R_lt (by (with_reducible repeat (first | apply Kd.R_alloc | apply Kd.R_drewN | apply Kd.R_drew)); exact HO_19.out))) (Kd.R_lt (by (with_reducible repeat (first | apply Kd.R_alloc | apply Kd.R_drewN | apply Kd.R_drew)); exact HO1193.out))) (below_size (by repeat (first | (with_reducible first | exact HB.out | apply below_alloc | apply pw_below_drewN | apply below_drew1) | exact HB.out)))); have n11_ := Aside0.mk (below_step (by repeat (first | (with_reducible first | exact HB.out | apply below_alloc | apply pw_below_drewN | apply below_drew1) | exact HB.out)) hb); clear HO_5; clear HO_7; clear HO_9; clear HO_11; clear HO_13; clear HO_15; clear HO_17; clear HO_19; clear HO_21; clear HO1193; clear HB; have HO_5 := n0_; have HO_7 := n1_; have HO_9 := n2_; have HO_11 := n3_; have HO_13 := n4_; have HO_15 := n5_; have HO_17 := n6_; have HO_19 := n7_; have HO_21 := n8_; have HO1193 := n9_; have HO1197 := n10_; have HB := n11_; clear n0_ n1_ n2_ n3_ n4_ n5_ n6_ n7_ n8_ n9_ n10_ n11_; (try clear hb); (try clear hb2); (try clear hk); (try clear hi); (try clear ho0)) | ((with_reducible refine gate_callee (f := 23) rfl ?_); refine goesL_ (some 226) rfl rfl Tryd.func23 (by kernel_rfl) rfl #[.slice Ao620 t1130.length co620, .slice Ao720 t1154.length co720] rfl (by (try simp only [List.map_toArray, List.map_cons, List.map_nil]); first | done | rfl | (simp only [List.length_drop, List.length_take]; rfl)) ?_; (with_reducible refine (sets_And.calls k4 _ _ t1130 _ _ t1154 t1198 t1199 _ ?side1 ?side2 ?side3 ?side4 ?side5 A715.out).mono ?_); (case side1 => repeat (first | exact (Kd.R_reads' HO_5.out).2.2 | (with_reducible refine Kd.C_alloc ?_ _) | (with_reducible refine Kd.C_drewN ?_ _) | (with_reducible refine Kd.C_drew ?_))); (case side2 => exact (Kd.R_reads' HO_5.out).2.1); (case side3 => repeat (first | exact (Kd.R_reads' HO_17.out).2.2 | (with_reducible refine Kd.C_alloc ?_ _) | (with_reducible refine Kd.C_drewN ?_ _) | (with_reducible refine Kd.C_drew ?_))); (case side4 => exact (Kd.R_reads' HO_17.out).2.1); (case side5 => first | exact hG | exact Glob.of_below hG (by repeat (first | (with_reducible first | exact HB.out | apply below_alloc | apply pw_below_drewN | apply below_drew1) | exact HB.out)) | exact Glob.of_below hG HB.out | exact Glob.drewN hG _ | exact Glob.drew hG | (with_reducible repeat (first | exact hG | apply Glob.drewN | apply Glob.drew | apply Glob.alloc))); rintro e w724 ⟨v1200, rfl, ho0, hb⟩; refine ⟨_, rfl, ?_⟩; have n0_ := Aside0.mk (Kd.R_elder' (by (with_reducible repeat (first | apply Kd.R_alloc | apply Kd.R_drewN | apply Kd.R_drew)); exact HO_5.out) (Kd.R_base ho0) hb); have n1_ := Aside0.mk (Kd.R_elder' (by (with_reducible repeat (first | apply Kd.R_alloc | apply Kd.R_drewN | apply Kd.R_drew)); exact HO_7.out) (Kd.R_base ho0) hb); have n2_ := Aside0.mk (Kd.R_elder' (by (with_reducible repeat (first | apply Kd.R_alloc | apply Kd.R_drewN | apply Kd.R_drew)); exact HO_9.out) (Kd.R_base ho0) hb); have n3_ := Aside0.mk (Kd.R_elder' (by (with_reducible repeat (first | apply Kd.R_alloc | apply Kd.R_drewN | apply Kd.R_drew)); exact HO_11.out) (Kd.R_base ho0) hb); have n4_ := Aside0.mk (Kd.R_elder' (by (with_reducible repeat (first | apply Kd.R_alloc | apply Kd.R_drewN | apply Kd.R_drew)); exact HO_13.out) (Kd.R_base ho0) hb); have n5_ := Aside0.mk (Kd.R_elder' (by (with_reducible repeat (first | apply Kd.R_alloc | apply Kd.R_drewN | apply Kd.R_drew)); exact HO_15.out) (Kd.R_base ho0) hb); have n6_ := Aside0.mk (Kd.R_elder' (by (with_reducible repeat (first | apply Kd.R_alloc | apply Kd.R_drewN | apply Kd.R_drew)); exact HO_17.out) (Kd.R_base ho0) hb); have n7_ := Aside0.mk (Kd.R_elder' (by (with_reducible repeat (first | apply Kd.R_alloc | apply Kd.R_drewN | apply Kd.R_drew)); exact HO_19.out) (Kd.R_base ho0) hb); have n8_ := Aside0.mk (Kd.R_below (by (with_reducible repeat (first | apply Kd.R_alloc | apply Kd.R_drewN | apply Kd.R_drew)); exact HO_21.out) hb); have n9_ := Aside0.mk (Kd.R_elder' (by (with_reducible repeat (first | apply Kd.R_alloc | apply Kd.R_drewN | apply Kd.R_drew)); exact HO1193.out) (Kd.R_base ho0) hb); have n10_ := Aside0.mk (Kd.R_elder' (by (with_reducible repeat (first | apply Kd.R_alloc | apply Kd.R_drewN | apply Kd.R_drew)); exact HO1197.out) (Kd.R_base ho0) hb); have n11_ := Aside0.mk (Kd.R_lower (Kd.R_new' (Kd.R_new' (Kd.R_new' (Kd.R_new' (Kd.R_new' (Kd.R_new' (Kd.R_new' (Kd.R_new' (Kd.R_new' (Kd.R_new' ho0 (Kd.R_lt (by (with_reducible repeat (first | apply Kd.R_alloc | apply Kd.R_drewN | apply Kd.R_drew)); exact HO_5.out))) (Kd.R_lt (by (with_reducible repeat (first | apply Kd.R_alloc | apply Kd.R_drewN | apply Kd.R_drew)); exact HO_7.out))) (Kd.R_lt (by (with_reducible repeat (first | apply Kd.R_alloc | apply Kd.R_drewN | apply Kd.R_drew)); exact HO_9.out))) (Kd.R_lt (by (with_reducible repeat (first | apply Kd.R_alloc | apply Kd.R_drewN | apply Kd.R_drew)); exact HO_11.out))) (Kd.R_lt (by (with_reducible repeat (first | apply Kd.R_alloc | apply Kd.R_drewN | apply Kd.R_drew)); exact HO_13.out))) (Kd.R_lt (by (with_reducible repeat (first | apply Kd.R_alloc | apply Kd.R_drewN | apply Kd.R_drew)); exact HO_15.out))) (Kd.R_lt (by (with_reducible repeat (first | apply Kd.R_alloc | apply Kd.R_drewN | apply Kd.R_drew)); exact HO_17.out))) (Kd.R_lt (by (with_reducible repeat (first | apply Kd.R_alloc | apply Kd.R_drewN | apply Kd.R_drew)); exact HO_19.out))) (Kd.R_lt (by (with_reducible repeat (first | apply Kd.R_alloc | apply Kd.R_drewN | apply Kd.R_drew)); exact HO1193.out))) (Kd.R_lt (by (with_reducible repeat (first | apply Kd.R_alloc | apply Kd.R_drewN | apply Kd.R_drew)); exact HO1197.out))) (below_size (by repeat (first | (with_reducible first | exact HB.out | apply below_alloc | apply pw_below_drewN | apply below_drew1) | exact HB.out)))); have n12_ := Aside0.mk (below_step (by repeat (first | (with_reducible first | exact HB.out | apply below_alloc | apply pw_below_drewN | apply below_drew1) | exact HB.out)) hb); clear HO_5; clear HO_7; clear HO_9; clear HO_11; clear HO_13; clear HO_15; clear HO_17; clear HO_19; clear HO_21; clear HO1193; clear HO1197; clear HB; have HO_5 := n0_; have HO_7 := n1_; have HO_9 := n2_; have HO_11 := n3_; have HO_13 := n4_; have HO_15 := n5_; have HO_17 := n6_; have HO_19 := n7_; have HO_21 := n8_; have HO1193 := n9_; have HO1197 := n10_; have HO1201 := n11_; have HB := n12_; clear n0_ n1_ n2_ n3_ n4_ n5_ n6_ n7_ n8_ n9_ n10_ n11_ n12_; (try clear hb); (try clear hb2); (try clear hk); (try clear hi); (try clear ho0)) | ((with_reducible refine gate_callee (f := 25) rfl ?_); refine goesL_ (some 231) rfl rfl Tryd.func25 (by kernel_rfl) rfl #[.slice Ao719 t1150.length co719] rfl (by (try simp only [List.map_toArray, List.map_cons, List.map_nil]); first | done | rfl | (simp only [List.length_drop, List.length_take]; rfl)) ?_; (with_reducible refine (sets_Not.calls k4 _ _ t1150 t1202 t1203 _ ?side1 ?side2 ?side3 A716.out).mono ?_); (case side1 => repeat (first | exact (Kd.R_reads' HO_15.out).2.2 | (with_reducible refine Kd.C_alloc ?_ _) | (with_reducible refine Kd.C_drewN ?_ _) | (with_reducible refine Kd.C_drew ?_))); (case side2 => exact (Kd.R_reads' HO_15.out).2.1); (case side3 => first | exact hG | exact Glob.of_below hG (by repeat (first | (with_reducible first | exact HB.out | apply below_alloc | apply pw_below_drewN | apply below_drew1) | exact HB.out)) | exact Glob.of_below hG HB.out | exact Glob.drewN hG _ | exact Glob.drew hG | (with_reducible repeat (first | exact hG | apply Glob.drewN | apply Glob.drew | apply Glob.alloc))); rintro e w725 ⟨v1204, rfl, ho0, hb⟩; refine ⟨_, rfl, ?_⟩; have n0_ := Aside0.mk (Kd.R_elder' (by (with_reducible repeat (first | apply Kd.R_alloc | apply Kd.R_drewN | apply Kd.R_drew)); exact HO_5.out) (Kd.R_base ho0) hb); have n1_ := Aside0.mk (Kd.R_elder' (by (with_reducible repeat (first | apply Kd.R_alloc | apply Kd.R_drewN | apply Kd.R_drew)); exact HO_7.out) (Kd.R_base ho0) hb); have n2_ := Aside0.mk (Kd.R_elder' (by (with_reducible repeat (first | apply Kd.R_alloc | apply Kd.R_drewN | apply Kd.R_drew)); exact HO_9.out) (Kd.R_base ho0) hb); have n3_ := Aside0.mk (Kd.R_elder' (by (with_reducible repeat (first | apply Kd.R_alloc | apply Kd.R_drewN | apply Kd.R_drew)); exact HO_11.out) (Kd.R_base ho0) hb); have n4_ := Aside0.mk (Kd.R_elder' (by (with_reducible repeat (first | apply Kd.R_alloc | apply Kd.R_drewN | apply Kd.R_drew)); exact HO_13.out) (Kd.R_base ho0) hb); have n5_ := Aside0.mk (Kd.R_elder' (by (with_reducible repeat (first | apply Kd.R_alloc | apply Kd.R_drewN | apply Kd.R_drew)); exact HO_15.out) (Kd.R_base ho0) hb); have n6_ := Aside0.mk (Kd.R_elder' (by (with_reducible repeat (first | apply Kd.R_alloc | apply Kd.R_drewN | apply Kd.R_drew)); exact HO_17.out) (Kd.R_base ho0) hb); have n7_ := Aside0.mk (Kd.R_elder' (by (with_reducible repeat (first | apply Kd.R_alloc | apply Kd.R_drewN | apply Kd.R_drew)); exact HO_19.out) (Kd.R_base ho0) hb); have n8_ := Aside0.mk (Kd.R_below (by (with_reducible repeat (first | apply Kd.R_alloc | apply Kd.R_drewN | apply Kd.R_drew)); exact HO_21.out) hb); have n9_ := Aside0.mk (Kd.R_elder' (by (with_reducible repeat (first | apply Kd.R_alloc | apply Kd.R_drewN | apply Kd.R_drew)); exact HO1193.out) (Kd.R_base ho0) hb); have n10_ := Aside0.mk (Kd.R_elder' (by (with_reducible repeat (first | apply Kd.R_alloc | apply Kd.R_drewN | apply Kd.R_drew)); exact HO1197.out) (Kd.R_base ho0) hb); have n11_ := Aside0.mk (Kd.R_elder' (by (with_reducible repeat (first | apply Kd.R_alloc | apply Kd.R_drewN | apply Kd.R_drew)); exact HO1201.out) (Kd.R_base ho0) hb); have n12_ := Aside0.mk (Kd.R_lower (Kd.R_new' (Kd.R_new' (Kd.R_new' (Kd.R_new' (Kd.R_new' (Kd.R_new' (Kd.R_new' (Kd.R_new' (Kd.R_new' (Kd.R_new' (Kd.R_new' ho0 (Kd.R_lt (by (with_reducible repeat (first | apply Kd.R_alloc | apply Kd.R_drewN | apply Kd.R_drew)); exact HO_5.out))) (Kd.R_lt (by (with_reducible repeat (first | apply Kd.R_alloc | apply Kd.R_drewN | apply Kd.R_drew)); exact HO_7.out))) (Kd.R_lt (by (with_reducible repeat (first | apply Kd.R_alloc | apply Kd.R_drewN | apply Kd.R_drew)); exact HO_9.out))) (Kd.R_lt (by (with_reducible repeat (first | apply Kd.R_alloc | apply Kd.R_drewN | apply Kd.R_drew)); exact HO_11.out))) (Kd.R_lt (by (with_reducible repeat (first | apply Kd.R_alloc | apply Kd.R_drewN | apply Kd.R_drew)); exact HO_13.out))) (Kd.R_lt (by (with_reducible repeat (first | apply Kd.R_alloc | apply Kd.R_drewN | apply Kd.R_drew)); exact HO_15.out))) (Kd.R_lt (by (with_reducible repeat (first | apply Kd.R_alloc | apply Kd.R_drewN | apply Kd.R_drew)); exact HO_17.out))) (Kd.R_lt (by (with_reducible repeat (first | apply Kd.R_alloc | apply Kd.R_drewN | apply Kd.R_drew)); exact HO_19.out))) (Kd.R_lt (by (with_reducible repeat (first | apply Kd.R_alloc | apply Kd.R_drewN | apply Kd.R_drew)); exact HO1193.out))) (Kd.R_lt (by (with_reducible repeat (first | apply Kd.R_alloc | apply Kd.R_drewN | apply Kd.R_drew)); exact HO1197.out))) (Kd.R_lt (by (with_reducible repeat (first | apply Kd.R_alloc | apply Kd.R_drewN | apply Kd.R_drew)); exact HO1201.out))) (below_size (by repeat (first | (with_reducible first | exact HB.out | apply below_alloc | apply pw_below_drewN | apply below_drew1) | exact HB.out)))); have n13_ := Aside0.mk (below_step (by repeat (first | (with_reducible first | exact HB.out | apply below_alloc | apply pw_below_drewN | apply below_drew1) | exact HB.out)) hb); clear HO_5; clear HO_7; clear HO_9; clear HO_11; clear HO_13; clear HO_15; clear HO_17; clear HO_19; clear HO_21; clear HO1193; clear HO1197; clear HO1201; clear HB; have HO_5 := n0_; have HO_7 := n1_; have HO_9 := n2_; have HO_11 := n3_; have HO_13 := n4_; have HO_15 := n5_; have HO_17 := n6_; have HO_19 := n7_; have HO_21 := n8_; have HO1193 := n9_; have HO1197 := n10_; have HO1201 := n11_; have HO1205 := n12_; have HB := n13_; clear n0_ n1_ n2_ n3_ n4_ n5_ n6_ n7_ n8_ n9_ n10_ n11_ n12_ n13_; (try clear hb); (try clear hb2); (try clear hk); (try clear hi); (try clear ho0)))
                                      (try simp only [Act.put, List.setIfInBounds_toArray, List.set_cons_zero, List.set_cons_succ])
                                      go_cut [247] (fun v247 wc => ∃ (kq : Nat) (x247_716 : Bool), v247 = .bool x247_716 ∧ Aside0 (thistlelaw02_SetsRing.j5 kq t1130 t1134 t1138 t1142 t1146 t1150 t1190 t1194 t1198 t1202 x247_716 = some r) ∧ Aside0 (kq ≤ k4) ∧ Aside0 (Kd.R k29 29 wc w.heap.size (fun k_ => some k_ ≠ ((.slice Ao621 t1134.length co621) : Value).ownBlock ∧ some k_ ≠ ((.slice Ao722 t1138.length co722) : Value).ownBlock ∧ some k_ ≠ (v1144 : Value).ownBlock ∧ some k_ ≠ (v1147 : Value).ownBlock ∧ some k_ ≠ ((.slice Ao719 t1150.length co719) : Value).ownBlock ∧ some k_ ≠ (v1192 : Value).ownBlock ∧ some k_ ≠ (v1196 : Value).ownBlock ∧ some k_ ≠ (v1200 : Value).ownBlock ∧ some k_ ≠ (v1204 : Value).ownBlock) (.slice Ao620 t1130.length co620) t1130) ∧ Aside0 (Kd.R k29 29 wc w.heap.size (fun k_ => some k_ ≠ ((.slice Ao620 t1130.length co620) : Value).ownBlock ∧ some k_ ≠ ((.slice Ao722 t1138.length co722) : Value).ownBlock ∧ some k_ ≠ (v1144 : Value).ownBlock ∧ some k_ ≠ (v1147 : Value).ownBlock ∧ some k_ ≠ ((.slice Ao719 t1150.length co719) : Value).ownBlock ∧ some k_ ≠ (v1192 : Value).ownBlock ∧ some k_ ≠ (v1196 : Value).ownBlock ∧ some k_ ≠ (v1200 : Value).ownBlock ∧ some k_ ≠ (v1204 : Value).ownBlock) (.slice Ao621 t1134.length co621) t1134) ∧ Aside0 (Kd.R k29 29 wc w.heap.size (fun k_ => some k_ ≠ ((.slice Ao620 t1130.length co620) : Value).ownBlock ∧ some k_ ≠ ((.slice Ao621 t1134.length co621) : Value).ownBlock ∧ some k_ ≠ (v1144 : Value).ownBlock ∧ some k_ ≠ (v1147 : Value).ownBlock ∧ some k_ ≠ ((.slice Ao719 t1150.length co719) : Value).ownBlock ∧ some k_ ≠ (v1192 : Value).ownBlock ∧ some k_ ≠ (v1196 : Value).ownBlock ∧ some k_ ≠ (v1200 : Value).ownBlock ∧ some k_ ≠ (v1204 : Value).ownBlock) (.slice Ao722 t1138.length co722) t1138) ∧ Aside0 (Kd.R k29 29 wc w.heap.size (fun k_ => some k_ ≠ ((.slice Ao620 t1130.length co620) : Value).ownBlock ∧ some k_ ≠ ((.slice Ao621 t1134.length co621) : Value).ownBlock ∧ some k_ ≠ ((.slice Ao722 t1138.length co722) : Value).ownBlock ∧ some k_ ≠ (v1147 : Value).ownBlock ∧ some k_ ≠ ((.slice Ao719 t1150.length co719) : Value).ownBlock ∧ some k_ ≠ (v1192 : Value).ownBlock ∧ some k_ ≠ (v1196 : Value).ownBlock ∧ some k_ ≠ (v1200 : Value).ownBlock ∧ some k_ ≠ (v1204 : Value).ownBlock) v1144 t1142) ∧ Aside0 (Kd.R k29 29 wc w.heap.size (fun k_ => some k_ ≠ ((.slice Ao620 t1130.length co620) : Value).ownBlock ∧ some k_ ≠ ((.slice Ao621 t1134.length co621) : Value).ownBlock ∧ some k_ ≠ ((.slice Ao722 t1138.length co722) : Value).ownBlock ∧ some k_ ≠ (v1144 : Value).ownBlock ∧ some k_ ≠ ((.slice Ao719 t1150.length co719) : Value).ownBlock ∧ some k_ ≠ (v1192 : Value).ownBlock ∧ some k_ ≠ (v1196 : Value).ownBlock ∧ some k_ ≠ (v1200 : Value).ownBlock ∧ some k_ ≠ (v1204 : Value).ownBlock) v1147 t1146) ∧ Aside0 (Kd.R k29 29 wc w.heap.size (fun k_ => some k_ ≠ ((.slice Ao620 t1130.length co620) : Value).ownBlock ∧ some k_ ≠ ((.slice Ao621 t1134.length co621) : Value).ownBlock ∧ some k_ ≠ ((.slice Ao722 t1138.length co722) : Value).ownBlock ∧ some k_ ≠ (v1144 : Value).ownBlock ∧ some k_ ≠ (v1147 : Value).ownBlock ∧ some k_ ≠ (v1192 : Value).ownBlock ∧ some k_ ≠ (v1196 : Value).ownBlock ∧ some k_ ≠ (v1200 : Value).ownBlock ∧ some k_ ≠ (v1204 : Value).ownBlock) (.slice Ao719 t1150.length co719) t1150) ∧ Aside0 (Kd.R k29 29 wc w.heap.size (fun k_ => some k_ ≠ ((.slice Ao620 t1130.length co620) : Value).ownBlock ∧ some k_ ≠ ((.slice Ao621 t1134.length co621) : Value).ownBlock ∧ some k_ ≠ ((.slice Ao722 t1138.length co722) : Value).ownBlock ∧ some k_ ≠ (v1144 : Value).ownBlock ∧ some k_ ≠ (v1147 : Value).ownBlock ∧ some k_ ≠ ((.slice Ao719 t1150.length co719) : Value).ownBlock ∧ some k_ ≠ (v1196 : Value).ownBlock ∧ some k_ ≠ (v1200 : Value).ownBlock ∧ some k_ ≠ (v1204 : Value).ownBlock) v1192 t1190) ∧ Aside0 (Kd.R k29 29 wc w.heap.size (fun k_ => some k_ ≠ ((.slice Ao620 t1130.length co620) : Value).ownBlock ∧ some k_ ≠ ((.slice Ao621 t1134.length co621) : Value).ownBlock ∧ some k_ ≠ ((.slice Ao722 t1138.length co722) : Value).ownBlock ∧ some k_ ≠ (v1144 : Value).ownBlock ∧ some k_ ≠ (v1147 : Value).ownBlock ∧ some k_ ≠ ((.slice Ao719 t1150.length co719) : Value).ownBlock ∧ some k_ ≠ (v1192 : Value).ownBlock ∧ some k_ ≠ (v1200 : Value).ownBlock ∧ some k_ ≠ (v1204 : Value).ownBlock) v1196 t1194) ∧ Aside0 (Kd.R k29 29 wc w.heap.size (fun k_ => some k_ ≠ ((.slice Ao620 t1130.length co620) : Value).ownBlock ∧ some k_ ≠ ((.slice Ao621 t1134.length co621) : Value).ownBlock ∧ some k_ ≠ ((.slice Ao722 t1138.length co722) : Value).ownBlock ∧ some k_ ≠ (v1144 : Value).ownBlock ∧ some k_ ≠ (v1147 : Value).ownBlock ∧ some k_ ≠ ((.slice Ao719 t1150.length co719) : Value).ownBlock ∧ some k_ ≠ (v1192 : Value).ownBlock ∧ some k_ ≠ (v1196 : Value).ownBlock ∧ some k_ ≠ (v1204 : Value).ownBlock) v1200 t1198) ∧ Aside0 (Kd.R k29 29 wc w.heap.size (fun k_ => some k_ ≠ ((.slice Ao620 t1130.length co620) : Value).ownBlock ∧ some k_ ≠ ((.slice Ao621 t1134.length co621) : Value).ownBlock ∧ some k_ ≠ ((.slice Ao722 t1138.length co722) : Value).ownBlock ∧ some k_ ≠ (v1144 : Value).ownBlock ∧ some k_ ≠ (v1147 : Value).ownBlock ∧ some k_ ≠ ((.slice Ao719 t1150.length co719) : Value).ownBlock ∧ some k_ ≠ (v1192 : Value).ownBlock ∧ some k_ ≠ (v1196 : Value).ownBlock ∧ some k_ ≠ (v1200 : Value).ownBlock) v1204 t1202) ∧ Aside0 (Below w.heap.size w wc))
                                      case first =>
                                        as_aux_lemma =>
                                          have H := HC717.out
                                          clear HC717
                                          by_cases c726 : t1191 = 0
                                          · rw [if_pos c726] at H
                                            have c726b0 : (t1191 == 0) = true := beq_iff_eq.mpr c726
                                            have c726b1 : (t1191 != 0) = false := bne_eq_false_iff_eq.mpr c726
                                            clear c726
                                            (first | rw [c726b0] | (simp only [i64_w, i32_w]; rw [c726b0]) | skip)
                                            by_cases c727 : t1195 = 0
                                            · rw [if_pos c727] at H
                                              have c727b0 : (t1195 == 0) = true := beq_iff_eq.mpr c727
                                              have c727b1 : (t1195 != 0) = false := bne_eq_false_iff_eq.mpr c727
                                              clear c727
                                              by_cases c728 : t1199 = 0
                                              · rw [if_pos c728] at H
                                                have c728b0 : (t1199 == 0) = true := beq_iff_eq.mpr c728
                                                have c728b1 : (t1199 != 0) = false := bne_eq_false_iff_eq.mpr c728
                                                clear c728
                                                as_aux_lemma =>
                                                  have H' := Aside0.mk H
                                                  clear H
                                                  go_wp2
                                                  go_meet
                                                  case rel => exact ⟨_, ((t1203 != 0)), (by first | rfl | (simp; done) | (simp [*]; done)), H', ⟨by have := HJ606.out; have := HJ618.out; have := HJ633.out; have := HK4.out; first | omega | exact Nat.le_refl _⟩, ⟨by (with_reducible repeat (first | apply Kd.R_alloc | apply Kd.R_drewN | apply Kd.R_drew)); exact Kd.R_mono HO_5.out (fun _ hk => ⟨hk.1.1.1.1.1, ⟨hk.1.1.1.1.2.1, ⟨hk.1.1.1.1.2.2.1, ⟨hk.1.1.1.1.2.2.2.1, ⟨hk.1.1.1.1.2.2.2.2.1, ⟨hk.1.1.1.2, ⟨hk.1.1.2, ⟨hk.1.2, hk.2⟩⟩⟩⟩⟩⟩⟩⟩)⟩, ⟨by (with_reducible repeat (first | apply Kd.R_alloc | apply Kd.R_drewN | apply Kd.R_drew)); exact Kd.R_mono HO_7.out (fun _ hk => ⟨hk.1.1.1.1.1, ⟨hk.1.1.1.1.2.1, ⟨hk.1.1.1.1.2.2.1, ⟨hk.1.1.1.1.2.2.2.1, ⟨hk.1.1.1.1.2.2.2.2.1, ⟨hk.1.1.1.2, ⟨hk.1.1.2, ⟨hk.1.2, hk.2⟩⟩⟩⟩⟩⟩⟩⟩)⟩, ⟨by (with_reducible repeat (first | apply Kd.R_alloc | apply Kd.R_drewN | apply Kd.R_drew)); exact Kd.R_mono HO_9.out (fun _ hk => ⟨hk.1.1.1.1.1, ⟨hk.1.1.1.1.2.1, ⟨hk.1.1.1.1.2.2.1, ⟨hk.1.1.1.1.2.2.2.1, ⟨hk.1.1.1.1.2.2.2.2.1, ⟨hk.1.1.1.2, ⟨hk.1.1.2, ⟨hk.1.2, hk.2⟩⟩⟩⟩⟩⟩⟩⟩)⟩, ⟨by (with_reducible repeat (first | apply Kd.R_alloc | apply Kd.R_drewN | apply Kd.R_drew)); exact Kd.R_mono HO_11.out (fun _ hk => ⟨hk.1.1.1.1.1, ⟨hk.1.1.1.1.2.1, ⟨hk.1.1.1.1.2.2.1, ⟨hk.1.1.1.1.2.2.2.1, ⟨hk.1.1.1.1.2.2.2.2.1, ⟨hk.1.1.1.2, ⟨hk.1.1.2, ⟨hk.1.2, hk.2⟩⟩⟩⟩⟩⟩⟩⟩)⟩, ⟨by (with_reducible repeat (first | apply Kd.R_alloc | apply Kd.R_drewN | apply Kd.R_drew)); exact Kd.R_mono HO_13.out (fun _ hk => ⟨hk.1.1.1.1.1, ⟨hk.1.1.1.1.2.1, ⟨hk.1.1.1.1.2.2.1, ⟨hk.1.1.1.1.2.2.2.1, ⟨hk.1.1.1.1.2.2.2.2.1, ⟨hk.1.1.1.2, ⟨hk.1.1.2, ⟨hk.1.2, hk.2⟩⟩⟩⟩⟩⟩⟩⟩)⟩, ⟨by (with_reducible repeat (first | apply Kd.R_alloc | apply Kd.R_drewN | apply Kd.R_drew)); exact Kd.R_mono HO_15.out (fun _ hk => ⟨hk.1.1.1.1.1, ⟨hk.1.1.1.1.2.1, ⟨hk.1.1.1.1.2.2.1, ⟨hk.1.1.1.1.2.2.2.1, ⟨hk.1.1.1.1.2.2.2.2.1, ⟨hk.1.1.1.2, ⟨hk.1.1.2, ⟨hk.1.2, hk.2⟩⟩⟩⟩⟩⟩⟩⟩)⟩, ⟨by (with_reducible repeat (first | apply Kd.R_alloc | apply Kd.R_drewN | apply Kd.R_drew)); exact Kd.R_mono HO1193.out (fun _ hk => ⟨hk.1.1.1.1.1.1.1.1.1.1.2, ⟨hk.1.1.1.1.1.1.1.1.1.2, ⟨hk.1.1.1.1.1.1.1.1.2, ⟨hk.1.1.1.1.1.1.1.2, ⟨hk.1.1.1.1.1.1.2, ⟨hk.1.1.1.1.1.2, ⟨hk.1.1.2, ⟨hk.1.2, hk.2⟩⟩⟩⟩⟩⟩⟩⟩)⟩, ⟨by (with_reducible repeat (first | apply Kd.R_alloc | apply Kd.R_drewN | apply Kd.R_drew)); exact Kd.R_mono HO1197.out (fun _ hk => ⟨hk.1.1.1.1.1.1.1.1.1.1.2, ⟨hk.1.1.1.1.1.1.1.1.1.2, ⟨hk.1.1.1.1.1.1.1.1.2, ⟨hk.1.1.1.1.1.1.1.2, ⟨hk.1.1.1.1.1.1.2, ⟨hk.1.1.1.1.1.2, ⟨hk.1.1.2, ⟨hk.1.2, hk.2⟩⟩⟩⟩⟩⟩⟩⟩)⟩, ⟨by (with_reducible repeat (first | apply Kd.R_alloc | apply Kd.R_drewN | apply Kd.R_drew)); exact Kd.R_mono HO1201.out (fun _ hk => ⟨hk.1.1.1.1.1.1.1.1.1.1.2, ⟨hk.1.1.1.1.1.1.1.1.1.2, ⟨hk.1.1.1.1.1.1.1.1.2, ⟨hk.1.1.1.1.1.1.1.2, ⟨hk.1.1.1.1.1.1.2, ⟨hk.1.1.1.1.1.2, ⟨hk.1.1.2, ⟨hk.1.2, hk.2⟩⟩⟩⟩⟩⟩⟩⟩)⟩, ⟨by (with_reducible repeat (first | apply Kd.R_alloc | apply Kd.R_drewN | apply Kd.R_drew)); exact Kd.R_mono HO1205.out (fun _ hk => ⟨hk.1.1.1.1.1.1.1.1.1.1.2, ⟨hk.1.1.1.1.1.1.1.1.1.2, ⟨hk.1.1.1.1.1.1.1.1.2, ⟨hk.1.1.1.1.1.1.1.2, ⟨hk.1.1.1.1.1.1.2, ⟨hk.1.1.1.1.1.2, ⟨hk.1.1.2, ⟨hk.1.2, hk.2⟩⟩⟩⟩⟩⟩⟩⟩)⟩, ⟨by repeat (first | (with_reducible first | exact HB.out | apply below_alloc | apply pw_below_drewN | apply below_drew1) | exact HB.out)⟩⟩
                                              · rw [if_neg c728] at H
                                                have c728b0 : (t1199 == 0) = false := beq_eq_false_iff_ne.mpr c728
                                                have c728b1 : (t1199 != 0) = true := bne_iff_ne.mpr c728
                                                as_aux_lemma =>
                                                  exact absurd (H.trans (congrArg some hrt.out)) (by (first | (cases k4 <;> simp [thistlelaw02_SetsRing.j5]) | (unfold thistlelaw02_SetsRing.j5; split <;> simp)))
                                            · rw [if_neg c727] at H
                                              have c727b0 : (t1195 == 0) = false := beq_eq_false_iff_ne.mpr c727
                                              have c727b1 : (t1195 != 0) = true := bne_iff_ne.mpr c727
                                              as_aux_lemma =>
                                                exact absurd (H.trans (congrArg some hrt.out)) (by (first | (cases k4 <;> simp [thistlelaw02_SetsRing.j5]) | (unfold thistlelaw02_SetsRing.j5; split <;> simp)))
                                          · rw [if_neg c726] at H
                                            have c726b0 : (t1191 == 0) = false := beq_eq_false_iff_ne.mpr c726
                                            have c726b1 : (t1191 != 0) = true := bne_iff_ne.mpr c726
                                            (first | rw [c726b0] | (simp only [i64_w, i32_w]; rw [c726b0]) | skip)
                                            as_aux_lemma =>
                                              exact absurd (H.trans (congrArg some hrt.out)) (by (first | (cases k4 <;> simp [thistlelaw02_SetsRing.j5]) | (unfold thistlelaw02_SetsRing.j5; split <;> simp)))
                                      case rest =>
                                        as_aux_lemma =>
                                          clear HC717
                                          (try clear c1); (try clear p1); (try clear q1); (try clear hx1); (try clear c2); (try clear p2); (try clear c5); (try clear c6); (try clear p6); (try clear c7); (try clear c8); (try clear c9); (try clear c11); (try clear p11); (try clear q11); (try clear hx11); (try clear c12); (try clear c15); (try clear c16); (try clear c22); (try clear c23); (try clear c24); (try clear c25); (try clear c26); (try clear c27); (try clear c60); (try clear c61); (try clear c62); (try clear c63); (try clear c64); (try clear p64); (try clear c65); (try clear c66); (try clear c67); (try clear c68); (try clear c69); (try clear c70); (try clear c71); (try clear c72); (try clear p117); (try clear q117); (try clear hx117); (try clear c604); (try clear c611); (try clear c611b0); (try clear c611b1); (try clear c612); (try clear c628); (try clear c628b0); (try clear c628b1); (try clear c629); (try clear c629b0); (try clear c629b1); (try clear c630); (try clear c630b0); (try clear c630b1); (try clear c631); (try clear c631b0); (try clear c631b1); (try clear c632); (try clear c632b0); (try clear c632b1); (try clear c633); (try clear c636); (try clear c638); (try clear c640); (try clear c642); (try clear c649); (try clear c652); (try clear c657); (try clear c657b0); (try clear c658); (try clear c658b0); (try clear c666); (try clear c667); (try clear c667b0); (try clear c667b1); (try clear c667b2); (try clear c669); (try clear c669b0); (try clear c669b1); (try clear c669b2); (try clear c674); (try clear c674b0); (try clear c674b1); (try clear c674b2); (try clear c676); (try clear c676b0); (try clear c676b1); (try clear c676b2); (try clear c681); (try clear c684); (try clear c685); (try clear c685b0); (try clear c685b1); (try clear c685b2); (try clear c688); (try clear c689); (try clear c689b0); (try clear c690); (try clear c690b0); (try clear c690b1); (try clear c690b2); (try clear c693); (try clear c693b0); (try clear c693b1); (try clear c693b2); (try clear c696); (try clear c696b0); (try clear c696b1); (try clear c696b2); (try clear c699); (try clear c699b0); (try clear c699b1); (try clear c699b2); (try clear c702); (try clear c703); (try clear c703b0); (try clear c704); (try clear c704b0); (try clear c704b1); (try clear c704b2); (try clear c707); (try clear c707b0); (try clear c707b1); (try clear c707b2); (try clear c710); (try clear c710b0); (try clear c710b1); (try clear c710b2); (try clear c726); (try clear c726b0); (try clear c726b1); (try clear c727); (try clear c727b0); (try clear c727b1); (try clear c728); (try clear c728b0); (try clear c728b1); (try clear hx1176_0); (try clear p1); (try clear p11); (try clear p117); (try clear p1176); (try clear p2); (try clear q1); (try clear q11); (try clear q117); (try clear q1176)
                                          obtain ⟨kq, x247_716, rfl, HA, HJ716, HO_5, HO_7, HO_9, HO_11, HO_13, HO_15, HO_26, HO_27, HO_28, HO_29, HB⟩ := hcut
                                          cases kq with
                                          | zero => exact absurd HA.out (by simp [thistlelaw02_SetsRing.j5])
                                          | succ kj716 =>
                                            have H := HA.out
                                            clear HA
                                            simp only [thistlelaw02_SetsRing.j5] at H
                                            by_cases c729 : x247_716 = true
                                            · subst c729
                                              have H1 : (some false) = some r := by rw [if_pos rfl] at H; exact H
                                              clear H
                                              have H := H1
                                              clear H1
                                              as_aux_lemma =>
                                                exact absurd (H.trans (congrArg some hrt.out)) (by simp)
                                            · replace c729 := Bool.eq_false_iff.mpr c729
                                              subst c729
                                              have H1 : ((thistleref02_SameRanges.f kj716 t1190 t1194).bind fun t1206 => (if t1206 = true then ((thistleref02_SameRanges.f kj716 t1198 t1146).bind fun t1207 => (if t1207 = true then ((thistleref02_SameRanges.f kj716 t1202 t1130).bind fun t1208 => (thistlelaw02_SetsRing.j6 kj716 t1130 t1134 t1138 t1142 t1150 (!t1208))) else (thistlelaw02_SetsRing.j6 kj716 t1130 t1134 t1138 t1142 t1150 true))) else (thistlelaw02_SetsRing.j6 kj716 t1130 t1134 t1138 t1142 t1150 true))) = some r := by rw [if_neg (show ¬ (false = true) by decide)] at H; exact H
                                              clear H
                                              have H := H1
                                              clear H1
                                              have HC730 := Aside0.mk H
                                              clear H
                                              go_upto_region 35 with (fail)
                                              go_cut [263] (fun v263 wc => ∃ (kq : Nat) (x263_729 : Bool), v263 = .bool x263_729 ∧ Aside0 (thistlelaw02_SetsRing.j6 kq t1130 t1134 t1138 t1142 t1150 x263_729 = some r) ∧ Aside0 (kq ≤ kj716) ∧ Aside0 (Kd.R k29 29 wc w.heap.size (fun k_ => some k_ ≠ ((.slice Ao621 t1134.length co621) : Value).ownBlock ∧ some k_ ≠ ((.slice Ao722 t1138.length co722) : Value).ownBlock ∧ some k_ ≠ (v1144 : Value).ownBlock ∧ some k_ ≠ ((.slice Ao719 t1150.length co719) : Value).ownBlock) (.slice Ao620 t1130.length co620) t1130) ∧ Aside0 (Kd.R k29 29 wc w.heap.size (fun k_ => some k_ ≠ ((.slice Ao620 t1130.length co620) : Value).ownBlock ∧ some k_ ≠ ((.slice Ao722 t1138.length co722) : Value).ownBlock ∧ some k_ ≠ (v1144 : Value).ownBlock ∧ some k_ ≠ ((.slice Ao719 t1150.length co719) : Value).ownBlock) (.slice Ao621 t1134.length co621) t1134) ∧ Aside0 (Kd.R k29 29 wc w.heap.size (fun k_ => some k_ ≠ ((.slice Ao620 t1130.length co620) : Value).ownBlock ∧ some k_ ≠ ((.slice Ao621 t1134.length co621) : Value).ownBlock ∧ some k_ ≠ (v1144 : Value).ownBlock ∧ some k_ ≠ ((.slice Ao719 t1150.length co719) : Value).ownBlock) (.slice Ao722 t1138.length co722) t1138) ∧ Aside0 (Kd.R k29 29 wc w.heap.size (fun k_ => some k_ ≠ ((.slice Ao620 t1130.length co620) : Value).ownBlock ∧ some k_ ≠ ((.slice Ao621 t1134.length co621) : Value).ownBlock ∧ some k_ ≠ ((.slice Ao722 t1138.length co722) : Value).ownBlock ∧ some k_ ≠ ((.slice Ao719 t1150.length co719) : Value).ownBlock) v1144 t1142) ∧ Aside0 (Kd.R k29 29 wc w.heap.size (fun k_ => some k_ ≠ ((.slice Ao620 t1130.length co620) : Value).ownBlock ∧ some k_ ≠ ((.slice Ao621 t1134.length co621) : Value).ownBlock ∧ some k_ ≠ ((.slice Ao722 t1138.length co722) : Value).ownBlock ∧ some k_ ≠ (v1144 : Value).ownBlock) (.slice Ao719 t1150.length co719) t1150) ∧ Aside0 (Below w.heap.size w wc))
                                              case first =>
                                                as_aux_lemma =>
                                                  have H := HC730.out
                                                  clear HC730
                                                  replace H := Option.bind_eq_some_iff.mp H
                                                  obtain ⟨t1206, A7310, H⟩ := H
                                                  replace H : (if t1206 = true then ((thistleref02_SameRanges.f kj716 t1198 t1146).bind fun t1207 => (if t1207 = true then ((thistleref02_SameRanges.f kj716 t1202 t1130).bind fun t1208 => (thistlelaw02_SetsRing.j6 kj716 t1130 t1134 t1138 t1142 t1150 (!t1208))) else (thistlelaw02_SetsRing.j6 kj716 t1130 t1134 t1138 t1142 t1150 true))) else (thistlelaw02_SetsRing.j6 kj716 t1130 t1134 t1138 t1142 t1150 true)) = some r := H
                                                  have A731 := Aside0.mk A7310
                                                  clear A7310
                                                  by_cases c732 : t1206 = true
                                                  · subst c732
                                                    have H1 : ((thistleref02_SameRanges.f kj716 t1198 t1146).bind fun t1207 => (if t1207 = true then ((thistleref02_SameRanges.f kj716 t1202 t1130).bind fun t1208 => (thistlelaw02_SetsRing.j6 kj716 t1130 t1134 t1138 t1142 t1150 (!t1208))) else (thistlelaw02_SetsRing.j6 kj716 t1130 t1134 t1138 t1142 t1150 true))) = some r := by rw [if_pos rfl] at H; exact H
                                                    clear H
                                                    have H := H1
                                                    clear H1
                                                    replace H := Option.bind_eq_some_iff.mp H
                                                    obtain ⟨t1207, A7330, H⟩ := H
                                                    replace H : (if t1207 = true then ((thistleref02_SameRanges.f kj716 t1202 t1130).bind fun t1208 => (thistlelaw02_SetsRing.j6 kj716 t1130 t1134 t1138 t1142 t1150 (!t1208))) else (thistlelaw02_SetsRing.j6 kj716 t1130 t1134 t1138 t1142 t1150 true)) = some r := H
                                                    have A733 := Aside0.mk A7330
                                                    clear A7330
                                                    by_cases c734 : t1207 = true
                                                    · subst c734
                                                      have H1 : ((thistleref02_SameRanges.f kj716 t1202 t1130).bind fun t1208 => (thistlelaw02_SetsRing.j6 kj716 t1130 t1134 t1138 t1142 t1150 (!t1208))) = some r := by rw [if_pos rfl] at H; exact H
                                                      clear H
                                                      have H := H1
                                                      clear H1
                                                      replace H := Option.bind_eq_some_iff.mp H
                                                      obtain ⟨t1208, A7350, H⟩ := H
                                                      replace H : (thistlelaw02_SetsRing.j6 kj716 t1130 t1134 t1138 t1142 t1150 (!t1208)) = some r := H
                                                      have A735 := Aside0.mk A7350
                                                      clear A7350
                                                      as_aux_lemma =>
                                                        have H' := Aside0.mk H
                                                        clear H
                                                        obtain ⟨Ao736, co736, eo736⟩ := Kd.R_slice HO_26.out
                                                        subst eo736
                                                        obtain ⟨Ao737, co737, eo737⟩ := Kd.R_slice HO_27.out
                                                        subst eo737
                                                        have tok38_ : True := trivial
                                                        have tok39_ : True := trivial
                                                        have tok40_ : True := trivial
                                                        go_wp2_with (first | ((with_reducible refine gate_callee (f := 17) rfl ?_); clear tok38_; refine goesL_ (some 250) rfl rfl Tryd.func17 (by kernel_rfl) rfl #[.slice Ao736 t1190.length co736, .slice Ao737 t1194.length co737] rfl (by (try simp only [List.map_toArray, List.map_cons, List.map_nil]); first | done | rfl | (simp only [List.length_drop, List.length_take]; rfl)) ?_; (with_reducible refine (thistleref02_SameRanges.calls kj716 _ _ t1190 _ _ t1194 true _ ?side1 ?side2 ?side3 ?side4 A731.out).mono ?_); (case side1 => repeat (first | exact (Kd.R_reads' HO_26.out).2.2 | (with_reducible refine Kd.C_alloc ?_ _) | (with_reducible refine Kd.C_drewN ?_ _) | (with_reducible refine Kd.C_drew ?_))); (case side2 => exact (Kd.R_reads' HO_26.out).2.1); (case side3 => repeat (first | exact (Kd.R_reads' HO_27.out).2.2 | (with_reducible refine Kd.C_alloc ?_ _) | (with_reducible refine Kd.C_drewN ?_ _) | (with_reducible refine Kd.C_drew ?_))); (case side4 => exact (Kd.R_reads' HO_27.out).2.1); rintro e w' ⟨rfl, ⟨nd, rfl⟩⟩; refine ⟨_, rfl, ?_⟩; obtain ⟨Ao738, co738, eo738⟩ := Kd.R_slice HO_28.out; subst eo738; obtain ⟨Ao739, co739, eo739⟩ := Kd.R_slice HO_13.out; subst eo739) | (go_at_call 17; clear tok39_; (with_reducible refine (thistleref02_SameRanges.calls kj716 _ _ t1198 _ _ t1146 true _ ?side1 ?side2 ?side3 ?side4 A733.out).mono ?_); (case side1 => repeat (first | exact (Kd.R_reads' HO_28.out).2.2 | (with_reducible refine Kd.C_alloc ?_ _) | (with_reducible refine Kd.C_drewN ?_ _) | (with_reducible refine Kd.C_drew ?_))); (case side2 => exact (Kd.R_reads' HO_28.out).2.1); (case side3 => repeat (first | exact (Kd.R_reads' HO_13.out).2.2 | (with_reducible refine Kd.C_alloc ?_ _) | (with_reducible refine Kd.C_drewN ?_ _) | (with_reducible refine Kd.C_drew ?_))); (case side4 => exact (Kd.R_reads' HO_13.out).2.1); rintro e w' ⟨rfl, ⟨nd, rfl⟩⟩; obtain ⟨Ao740, co740, eo740⟩ := Kd.R_slice HO_29.out; subst eo740) | (go_at_call 17; clear tok40_; (with_reducible refine (thistleref02_SameRanges.calls kj716 _ _ t1202 _ _ t1130 t1208 _ ?side1 ?side2 ?side3 ?side4 A735.out).mono ?_); (case side1 => repeat (first | exact (Kd.R_reads' HO_29.out).2.2 | (with_reducible refine Kd.C_alloc ?_ _) | (with_reducible refine Kd.C_drewN ?_ _) | (with_reducible refine Kd.C_drew ?_))); (case side2 => exact (Kd.R_reads' HO_29.out).2.1); (case side3 => repeat (first | exact (Kd.R_reads' HO_5.out).2.2 | (with_reducible refine Kd.C_alloc ?_ _) | (with_reducible refine Kd.C_drewN ?_ _) | (with_reducible refine Kd.C_drew ?_))); (case side4 => exact (Kd.R_reads' HO_5.out).2.1); rintro e w' ⟨rfl, ⟨nd, rfl⟩⟩))
                                                        go_meet
                                                        case rel => exact ⟨_, (!t1208), (by first | rfl | (simp; done) | (simp [*]; done)), H', ⟨by have := HJ606.out; have := HJ618.out; have := HJ633.out; have := HK4.out; have := HJ716.out; first | omega | exact Nat.le_refl _⟩, ⟨by (with_reducible repeat (first | apply Kd.R_alloc | apply Kd.R_drewN | apply Kd.R_drew)); exact Kd.R_mono HO_5.out (fun _ hk => ⟨hk.1, ⟨hk.2.1, ⟨hk.2.2.1, hk.2.2.2.2.1⟩⟩⟩)⟩, ⟨by (with_reducible repeat (first | apply Kd.R_alloc | apply Kd.R_drewN | apply Kd.R_drew)); exact Kd.R_mono HO_7.out (fun _ hk => ⟨hk.1, ⟨hk.2.1, ⟨hk.2.2.1, hk.2.2.2.2.1⟩⟩⟩)⟩, ⟨by (with_reducible repeat (first | apply Kd.R_alloc | apply Kd.R_drewN | apply Kd.R_drew)); exact Kd.R_mono HO_9.out (fun _ hk => ⟨hk.1, ⟨hk.2.1, ⟨hk.2.2.1, hk.2.2.2.2.1⟩⟩⟩)⟩, ⟨by (with_reducible repeat (first | apply Kd.R_alloc | apply Kd.R_drewN | apply Kd.R_drew)); exact Kd.R_mono HO_11.out (fun _ hk => ⟨hk.1, ⟨hk.2.1, ⟨hk.2.2.1, hk.2.2.2.2.1⟩⟩⟩)⟩, ⟨by (with_reducible repeat (first | apply Kd.R_alloc | apply Kd.R_drewN | apply Kd.R_drew)); exact Kd.R_mono HO_15.out (fun _ hk => ⟨hk.1, ⟨hk.2.1, ⟨hk.2.2.1, hk.2.2.2.1⟩⟩⟩)⟩, ⟨by repeat (first | (with_reducible first | exact HB.out | apply below_alloc | apply pw_below_drewN | apply below_drew1) | exact HB.out)⟩⟩
                                                    · replace c734 := Bool.eq_false_iff.mpr c734
                                                      subst c734
                                                      have H1 : (thistlelaw02_SetsRing.j6 kj716 t1130 t1134 t1138 t1142 t1150 true) = some r := by rw [if_neg (show ¬ (false = true) by decide)] at H; exact H
                                                      clear H
                                                      have H := H1
                                                      clear H1
                                                      as_aux_lemma =>
                                                        exact absurd (H.trans (congrArg some hrt.out)) (by (first | (cases kj716 <;> simp [thistlelaw02_SetsRing.j6]) | (unfold thistlelaw02_SetsRing.j6; split <;> simp)))
                                                  · replace c732 := Bool.eq_false_iff.mpr c732
                                                    subst c732
                                                    have H1 : (thistlelaw02_SetsRing.j6 kj716 t1130 t1134 t1138 t1142 t1150 true) = some r := by rw [if_neg (show ¬ (false = true) by decide)] at H; exact H
                                                    clear H
                                                    have H := H1
                                                    clear H1
                                                    as_aux_lemma =>
                                                      exact absurd (H.trans (congrArg some hrt.out)) (by (first | (cases kj716 <;> simp [thistlelaw02_SetsRing.j6]) | (unfold thistlelaw02_SetsRing.j6; split <;> simp)))
                                              case rest =>
                                                as_aux_lemma =>
                                                  clear HC730
                                                  (try clear c1); (try clear p1); (try clear q1); (try clear hx1); (try clear c2); (try clear p2); (try clear c5); (try clear c6); (try clear p6); (try clear c7); (try clear c8); (try clear c9); (try clear c11); (try clear p11); (try clear q11); (try clear hx11); (try clear c12); (try clear c15); (try clear c16); (try clear c17); (try clear c22); (try clear c23); (try clear c24); (try clear c25); (try clear c26); (try clear c27); (try clear c60); (try clear c61); (try clear c62); (try clear c63); (try clear c64); (try clear p64); (try clear c65); (try clear c66); (try clear c67); (try clear c68); (try clear c69); (try clear c70); (try clear c71); (try clear c72); (try clear c73); (try clear p117); (try clear q117); (try clear hx117); (try clear c604); (try clear c611); (try clear c611b0); (try clear c611b1); (try clear c612); (try clear c628); (try clear c628b0); (try clear c628b1); (try clear c629); (try clear c629b0); (try clear c629b1); (try clear c630); (try clear c630b0); (try clear c630b1); (try clear c631); (try clear c631b0); (try clear c631b1); (try clear c632); (try clear c632b0); (try clear c632b1); (try clear c633); (try clear c636); (try clear c638); (try clear c640); (try clear c642); (try clear c649); (try clear c652); (try clear c657); (try clear c657b0); (try clear c658); (try clear c658b0); (try clear c666); (try clear c667); (try clear c667b0); (try clear c667b1); (try clear c667b2); (try clear c669); (try clear c669b0); (try clear c669b1); (try clear c669b2); (try clear c674); (try clear c674b0); (try clear c674b1); (try clear c674b2); (try clear c676); (try clear c676b0); (try clear c676b1); (try clear c676b2); (try clear c681); (try clear c684); (try clear c685); (try clear c685b0); (try clear c685b1); (try clear c685b2); (try clear c688); (try clear c689); (try clear c689b0); (try clear c690); (try clear c690b0); (try clear c690b1); (try clear c690b2); (try clear c693); (try clear c693b0); (try clear c693b1); (try clear c693b2); (try clear c696); (try clear c696b0); (try clear c696b1); (try clear c696b2); (try clear c699); (try clear c699b0); (try clear c699b1); (try clear c699b2); (try clear c702); (try clear c703); (try clear c703b0); (try clear c704); (try clear c704b0); (try clear c704b1); (try clear c704b2); (try clear c707); (try clear c707b0); (try clear c707b1); (try clear c707b2); (try clear c710); (try clear c710b0); (try clear c710b1); (try clear c710b2); (try clear c726); (try clear c726b0); (try clear c726b1); (try clear c727); (try clear c727b0); (try clear c727b1); (try clear c728); (try clear c728b0); (try clear c728b1); (try clear c729); (try clear c732); (try clear c734); (try clear hx1176_0); (try clear p1); (try clear p11); (try clear p117); (try clear p1176); (try clear p2); (try clear p6); (try clear p64); (try clear q1); (try clear q11); (try clear q117); (try clear q1176)
                                                  obtain ⟨kq, x263_729, rfl, HA, HJ729, HO_5, HO_7, HO_9, HO_11, HO_15, HB⟩ := hcut
                                                  cases kq with
                                                  | zero => exact absurd HA.out (by simp [thistlelaw02_SetsRing.j6])
                                                  | succ kj729 =>
                                                    have H := HA.out
                                                    clear HA
                                                    simp only [thistlelaw02_SetsRing.j6] at H
                                                    by_cases c741 : x263_729 = true
                                                    · subst c741
                                                      have H1 : (some false) = some r := by rw [if_pos rfl] at H; exact H
                                                      clear H
                                                      have H := H1
                                                      clear H1
                                                      as_aux_lemma =>
                                                        exact absurd (H.trans (congrArg some hrt.out)) (by simp)
                                                    · replace c741 := Bool.eq_false_iff.mpr c741
                                                      subst c741
                                                      have H1 : ((sets_Size.f kj729 t1130).bind fun bt1209 => ((sets_Size.f kj729 t1134).bind fun bt1211 => ((sets_Size.f kj729 t1138).bind fun bt1213 => ((sets_Size.f kj729 t1142).bind fun bt1215 => ((sets_Size.f kj729 t1150).bind fun bt1217 => (if bt1217.2 = 0 then (if (wrap64 (bt1209.1 + bt1211.1)) = (wrap64 (bt1213.1 + bt1215.1)) then (some ((wrap64 (bt1209.1 + bt1217.1)) == 1112192)) else (some false)) else (some false))))))) = some r := by rw [if_neg (show ¬ (false = true) by decide)] at H; exact H
                                                      clear H
                                                      have H := H1
                                                      clear H1
                                                      replace H := Option.bind_eq_some_iff.mp H
                                                      obtain ⟨⟨t1209, t1210⟩, A7420, H⟩ := H
                                                      replace H : ((sets_Size.f kj729 t1134).bind fun bt1211 => ((sets_Size.f kj729 t1138).bind fun bt1213 => ((sets_Size.f kj729 t1142).bind fun bt1215 => ((sets_Size.f kj729 t1150).bind fun bt1217 => (if bt1217.2 = 0 then (if (wrap64 (t1209 + bt1211.1)) = (wrap64 (bt1213.1 + bt1215.1)) then (some ((wrap64 (t1209 + bt1217.1)) == 1112192)) else (some false)) else (some false)))))) = some r := H
                                                      have A742 := Aside0.mk A7420
                                                      clear A7420
                                                      replace H := Option.bind_eq_some_iff.mp H
                                                      obtain ⟨⟨t1211, t1212⟩, A7430, H⟩ := H
                                                      replace H : ((sets_Size.f kj729 t1138).bind fun bt1213 => ((sets_Size.f kj729 t1142).bind fun bt1215 => ((sets_Size.f kj729 t1150).bind fun bt1217 => (if bt1217.2 = 0 then (if (wrap64 (t1209 + t1211)) = (wrap64 (bt1213.1 + bt1215.1)) then (some ((wrap64 (t1209 + bt1217.1)) == 1112192)) else (some false)) else (some false))))) = some r := H
                                                      have A743 := Aside0.mk A7430
                                                      clear A7430
                                                      replace H := Option.bind_eq_some_iff.mp H
                                                      obtain ⟨⟨t1213, t1214⟩, A7440, H⟩ := H
                                                      replace H : ((sets_Size.f kj729 t1142).bind fun bt1215 => ((sets_Size.f kj729 t1150).bind fun bt1217 => (if bt1217.2 = 0 then (if (wrap64 (t1209 + t1211)) = (wrap64 (t1213 + bt1215.1)) then (some ((wrap64 (t1209 + bt1217.1)) == 1112192)) else (some false)) else (some false)))) = some r := H
                                                      have A744 := Aside0.mk A7440
                                                      clear A7440
                                                      replace H := Option.bind_eq_some_iff.mp H
                                                      obtain ⟨⟨t1215, t1216⟩, A7450, H⟩ := H
                                                      replace H : ((sets_Size.f kj729 t1150).bind fun bt1217 => (if bt1217.2 = 0 then (if (wrap64 (t1209 + t1211)) = (wrap64 (t1213 + t1215)) then (some ((wrap64 (t1209 + bt1217.1)) == 1112192)) else (some false)) else (some false))) = some r := H
                                                      have A745 := Aside0.mk A7450
                                                      clear A7450
                                                      replace H := Option.bind_eq_some_iff.mp H
                                                      obtain ⟨⟨t1217, t1218⟩, A7460, H⟩ := H
                                                      replace H : (if t1218 = 0 then (if (wrap64 (t1209 + t1211)) = (wrap64 (t1213 + t1215)) then (some ((wrap64 (t1209 + t1217)) == 1112192)) else (some false)) else (some false)) = some r := H
                                                      have A746 := Aside0.mk A7460
                                                      clear A7460
                                                      by_cases c747 : t1218 = 0
                                                      · rw [if_pos c747] at H
                                                        have c747b0 : (t1218 == 0) = true := beq_iff_eq.mpr c747
                                                        have c747b1 : (t1218 != 0) = false := bne_eq_false_iff_eq.mpr c747
                                                        clear c747
                                                        by_cases c748 : (wrap64 (t1209 + t1211)) = (wrap64 (t1213 + t1215))
                                                        · rw [if_pos c748] at H
                                                          have c748b0 : ((wrap64 (t1209 + t1211)) == (wrap64 (t1213 + t1215))) = true := beq_iff_eq.mpr c748
                                                          have c748b1 : ((wrap64 (t1209 + t1211)) != (wrap64 (t1213 + t1215))) = false := bne_eq_false_iff_eq.mpr c748
                                                          clear c748
                                                          as_aux_lemma =>
                                                            obtain rfl := Option.some.inj H
                                                            have tok41_ : True := trivial
                                                            have tok42_ : True := trivial
                                                            have tok43_ : True := trivial
                                                            have tok44_ : True := trivial
                                                            have tok45_ : True := trivial
                                                            go_wp2_with (first | ((with_reducible refine gate_callee (f := 18) rfl ?_); clear tok41_; refine goesL_ (some 266) rfl rfl Tryd.func18 (by kernel_rfl) rfl #[.slice Ao620 t1130.length co620] rfl (by (try simp only [List.map_toArray, List.map_cons, List.map_nil]); first | done | rfl | (simp only [List.length_drop, List.length_take]; rfl)) ?_; (with_reducible refine (sets_Size.calls kj729 _ _ t1130 t1209 t1210 _ ?side1 ?side2 ?side3 A742.out).mono ?_); (case side1 => repeat (first | exact (Kd.R_reads' HO_5.out).2.2 | (with_reducible refine Kd.C_alloc ?_ _) | (with_reducible refine Kd.C_drewN ?_ _) | (with_reducible refine Kd.C_drew ?_))); (case side2 => exact (Kd.R_reads' HO_5.out).2.1); (case side3 => first | exact hG | exact Glob.of_below hG (by repeat (first | (with_reducible first | exact HB.out | apply below_alloc | apply pw_below_drewN | apply below_drew1) | exact HB.out)) | exact Glob.of_below hG HB.out | exact Glob.drewN hG _ | exact Glob.drew hG | (with_reducible repeat (first | exact hG | apply Glob.drewN | apply Glob.drew | apply Glob.alloc))); rintro e w749 ⟨rfl, hb⟩; refine ⟨_, rfl, ?_⟩; have n0_ := Aside0.mk (Kd.R_below (by (with_reducible repeat (first | apply Kd.R_alloc | apply Kd.R_drewN | apply Kd.R_drew)); exact HO_5.out) hb); have n1_ := Aside0.mk (Kd.R_below (by (with_reducible repeat (first | apply Kd.R_alloc | apply Kd.R_drewN | apply Kd.R_drew)); exact HO_7.out) hb); have n2_ := Aside0.mk (Kd.R_below (by (with_reducible repeat (first | apply Kd.R_alloc | apply Kd.R_drewN | apply Kd.R_drew)); exact HO_9.out) hb); have n3_ := Aside0.mk (Kd.R_below (by (with_reducible repeat (first | apply Kd.R_alloc | apply Kd.R_drewN | apply Kd.R_drew)); exact HO_11.out) hb); have n4_ := Aside0.mk (Kd.R_below (by (with_reducible repeat (first | apply Kd.R_alloc | apply Kd.R_drewN | apply Kd.R_drew)); exact HO_15.out) hb); have n5_ := Aside0.mk (below_step (by repeat (first | (with_reducible first | exact HB.out | apply below_alloc | apply pw_below_drewN | apply below_drew1) | exact HB.out)) hb); clear HO_5; clear HO_7; clear HO_9; clear HO_11; clear HO_15; clear HB; have HO_5 := n0_; have HO_7 := n1_; have HO_9 := n2_; have HO_11 := n3_; have HO_15 := n4_; have HB := n5_; clear n0_ n1_ n2_ n3_ n4_ n5_; (try clear hb); (try clear hb2); (try clear hk); (try clear hi)) | ((with_reducible refine gate_callee (f := 18) rfl ?_); clear tok42_; refine goesL_ (some 271) rfl rfl Tryd.func18 (by kernel_rfl) rfl #[.slice Ao621 t1134.length co621] rfl (by (try simp only [List.map_toArray, List.map_cons, List.map_nil]); first | done | rfl | (simp only [List.length_drop, List.length_take]; rfl)) ?_; (with_reducible refine (sets_Size.calls kj729 _ _ t1134 t1211 t1212 _ ?side1 ?side2 ?side3 A743.out).mono ?_); (case side1 => repeat (first | exact (Kd.R_reads' HO_7.out).2.2 | (with_reducible refine Kd.C_alloc ?_ _) | (with_reducible refine Kd.C_drewN ?_ _) | (with_reducible refine Kd.C_drew ?_))); (case side2 => exact (Kd.R_reads' HO_7.out).2.1); (case side3 => first | exact hG | exact Glob.of_below hG (by repeat (first | (with_reducible first | exact HB.out | apply below_alloc | apply pw_below_drewN | apply below_drew1) | exact HB.out)) | exact Glob.of_below hG HB.out | exact Glob.drewN hG _ | exact Glob.drew hG | (with_reducible repeat (first | exact hG | apply Glob.drewN | apply Glob.drew | apply Glob.alloc))); rintro e w750 ⟨rfl, hb⟩; refine ⟨_, rfl, ?_⟩; have n0_ := Aside0.mk (Kd.R_below (by (with_reducible repeat (first | apply Kd.R_alloc | apply Kd.R_drewN | apply Kd.R_drew)); exact HO_5.out) hb); have n1_ := Aside0.mk (Kd.R_below (by (with_reducible repeat (first | apply Kd.R_alloc | apply Kd.R_drewN | apply Kd.R_drew)); exact HO_7.out) hb); have n2_ := Aside0.mk (Kd.R_below (by (with_reducible repeat (first | apply Kd.R_alloc | apply Kd.R_drewN | apply Kd.R_drew)); exact HO_9.out) hb); have n3_ := Aside0.mk (Kd.R_below (by (with_reducible repeat (first | apply Kd.R_alloc | apply Kd.R_drewN | apply Kd.R_drew)); exact HO_11.out) hb); have n4_ := Aside0.mk (Kd.R_below (by (with_reducible repeat (first | apply Kd.R_alloc | apply Kd.R_drewN | apply Kd.R_drew)); exact HO_15.out) hb); have n5_ := Aside0.mk (below_step (by repeat (first | (with_reducible first | exact HB.out | apply below_alloc | apply pw_below_drewN | apply below_drew1) | exact HB.out)) hb); clear HO_5; clear HO_7; clear HO_9; clear HO_11; clear HO_15; clear HB; have HO_5 := n0_; have HO_7 := n1_; have HO_9 := n2_; have HO_11 := n3_; have HO_15 := n4_; have HB := n5_; clear n0_ n1_ n2_ n3_ n4_ n5_; (try clear hb); (try clear hb2); (try clear hk); (try clear hi)) | ((with_reducible refine gate_callee (f := 18) rfl ?_); clear tok43_; refine goesL_ (some 276) rfl rfl Tryd.func18 (by kernel_rfl) rfl #[.slice Ao722 t1138.length co722] rfl (by (try simp only [List.map_toArray, List.map_cons, List.map_nil]); first | done | rfl | (simp only [List.length_drop, List.length_take]; rfl)) ?_; (with_reducible refine (sets_Size.calls kj729 _ _ t1138 t1213 t1214 _ ?side1 ?side2 ?side3 A744.out).mono ?_); (case side1 => repeat (first | exact (Kd.R_reads' HO_9.out).2.2 | (with_reducible refine Kd.C_alloc ?_ _) | (with_reducible refine Kd.C_drewN ?_ _) | (with_reducible refine Kd.C_drew ?_))); (case side2 => exact (Kd.R_reads' HO_9.out).2.1); (case side3 => first | exact hG | exact Glob.of_below hG (by repeat (first | (with_reducible first | exact HB.out | apply below_alloc | apply pw_below_drewN | apply below_drew1) | exact HB.out)) | exact Glob.of_below hG HB.out | exact Glob.drewN hG _ | exact Glob.drew hG | (with_reducible repeat (first | exact hG | apply Glob.drewN | apply Glob.drew | apply Glob.alloc))); rintro e w751 ⟨rfl, hb⟩; refine ⟨_, rfl, ?_⟩; have n0_ := Aside0.mk (Kd.R_below (by (with_reducible repeat (first | apply Kd.R_alloc | apply Kd.R_drewN | apply Kd.R_drew)); exact HO_5.out) hb); have n1_ := Aside0.mk (Kd.R_below (by (with_reducible repeat (first | apply Kd.R_alloc | apply Kd.R_drewN | apply Kd.R_drew)); exact HO_7.out) hb); have n2_ := Aside0.mk (Kd.R_below (by (with_reducible repeat (first | apply Kd.R_alloc | apply Kd.R_drewN | apply Kd.R_drew)); exact HO_9.out) hb); have n3_ := Aside0.mk (Kd.R_below (by (with_reducible repeat (first | apply Kd.R_alloc | apply Kd.R_drewN | apply Kd.R_drew)); exact HO_11.out) hb); have n4_ := Aside0.mk (Kd.R_below (by (with_reducible repeat (first | apply Kd.R_alloc | apply Kd.R_drewN | apply Kd.R_drew)); exact HO_15.out) hb); have n5_ := Aside0.mk (below_step (by repeat (first | (with_reducible first | exact HB.out | apply below_alloc | apply pw_below_drewN | apply below_drew1) | exact HB.out)) hb); clear HO_5; clear HO_7; clear HO_9; clear HO_11; clear HO_15; clear HB; have HO_5 := n0_; have HO_7 := n1_; have HO_9 := n2_; have HO_11 := n3_; have HO_15 := n4_; have HB := n5_; clear n0_ n1_ n2_ n3_ n4_ n5_; (try clear hb); (try clear hb2); (try clear hk); (try clear hi); obtain ⟨Ao752, co752, eo752⟩ := Kd.R_slice HO_11.out; subst eo752) | ((with_reducible refine gate_callee (f := 18) rfl ?_); clear tok44_; refine goesL_ (some 281) rfl rfl Tryd.func18 (by kernel_rfl) rfl #[.slice Ao752 t1142.length co752] rfl (by (try simp only [List.map_toArray, List.map_cons, List.map_nil]); first | done | rfl | (simp only [List.length_drop, List.length_take]; rfl)) ?_; (with_reducible refine (sets_Size.calls kj729 _ _ t1142 t1215 t1216 _ ?side1 ?side2 ?side3 A745.out).mono ?_); (case side1 => repeat (first | exact (Kd.R_reads' HO_11.out).2.2 | (with_reducible refine Kd.C_alloc ?_ _) | (with_reducible refine Kd.C_drewN ?_ _) | (with_reducible refine Kd.C_drew ?_))); (case side2 => exact (Kd.R_reads' HO_11.out).2.1); (case side3 => first | exact hG | exact Glob.of_below hG (by repeat (first | (with_reducible first | exact HB.out | apply below_alloc | apply pw_below_drewN | apply below_drew1) | exact HB.out)) | exact Glob.of_below hG HB.out | exact Glob.drewN hG _ | exact Glob.drew hG | (with_reducible repeat (first | exact hG | apply Glob.drewN | apply Glob.drew | apply Glob.alloc))); rintro e w753 ⟨rfl, hb⟩; refine ⟨_, rfl, ?_⟩; have n0_ := Aside0.mk (Kd.R_below (by (with_reducible repeat (first | apply Kd.R_alloc | apply Kd.R_drewN | apply Kd.R_drew)); exact HO_5.out) hb); have n1_ := Aside0.mk (Kd.R_below (by (with_reducible repeat (first | apply Kd.R_alloc | apply Kd.R_drewN | apply Kd.R_drew)); exact HO_7.out) hb); have n2_ := Aside0.mk (Kd.R_below (by (with_reducible repeat (first | apply Kd.R_alloc | apply Kd.R_drewN | apply Kd.R_drew)); exact HO_9.out) hb); have n3_ := Aside0.mk (Kd.R_below (by (with_reducible repeat (first | apply Kd.R_alloc | apply Kd.R_drewN | apply Kd.R_drew)); exact HO_11.out) hb); have n4_ := Aside0.mk (Kd.R_below (by (with_reducible repeat (first | apply Kd.R_alloc | apply Kd.R_drewN | apply Kd.R_drew)); exact HO_15.out) hb); have n5_ := Aside0.mk (below_step (by repeat (first | (with_reducible first | exact HB.out | apply below_alloc | apply pw_below_drewN | apply below_drew1) | exact HB.out)) hb); clear HO_5; clear HO_7; clear HO_9; clear HO_11; clear HO_15; clear HB; have HO_5 := n0_; have HO_7 := n1_; have HO_9 := n2_; have HO_11 := n3_; have HO_15 := n4_; have HB := n5_; clear n0_ n1_ n2_ n3_ n4_ n5_; (try clear hb); (try clear hb2); (try clear hk); (try clear hi)) | ((with_reducible refine gate_callee (f := 18) rfl ?_); clear tok45_; refine goesL_ (some 286) rfl rfl Tryd.func18 (by kernel_rfl) rfl #[.slice Ao719 t1150.length co719] rfl (by (try simp only [List.map_toArray, List.map_cons, List.map_nil]); first | done | rfl | (simp only [List.length_drop, List.length_take]; rfl)) ?_; (with_reducible refine (sets_Size.calls kj729 _ _ t1150 t1217 t1218 _ ?side1 ?side2 ?side3 A746.out).mono ?_); (case side1 => repeat (first | exact (Kd.R_reads' HO_15.out).2.2 | (with_reducible refine Kd.C_alloc ?_ _) | (with_reducible refine Kd.C_drewN ?_ _) | (with_reducible refine Kd.C_drew ?_))); (case side2 => exact (Kd.R_reads' HO_15.out).2.1); (case side3 => first | exact hG | exact Glob.of_below hG (by repeat (first | (with_reducible first | exact HB.out | apply below_alloc | apply pw_below_drewN | apply below_drew1) | exact HB.out)) | exact Glob.of_below hG HB.out | exact Glob.drewN hG _ | exact Glob.drew hG | (with_reducible repeat (first | exact hG | apply Glob.drewN | apply Glob.drew | apply Glob.alloc))); rintro e w754 ⟨rfl, hb⟩; refine ⟨_, rfl, ?_⟩; have n0_ := Aside0.mk (Kd.R_below (by (with_reducible repeat (first | apply Kd.R_alloc | apply Kd.R_drewN | apply Kd.R_drew)); exact HO_5.out) hb); have n1_ := Aside0.mk (Kd.R_below (by (with_reducible repeat (first | apply Kd.R_alloc | apply Kd.R_drewN | apply Kd.R_drew)); exact HO_7.out) hb); have n2_ := Aside0.mk (Kd.R_below (by (with_reducible repeat (first | apply Kd.R_alloc | apply Kd.R_drewN | apply Kd.R_drew)); exact HO_9.out) hb); have n3_ := Aside0.mk (Kd.R_below (by (with_reducible repeat (first | apply Kd.R_alloc | apply Kd.R_drewN | apply Kd.R_drew)); exact HO_11.out) hb); have n4_ := Aside0.mk (Kd.R_below (by (with_reducible repeat (first | apply Kd.R_alloc | apply Kd.R_drewN | apply Kd.R_drew)); exact HO_15.out) hb); have n5_ := Aside0.mk (below_step (by repeat (first | (with_reducible first | exact HB.out | apply below_alloc | apply pw_below_drewN | apply below_drew1) | exact HB.out)) hb); clear HO_5; clear HO_7; clear HO_9; clear HO_11; clear HO_15; clear HB; have HO_5 := n0_; have HO_7 := n1_; have HO_9 := n2_; have HO_11 := n3_; have HO_15 := n4_; have HB := n5_; clear n0_ n1_ n2_ n3_ n4_ n5_; (try clear hb); (try clear hb2); (try clear hk); (try clear hi)))
                                                            go_ret
                                                            exact ⟨by first | rfl | (simp [errW_none, errW_some] <;> rfl) | (simp [*, errW_none, errW_some] <;> rfl), by repeat (first | (with_reducible first | exact HB.out | apply below_alloc | apply pw_below_drewN | apply below_drew1) | exact HB.out)⟩
                                                        · rw [if_neg c748] at H
                                                          have c748b0 : ((wrap64 (t1209 + t1211)) == (wrap64 (t1213 + t1215))) = false := beq_eq_false_iff_ne.mpr c748
                                                          have c748b1 : ((wrap64 (t1209 + t1211)) != (wrap64 (t1213 + t1215))) = true := bne_iff_ne.mpr c748
                                                          as_aux_lemma =>
                                                            exact absurd (H.trans (congrArg some hrt.out)) (by simp)
                                                      · rw [if_neg c747] at H
                                                        have c747b0 : (t1218 == 0) = false := beq_eq_false_iff_ne.mpr c747
                                                        have c747b1 : (t1218 != 0) = true := bne_iff_ne.mpr c747
                                                        as_aux_lemma =>
                                                          exact absurd (H.trans (congrArg some hrt.out)) (by simp)
                            · rw [if_neg c652] at H
                              exact absurd H (by simp)
  · replace c604 := Bool.eq_false_iff.mpr c604
    subst c604
    have H1 : (some false) = some r := by rw [if_neg (show ¬ (false = true) by decide)] at H; exact H
    clear H
    have H := H1
    clear H1
    as_aux_lemma =>
      exact absurd (H.trans (congrArg some hrt.out)) (by simp)

end Go.Proofs.YtoggmegpodmfnaaDoor.PU
