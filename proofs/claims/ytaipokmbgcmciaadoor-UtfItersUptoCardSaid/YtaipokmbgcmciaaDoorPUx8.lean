/- Contracts of functions that the law reaches: what each call answers, as a plain function of what it reads; on condition that the function answers there. Printed by this session's own tool. -/
import Derived.Test.YtaipokmbgcmciaaDoorPUx0
import Derived.Test.YtaipokmbgcmciaaDoorPUx1
import Derived.Test.YtaipokmbgcmciaaDoorPUx2
import Derived.Test.YtaipokmbgcmciaaDoorPUx3
import Derived.Test.YtaipokmbgcmciaaDoorPUx4
import Derived.Test.YtaipokmbgcmciaaDoorPUx5
import Derived.Test.YtaipokmbgcmciaaDoorPUx6
import Derived.Test.YtaipokmbgcmciaaDoorPUx7
namespace Go.Proofs.YtaipokmbgcmciaaDoor.PU
open Go.RowKit Go.Proofs.YtaipokmbgcmciaaDoor.B Go.Proofs.YtaipokmbgcmciaaDoorW.PrintWords Go.Proofs.YtaipokmbgcmciaaDoorW.PrintLast Go.Proofs.YtaipokmbgcmciaaDoorW.PrintMore
attribute [local go_sem] max2_int min2_int max_two min_two max_three min_three max_four min_four   -- for this text's walks alone
set_option linter.unusedVariables false
set_option linter.unusedSimpArgs false

/-! ### thistlelaw01_UtfPlays: function 7 -/
mutual
def thistlelaw01_UtfPlays.j0 : Nat → ByteArray → Int → List Int → Bool → Option (Bool)
  | 0, _, _, _, _ => none
  | k + 1, x0, x1, x2, x45 => if x45 = true then (some false) else ((utf_Prev.f k x0 x1).bind fun bt239 => ((thistleref01_Prev.f k x0 x1).bind fun bt242 => (if bt239.1 = bt242.1 then (if bt239.2.1 = bt242.2.1 then (thistlelaw01_UtfPlays.j1 k x0 x1 x2 (bt239.2.2 != bt242.2.2)) else (thistlelaw01_UtfPlays.j1 k x0 x1 x2 true)) else (thistlelaw01_UtfPlays.j1 k x0 x1 x2 true))))
def thistlelaw01_UtfPlays.j1 : Nat → ByteArray → Int → List Int → Bool → Option (Bool)
  | 0, _, _, _, _ => none
  | k + 1, x0, x1, x2, x72 => if x72 = true then (some false) else ((utf_Units.f x0).bind fun t245 => ((thistleref01_Units.f k x0).bind fun t248 => ((thistlelaw01_same.f k t245 t248).bind fun t251 => (if t251 = true then ((utf_Places.f x0).bind fun t252 => ((thistleref01_Places.f k x0).bind fun t255 => ((thistlelaw01_sameNums.f k t252 t255).bind fun t258 => (if t258 = true then ((utf_Border.f k x0 x1).bind fun t259 => ((thistleref01_Border.f k x0 x1).bind fun t260 => (thistlelaw01_UtfPlays.j2 k x0 x2 (t259 != t260)))) else (thistlelaw01_UtfPlays.j2 k x0 x2 true))))) else (thistlelaw01_UtfPlays.j2 k x0 x2 true)))))
def thistlelaw01_UtfPlays.j2 : Nat → ByteArray → List Int → Bool → Option (Bool)
  | 0, _, _, _ => none
  | k + 1, x0, x2, x95 => if x95 = true then (some false) else ((utf_Count.f x0).bind fun t261 => ((thistleref01_Count.f k x0).bind fun t262 => (if t261 = t262 then ((utf_Valid.f x0).bind fun t263 => ((thistleref01_Valid.f k x0).bind fun t264 => (if (t263 != t264) = true then (thistlelaw01_UtfPlays.j3 k x2 true) else ((utf_Runes.f x0).bind fun t265 => ((thistleref01_Runes.f k x0).bind fun t268 => ((thistlelaw01_same.f k t265 t268).bind fun t271 => (if t271 = true then ((utf_Mend.f x0).bind fun t272 => ((thistleref01_Mend.f k x0).bind fun t273 => (thistlelaw01_UtfPlays.j3 k x2 (t272.toList != t273.toList)))) else (thistlelaw01_UtfPlays.j3 k x2 true)))))))) else (thistlelaw01_UtfPlays.j3 k x2 true))))
def thistlelaw01_UtfPlays.j3 : Nat → List Int → Bool → Option (Bool)
  | 0, _, _ => none
  | k + 1, x2, x122 => if x122 = true then (some false) else ((thistlelaw01_copied.f x2).bind fun t274 => ((utf_Text.f t274).bind fun bt277 => ((thistleref01_Text.f k x2).bind fun bt279 => (if bt277.1.toList = bt279.1.toList then (if bt277.2 = bt279.2 then ((thistlelaw01_copied.f x2).bind fun t281 => ((utf_Apart.f k t281).bind fun t284 => ((thistleref01_Apart.f k x2).bind fun t285 => (if (t284 == t285) = true then ((thistlelaw01_copied.f x2).bind fun t286 => ((utf_FromRunes.f t286).bind fun t289 => ((thistleref01_FromRunes.f k x2).bind fun t290 => (some (t289.toList == t290.toList))))) else (some false))))) else (some false)) else (some false)))))
end
def thistlelaw01_UtfPlays.f (k : Nat) (a0 : ByteArray) (a1 : Int) (l2 : List Int) : Option (Bool) := (thistlelaw01_awake.f).bind fun t232 => (if t232 = true then ((utf_Next.f a0 a1).bind fun bt233 => ((thistleref01_Next.f k a0 a1).bind fun bt236 => (if bt233.1 = bt236.1 then (if bt233.2.1 = bt236.2.1 then (thistlelaw01_UtfPlays.j0 k a0 a1 l2 (bt233.2.2 != bt236.2.2)) else (thistlelaw01_UtfPlays.j0 k a0 a1 l2 true)) else (thistlelaw01_UtfPlays.j0 k a0 a1 l2 true)))) else (some false))
theorem thistlelaw01_UtfPlays.mono_l : ∀ k, (∀ y0 y1 y2 y3, LeO (thistlelaw01_UtfPlays.j0 k y0 y1 y2 y3) (thistlelaw01_UtfPlays.j0 (k + 1) y0 y1 y2 y3)) ∧ (∀ y0 y1 y2 y3, LeO (thistlelaw01_UtfPlays.j1 k y0 y1 y2 y3) (thistlelaw01_UtfPlays.j1 (k + 1) y0 y1 y2 y3)) ∧ (∀ y0 y1 y2, LeO (thistlelaw01_UtfPlays.j2 k y0 y1 y2) (thistlelaw01_UtfPlays.j2 (k + 1) y0 y1 y2)) ∧ (∀ y0 y1, LeO (thistlelaw01_UtfPlays.j3 k y0 y1) (thistlelaw01_UtfPlays.j3 (k + 1) y0 y1))
  | 0 => ⟨fun _ _ _ _ r h => by simp [thistlelaw01_UtfPlays.j0] at h, fun _ _ _ _ r h => by simp [thistlelaw01_UtfPlays.j1] at h, fun _ _ _ r h => by simp [thistlelaw01_UtfPlays.j2] at h, fun _ _ r h => by simp [thistlelaw01_UtfPlays.j3] at h⟩
  | k + 1 => by
    obtain ⟨ih0, ih1, ih2, ih3⟩ := thistlelaw01_UtfPlays.mono_l k
    refine ⟨?_, ?_, ?_, ?_⟩
    · intro y0 y1 y2 y3
      unfold thistlelaw01_UtfPlays.j0
      repeat' first
      | (with_reducible exact ih0 _ _ _ _)
      | (with_reducible exact ih1 _ _ _ _)
      | (with_reducible exact ih2 _ _ _)
      | (with_reducible exact ih3 _ _)
      | (with_reducible exact thistlelaw01_same.mono _ _ _)
      | (with_reducible exact thistlelaw01_sameNums.mono _ _ _)
      | (with_reducible exact thistleref01_Apart.mono _ _)
      | (with_reducible exact thistleref01_Border.mono _ _ _)
      | (with_reducible exact thistleref01_Count.mono _ _)
      | (with_reducible exact thistleref01_FromRunes.mono _ _)
      | (with_reducible exact thistleref01_Mend.mono _ _)
      | (with_reducible exact thistleref01_Next.mono _ _ _)
      | (with_reducible exact thistleref01_Places.mono _ _)
      | (with_reducible exact thistleref01_Prev.mono _ _ _)
      | (with_reducible exact thistleref01_Runes.mono _ _)
      | (with_reducible exact thistleref01_Text.mono _ _)
      | (with_reducible exact thistleref01_Units.mono _ _)
      | (with_reducible exact thistleref01_Valid.mono _ _)
      | (with_reducible exact utf_Apart.mono _ _)
      | (with_reducible exact utf_Border.mono _ _ _)
      | (with_reducible exact utf_Prev.mono _ _ _)
      | (with_reducible exact LeO.refl _)
      | (with_reducible exact LeO.none _)
      | (with_reducible refine LeO.ite ?_ ?_)
      | (with_reducible refine LeO.bind ?_ (fun _ => ?_))
      | exact ih0 _ _ _ _
      | exact ih1 _ _ _ _
      | exact ih2 _ _ _
      | exact ih3 _ _
      | exact thistlelaw01_same.mono _ _ _
      | exact thistlelaw01_sameNums.mono _ _ _
      | exact thistleref01_Apart.mono _ _
      | exact thistleref01_Border.mono _ _ _
      | exact thistleref01_Count.mono _ _
      | exact thistleref01_FromRunes.mono _ _
      | exact thistleref01_Mend.mono _ _
      | exact thistleref01_Next.mono _ _ _
      | exact thistleref01_Places.mono _ _
      | exact thistleref01_Prev.mono _ _ _
      | exact thistleref01_Runes.mono _ _
      | exact thistleref01_Text.mono _ _
      | exact thistleref01_Units.mono _ _
      | exact thistleref01_Valid.mono _ _
      | exact utf_Apart.mono _ _
      | exact utf_Border.mono _ _ _
      | exact utf_Prev.mono _ _ _
      | exact LeO.none _
      | refine LeO.ite ?_ ?_
      | refine LeO.bind ?_ (fun _ => ?_)
    · intro y0 y1 y2 y3
      unfold thistlelaw01_UtfPlays.j1
      repeat' first
      | (with_reducible exact ih0 _ _ _ _)
      | (with_reducible exact ih1 _ _ _ _)
      | (with_reducible exact ih2 _ _ _)
      | (with_reducible exact ih3 _ _)
      | (with_reducible exact thistlelaw01_same.mono _ _ _)
      | (with_reducible exact thistlelaw01_sameNums.mono _ _ _)
      | (with_reducible exact thistleref01_Apart.mono _ _)
      | (with_reducible exact thistleref01_Border.mono _ _ _)
      | (with_reducible exact thistleref01_Count.mono _ _)
      | (with_reducible exact thistleref01_FromRunes.mono _ _)
      | (with_reducible exact thistleref01_Mend.mono _ _)
      | (with_reducible exact thistleref01_Next.mono _ _ _)
      | (with_reducible exact thistleref01_Places.mono _ _)
      | (with_reducible exact thistleref01_Prev.mono _ _ _)
      | (with_reducible exact thistleref01_Runes.mono _ _)
      | (with_reducible exact thistleref01_Text.mono _ _)
      | (with_reducible exact thistleref01_Units.mono _ _)
      | (with_reducible exact thistleref01_Valid.mono _ _)
      | (with_reducible exact utf_Apart.mono _ _)
      | (with_reducible exact utf_Border.mono _ _ _)
      | (with_reducible exact utf_Prev.mono _ _ _)
      | (with_reducible exact LeO.refl _)
      | (with_reducible exact LeO.none _)
      | (with_reducible refine LeO.ite ?_ ?_)
      | (with_reducible refine LeO.bind ?_ (fun _ => ?_))
      | exact ih0 _ _ _ _
      | exact ih1 _ _ _ _
      | exact ih2 _ _ _
      | exact ih3 _ _
      | exact thistlelaw01_same.mono _ _ _
      | exact thistlelaw01_sameNums.mono _ _ _
      | exact thistleref01_Apart.mono _ _
      | exact thistleref01_Border.mono _ _ _
      | exact thistleref01_Count.mono _ _
      | exact thistleref01_FromRunes.mono _ _
      | exact thistleref01_Mend.mono _ _
      | exact thistleref01_Next.mono _ _ _
      | exact thistleref01_Places.mono _ _
      | exact thistleref01_Prev.mono _ _ _
      | exact thistleref01_Runes.mono _ _
      | exact thistleref01_Text.mono _ _
      | exact thistleref01_Units.mono _ _
      | exact thistleref01_Valid.mono _ _
      | exact utf_Apart.mono _ _
      | exact utf_Border.mono _ _ _
      | exact utf_Prev.mono _ _ _
      | exact LeO.none _
      | refine LeO.ite ?_ ?_
      | refine LeO.bind ?_ (fun _ => ?_)
    · intro y0 y1 y2
      unfold thistlelaw01_UtfPlays.j2
      repeat' first
      | (with_reducible exact ih0 _ _ _ _)
      | (with_reducible exact ih1 _ _ _ _)
      | (with_reducible exact ih2 _ _ _)
      | (with_reducible exact ih3 _ _)
      | (with_reducible exact thistlelaw01_same.mono _ _ _)
      | (with_reducible exact thistlelaw01_sameNums.mono _ _ _)
      | (with_reducible exact thistleref01_Apart.mono _ _)
      | (with_reducible exact thistleref01_Border.mono _ _ _)
      | (with_reducible exact thistleref01_Count.mono _ _)
      | (with_reducible exact thistleref01_FromRunes.mono _ _)
      | (with_reducible exact thistleref01_Mend.mono _ _)
      | (with_reducible exact thistleref01_Next.mono _ _ _)
      | (with_reducible exact thistleref01_Places.mono _ _)
      | (with_reducible exact thistleref01_Prev.mono _ _ _)
      | (with_reducible exact thistleref01_Runes.mono _ _)
      | (with_reducible exact thistleref01_Text.mono _ _)
      | (with_reducible exact thistleref01_Units.mono _ _)
      | (with_reducible exact thistleref01_Valid.mono _ _)
      | (with_reducible exact utf_Apart.mono _ _)
      | (with_reducible exact utf_Border.mono _ _ _)
      | (with_reducible exact utf_Prev.mono _ _ _)
      | (with_reducible exact LeO.refl _)
      | (with_reducible exact LeO.none _)
      | (with_reducible refine LeO.ite ?_ ?_)
      | (with_reducible refine LeO.bind ?_ (fun _ => ?_))
      | exact ih0 _ _ _ _
      | exact ih1 _ _ _ _
      | exact ih2 _ _ _
      | exact ih3 _ _
      | exact thistlelaw01_same.mono _ _ _
      | exact thistlelaw01_sameNums.mono _ _ _
      | exact thistleref01_Apart.mono _ _
      | exact thistleref01_Border.mono _ _ _
      | exact thistleref01_Count.mono _ _
      | exact thistleref01_FromRunes.mono _ _
      | exact thistleref01_Mend.mono _ _
      | exact thistleref01_Next.mono _ _ _
      | exact thistleref01_Places.mono _ _
      | exact thistleref01_Prev.mono _ _ _
      | exact thistleref01_Runes.mono _ _
      | exact thistleref01_Text.mono _ _
      | exact thistleref01_Units.mono _ _
      | exact thistleref01_Valid.mono _ _
      | exact utf_Apart.mono _ _
      | exact utf_Border.mono _ _ _
      | exact utf_Prev.mono _ _ _
      | exact LeO.none _
      | refine LeO.ite ?_ ?_
      | refine LeO.bind ?_ (fun _ => ?_)
    · intro y0 y1
      unfold thistlelaw01_UtfPlays.j3
      repeat' first
      | (with_reducible exact ih0 _ _ _ _)
      | (with_reducible exact ih1 _ _ _ _)
      | (with_reducible exact ih2 _ _ _)
      | (with_reducible exact ih3 _ _)
      | (with_reducible exact thistlelaw01_same.mono _ _ _)
      | (with_reducible exact thistlelaw01_sameNums.mono _ _ _)
      | (with_reducible exact thistleref01_Apart.mono _ _)
      | (with_reducible exact thistleref01_Border.mono _ _ _)
      | (with_reducible exact thistleref01_Count.mono _ _)
      | (with_reducible exact thistleref01_FromRunes.mono _ _)
      | (with_reducible exact thistleref01_Mend.mono _ _)
      | (with_reducible exact thistleref01_Next.mono _ _ _)
      | (with_reducible exact thistleref01_Places.mono _ _)
      | (with_reducible exact thistleref01_Prev.mono _ _ _)
      | (with_reducible exact thistleref01_Runes.mono _ _)
      | (with_reducible exact thistleref01_Text.mono _ _)
      | (with_reducible exact thistleref01_Units.mono _ _)
      | (with_reducible exact thistleref01_Valid.mono _ _)
      | (with_reducible exact utf_Apart.mono _ _)
      | (with_reducible exact utf_Border.mono _ _ _)
      | (with_reducible exact utf_Prev.mono _ _ _)
      | (with_reducible exact LeO.refl _)
      | (with_reducible exact LeO.none _)
      | (with_reducible refine LeO.ite ?_ ?_)
      | (with_reducible refine LeO.bind ?_ (fun _ => ?_))
      | exact ih0 _ _ _ _
      | exact ih1 _ _ _ _
      | exact ih2 _ _ _
      | exact ih3 _ _
      | exact thistlelaw01_same.mono _ _ _
      | exact thistlelaw01_sameNums.mono _ _ _
      | exact thistleref01_Apart.mono _ _
      | exact thistleref01_Border.mono _ _ _
      | exact thistleref01_Count.mono _ _
      | exact thistleref01_FromRunes.mono _ _
      | exact thistleref01_Mend.mono _ _
      | exact thistleref01_Next.mono _ _ _
      | exact thistleref01_Places.mono _ _
      | exact thistleref01_Prev.mono _ _ _
      | exact thistleref01_Runes.mono _ _
      | exact thistleref01_Text.mono _ _
      | exact thistleref01_Units.mono _ _
      | exact thistleref01_Valid.mono _ _
      | exact utf_Apart.mono _ _
      | exact utf_Border.mono _ _ _
      | exact utf_Prev.mono _ _ _
      | exact LeO.none _
      | refine LeO.ite ?_ ?_
      | refine LeO.bind ?_ (fun _ => ?_)
theorem thistlelaw01_UtfPlays.mono : ∀ a0 a1 a2 k, LeO (thistlelaw01_UtfPlays.f k a0 a1 a2) (thistlelaw01_UtfPlays.f (k + 1) a0 a1 a2) := by
  intro a0 a1 a2 k
  obtain ⟨ih0, ih1, ih2, ih3⟩ := thistlelaw01_UtfPlays.mono_l k
  unfold thistlelaw01_UtfPlays.f
  repeat' first
      | (with_reducible exact ih0 _ _ _ _)
      | (with_reducible exact ih1 _ _ _ _)
      | (with_reducible exact ih2 _ _ _)
      | (with_reducible exact ih3 _ _)
      | (with_reducible exact thistlelaw01_same.mono _ _ _)
      | (with_reducible exact thistlelaw01_sameNums.mono _ _ _)
      | (with_reducible exact thistleref01_Apart.mono _ _)
      | (with_reducible exact thistleref01_Border.mono _ _ _)
      | (with_reducible exact thistleref01_Count.mono _ _)
      | (with_reducible exact thistleref01_FromRunes.mono _ _)
      | (with_reducible exact thistleref01_Mend.mono _ _)
      | (with_reducible exact thistleref01_Next.mono _ _ _)
      | (with_reducible exact thistleref01_Places.mono _ _)
      | (with_reducible exact thistleref01_Prev.mono _ _ _)
      | (with_reducible exact thistleref01_Runes.mono _ _)
      | (with_reducible exact thistleref01_Text.mono _ _)
      | (with_reducible exact thistleref01_Units.mono _ _)
      | (with_reducible exact thistleref01_Valid.mono _ _)
      | (with_reducible exact utf_Apart.mono _ _)
      | (with_reducible exact utf_Border.mono _ _ _)
      | (with_reducible exact utf_Prev.mono _ _ _)
      | (with_reducible exact LeO.refl _)
      | (with_reducible exact LeO.none _)
      | (with_reducible refine LeO.ite ?_ ?_)
      | (with_reducible refine LeO.bind ?_ (fun _ => ?_))
      | exact ih0 _ _ _ _
      | exact ih1 _ _ _ _
      | exact ih2 _ _ _
      | exact ih3 _ _
      | exact thistlelaw01_same.mono _ _ _
      | exact thistlelaw01_sameNums.mono _ _ _
      | exact thistleref01_Apart.mono _ _
      | exact thistleref01_Border.mono _ _ _
      | exact thistleref01_Count.mono _ _
      | exact thistleref01_FromRunes.mono _ _
      | exact thistleref01_Mend.mono _ _
      | exact thistleref01_Next.mono _ _ _
      | exact thistleref01_Places.mono _ _
      | exact thistleref01_Prev.mono _ _ _
      | exact thistleref01_Runes.mono _ _
      | exact thistleref01_Text.mono _ _
      | exact thistleref01_Units.mono _ _
      | exact thistleref01_Valid.mono _ _
      | exact utf_Apart.mono _ _
      | exact utf_Border.mono _ _ _
      | exact utf_Prev.mono _ _ _
      | exact LeO.none _
      | refine LeO.ite ?_ ?_
      | refine LeO.bind ?_ (fun _ => ?_)
set_option maxHeartbeats 8000000 in
set_option maxRecDepth 100000 in
theorem thistlelaw01_UtfPlays.calls (k : Nat) (a0 : ByteArray) (a1 : Int) (A2 : Option Addr) (c2 : Nat) (l2 : List Int) (r : Bool) (w : World) (hr2 : Kd.C (Kd.int .i32) w A2 l2.length l2) (hc2 : l2.length ≤ c2) (hG : Glob w) (h : thistlelaw01_UtfPlays.f k a0 a1 l2 = some r) :
    Calls Tryd.prog 7 #[.string a0, .int .i64 a1, .slice A2 l2.length c2] w fun e w' => e = .returned (.bool r) ∧ Below w.heap.size w w' := by
  have HR2 := Aside0.mk hr2
  have HC2 := Aside0.mk hc2
  clear hr2 hc2
  have HB := Aside0.mk (Below.refl w.heap.size w)
  have H : ((thistlelaw01_awake.f).bind fun t232 => (if t232 = true then ((utf_Next.f a0 a1).bind fun bt233 => ((thistleref01_Next.f k a0 a1).bind fun bt236 => (if bt233.1 = bt236.1 then (if bt233.2.1 = bt236.2.1 then (thistlelaw01_UtfPlays.j0 k a0 a1 l2 (bt233.2.2 != bt236.2.2)) else (thistlelaw01_UtfPlays.j0 k a0 a1 l2 true)) else (thistlelaw01_UtfPlays.j0 k a0 a1 l2 true)))) else (some false))) = some r := h
  clear h
  replace H := Option.bind_eq_some_iff.mp H
  obtain ⟨t232, A40, H⟩ := H
  replace H : (if t232 = true then ((utf_Next.f a0 a1).bind fun bt233 => ((thistleref01_Next.f k a0 a1).bind fun bt236 => (if bt233.1 = bt236.1 then (if bt233.2.1 = bt236.2.1 then (thistlelaw01_UtfPlays.j0 k a0 a1 l2 (bt233.2.2 != bt236.2.2)) else (thistlelaw01_UtfPlays.j0 k a0 a1 l2 true)) else (thistlelaw01_UtfPlays.j0 k a0 a1 l2 true)))) else (some false)) = some r := H
  have A4 := Aside0.mk A40
  clear A40
  by_cases c5 : t232 = true
  · subst c5
    have H1 : ((utf_Next.f a0 a1).bind fun bt233 => ((thistleref01_Next.f k a0 a1).bind fun bt236 => (if bt233.1 = bt236.1 then (if bt233.2.1 = bt236.2.1 then (thistlelaw01_UtfPlays.j0 k a0 a1 l2 (bt233.2.2 != bt236.2.2)) else (thistlelaw01_UtfPlays.j0 k a0 a1 l2 true)) else (thistlelaw01_UtfPlays.j0 k a0 a1 l2 true)))) = some r := by rw [if_pos rfl] at H; exact H
    clear H
    have H := H1
    clear H1
    replace H := Option.bind_eq_some_iff.mp H
    obtain ⟨⟨t233, t234, t235⟩, A60, H⟩ := H
    replace H : ((thistleref01_Next.f k a0 a1).bind fun bt236 => (if t233 = bt236.1 then (if t234 = bt236.2.1 then (thistlelaw01_UtfPlays.j0 k a0 a1 l2 (t235 != bt236.2.2)) else (thistlelaw01_UtfPlays.j0 k a0 a1 l2 true)) else (thistlelaw01_UtfPlays.j0 k a0 a1 l2 true))) = some r := H
    have A6 := Aside0.mk A60
    clear A60
    replace H := Option.bind_eq_some_iff.mp H
    obtain ⟨⟨t236, t237, t238⟩, A70, H⟩ := H
    replace H : (if t233 = t236 then (if t234 = t237 then (thistlelaw01_UtfPlays.j0 k a0 a1 l2 (t235 != t238)) else (thistlelaw01_UtfPlays.j0 k a0 a1 l2 true)) else (thistlelaw01_UtfPlays.j0 k a0 a1 l2 true)) = some r := H
    have A7 := Aside0.mk A70
    clear A70
    have HC8 := Aside0.mk H
    clear H
    go_enter Tryd.func7, Tryd.ntmps7
    go_upto_region 5 with (first | ((with_reducible refine gate_callee (f := 8) rfl ?_); refine goesL_ (some 17) rfl rfl Tryd.func8 (by kernel_rfl) rfl #[] rfl (by (try simp only [List.map_toArray, List.map_cons, List.map_nil]); first | done | rfl | (simp only [List.length_drop, List.length_take]; rfl)) ?_; (with_reducible refine (thistlelaw01_awake.calls  true _ A4.out).mono ?_); rintro e w9 ⟨rfl, hb⟩; refine ⟨_, rfl, ?_⟩; have n0_ := Aside0.mk (below_step (by repeat (first | (with_reducible first | exact HB.out | apply below_alloc | apply pw_below_drewN | apply below_drew1) | exact HB.out)) hb); clear HB; have HB := n0_; clear n0_; (try clear hb); (try clear hb2); (try clear hk); (try clear hi)) | ((with_reducible refine gate_callee (f := 21) rfl ?_); refine goesL_ (some 22) rfl rfl Tryd.func21 (by kernel_rfl) rfl #[.string a0, .int .i64 a1] rfl (by (try simp only [List.map_toArray, List.map_cons, List.map_nil]); first | done | rfl | (simp only [List.length_drop, List.length_take]; rfl)) ?_; (with_reducible refine (utf_Next.calls a0 a1 t233 t234 t235 _ A6.out).mono ?_); rintro e w10 ⟨rfl, hb⟩; refine ⟨_, rfl, ?_⟩; have n0_ := Aside0.mk (below_step (by repeat (first | (with_reducible first | exact HB.out | apply below_alloc | apply pw_below_drewN | apply below_drew1) | exact HB.out)) hb); clear HB; have HB := n0_; clear n0_; (try clear hb); (try clear hb2); (try clear hk); (try clear hi)) | ((with_reducible refine gate_callee (f := 26) rfl ?_); refine goesL_ (some 29) rfl rfl Tryd.func26 (by kernel_rfl) rfl #[.string a0, .int .i64 a1] rfl (by (try simp only [List.map_toArray, List.map_cons, List.map_nil]); first | done | rfl | (simp only [List.length_drop, List.length_take]; rfl)) ?_; (with_reducible refine (thistleref01_Next.calls k a0 a1 t236 t237 t238 _ A7.out).mono ?_); rintro e w' ⟨rfl, ⟨nd, rfl⟩⟩; refine ⟨_, rfl, ?_⟩))
    (try simp only [Act.put, List.setIfInBounds_toArray, List.set_cons_zero, List.set_cons_succ])
    go_cut [45] (fun v45 wc => ∃ (kq : Nat) (x45_7 : Bool), v45 = .bool x45_7 ∧ Aside0 (thistlelaw01_UtfPlays.j0 kq a0 a1 l2 x45_7 = some r) ∧ Aside0 (kq ≤ k) ∧ Aside0 (Below w.heap.size w wc))
    case first =>
      have H := HC8.out
      clear HC8
      by_cases c11 : t233 = t236
      · rw [if_pos c11] at H
        have c11b0 : (t233 == t236) = true := beq_iff_eq.mpr c11
        have c11b1 : (t233 != t236) = false := bne_eq_false_iff_eq.mpr c11
        clear c11
        (first | rw [c11b0] | (simp only [i64_w, i32_w]; rw [c11b0]) | skip)
        by_cases c12 : t234 = t237
        · rw [if_pos c12] at H
          have c12b0 : (t234 == t237) = true := beq_iff_eq.mpr c12
          have c12b1 : (t234 != t237) = false := bne_eq_false_iff_eq.mpr c12
          clear c12
          have H' := Aside0.mk H
          clear H
          go_wp2
          go_meet
          case rel => exact ⟨_, ((t235 != t238)), (by first | rfl | (simp; done) | (simp [*]; done)), H', ⟨by first | omega | exact Nat.le_refl _⟩, ⟨by repeat (first | (with_reducible first | exact HB.out | apply below_alloc | apply pw_below_drewN | apply below_drew1) | exact HB.out)⟩⟩
        · rw [if_neg c12] at H
          have c12b0 : (t234 == t237) = false := beq_eq_false_iff_ne.mpr c12
          have c12b1 : (t234 != t237) = true := bne_iff_ne.mpr c12
          have H' := Aside0.mk H
          clear H
          go_wp2
          go_meet
          case rel => exact ⟨_, (true), (by first | rfl | (simp; done) | (simp [*]; done)), H', ⟨by first | omega | exact Nat.le_refl _⟩, ⟨by repeat (first | (with_reducible first | exact HB.out | apply below_alloc | apply pw_below_drewN | apply below_drew1) | exact HB.out)⟩⟩
      · rw [if_neg c11] at H
        have c11b0 : (t233 == t236) = false := beq_eq_false_iff_ne.mpr c11
        have c11b1 : (t233 != t236) = true := bne_iff_ne.mpr c11
        (first | rw [c11b0] | (simp only [i64_w, i32_w]; rw [c11b0]) | skip)
        have H' := Aside0.mk H
        clear H
        go_wp2
        go_meet
        case rel => exact ⟨_, (true), (by first | rfl | (simp; done) | (simp [*]; done)), H', ⟨by first | omega | exact Nat.le_refl _⟩, ⟨by repeat (first | (with_reducible first | exact HB.out | apply below_alloc | apply pw_below_drewN | apply below_drew1) | exact HB.out)⟩⟩
    case rest =>
      clear HC8
      try clear c1
      try clear c2
      try clear p2
      try clear c5
      try clear c7
      try clear c8
      try clear c11
      try clear c11b0
      try clear c11b1
      try clear c12
      try clear c12b0
      try clear c12b1
      obtain ⟨kq, x45_7, rfl, HA, HJ7, HB⟩ := hcut
      cases kq with
      | zero => exact absurd HA.out (by simp [thistlelaw01_UtfPlays.j0])
      | succ kj7 =>
        have H := HA.out
        clear HA
        simp only [thistlelaw01_UtfPlays.j0] at H
        by_cases c13 : x45_7 = true
        · subst c13
          have H1 : (some false) = some r := by rw [if_pos rfl] at H; exact H
          clear H
          have H := H1
          clear H1
          obtain rfl := Option.some.inj H
          go_wp2
          go_ret
          exact ⟨by first | rfl | (simp [errW_none, errW_some] <;> rfl) | (simp [*, errW_none, errW_some] <;> rfl), by repeat (first | (with_reducible first | exact HB.out | apply below_alloc | apply pw_below_drewN | apply below_drew1) | exact HB.out)⟩
        · replace c13 := Bool.eq_false_iff.mpr c13
          subst c13
          have H1 : ((utf_Prev.f kj7 a0 a1).bind fun bt239 => ((thistleref01_Prev.f kj7 a0 a1).bind fun bt242 => (if bt239.1 = bt242.1 then (if bt239.2.1 = bt242.2.1 then (thistlelaw01_UtfPlays.j1 kj7 a0 a1 l2 (bt239.2.2 != bt242.2.2)) else (thistlelaw01_UtfPlays.j1 kj7 a0 a1 l2 true)) else (thistlelaw01_UtfPlays.j1 kj7 a0 a1 l2 true)))) = some r := by rw [if_neg (show ¬ (false = true) by decide)] at H; exact H
          clear H
          have H := H1
          clear H1
          replace H := Option.bind_eq_some_iff.mp H
          obtain ⟨⟨t239, t240, t241⟩, A140, H⟩ := H
          replace H : ((thistleref01_Prev.f kj7 a0 a1).bind fun bt242 => (if t239 = bt242.1 then (if t240 = bt242.2.1 then (thistlelaw01_UtfPlays.j1 kj7 a0 a1 l2 (t241 != bt242.2.2)) else (thistlelaw01_UtfPlays.j1 kj7 a0 a1 l2 true)) else (thistlelaw01_UtfPlays.j1 kj7 a0 a1 l2 true))) = some r := H
          have A14 := Aside0.mk A140
          clear A140
          replace H := Option.bind_eq_some_iff.mp H
          obtain ⟨⟨t242, t243, t244⟩, A150, H⟩ := H
          replace H : (if t239 = t242 then (if t240 = t243 then (thistlelaw01_UtfPlays.j1 kj7 a0 a1 l2 (t241 != t244)) else (thistlelaw01_UtfPlays.j1 kj7 a0 a1 l2 true)) else (thistlelaw01_UtfPlays.j1 kj7 a0 a1 l2 true)) = some r := H
          have A15 := Aside0.mk A150
          clear A150
          have HC16 := Aside0.mk H
          clear H
          go_upto_region 9 with (first | ((with_reducible refine gate_callee (f := 22) rfl ?_); refine goesL_ (some 49) rfl rfl Tryd.func22 (by kernel_rfl) rfl #[.string a0, .int .i64 a1] rfl (by (try simp only [List.map_toArray, List.map_cons, List.map_nil]); first | done | rfl | (simp only [List.length_drop, List.length_take]; rfl)) ?_; (with_reducible refine (utf_Prev.calls kj7 a0 a1 t239 t240 t241 _ ?side1 A14.out).mono ?_); (case side1 => first | exact hG | exact Glob.of_below hG (by repeat (first | (with_reducible first | exact HB.out | apply below_alloc | apply pw_below_drewN | apply below_drew1) | exact HB.out)) | exact Glob.of_below hG HB.out | exact Glob.drewN hG _ | exact Glob.drew hG | (with_reducible repeat (first | exact hG | apply Glob.drewN | apply Glob.drew | apply Glob.alloc))); rintro e w17 ⟨rfl, hb⟩; refine ⟨_, rfl, ?_⟩; have n0_ := Aside0.mk (below_step (by repeat (first | (with_reducible first | exact HB.out | apply below_alloc | apply pw_below_drewN | apply below_drew1) | exact HB.out)) hb); clear HB; have HB := n0_; clear n0_; (try clear hb); (try clear hb2); (try clear hk); (try clear hi)) | ((with_reducible refine gate_callee (f := 27) rfl ?_); refine goesL_ (some 56) rfl rfl Tryd.func27 (by kernel_rfl) rfl #[.string a0, .int .i64 a1] rfl (by (try simp only [List.map_toArray, List.map_cons, List.map_nil]); first | done | rfl | (simp only [List.length_drop, List.length_take]; rfl)) ?_; (with_reducible refine (thistleref01_Prev.calls kj7 a0 a1 t242 t243 t244 _ A15.out).mono ?_); rintro e w' ⟨rfl, ⟨nd, rfl⟩⟩; refine ⟨_, rfl, ?_⟩))
          (try simp only [Act.put, List.setIfInBounds_toArray, List.set_cons_zero, List.set_cons_succ])
          go_cut [72] (fun v72 wc => ∃ (kq : Nat) (x72_15 : Bool), v72 = .bool x72_15 ∧ Aside0 (thistlelaw01_UtfPlays.j1 kq a0 a1 l2 x72_15 = some r) ∧ Aside0 (kq ≤ kj7) ∧ Aside0 (Below w.heap.size w wc))
          case first =>
            have H := HC16.out
            clear HC16
            by_cases c18 : t239 = t242
            · rw [if_pos c18] at H
              have c18b0 : (t239 == t242) = true := beq_iff_eq.mpr c18
              have c18b1 : (t239 != t242) = false := bne_eq_false_iff_eq.mpr c18
              clear c18
              (first | rw [c18b0] | (simp only [i64_w, i32_w]; rw [c18b0]) | skip)
              by_cases c19 : t240 = t243
              · rw [if_pos c19] at H
                have c19b0 : (t240 == t243) = true := beq_iff_eq.mpr c19
                have c19b1 : (t240 != t243) = false := bne_eq_false_iff_eq.mpr c19
                clear c19
                have H' := Aside0.mk H
                clear H
                go_wp2
                go_meet
                case rel => exact ⟨_, ((t241 != t244)), (by first | rfl | (simp; done) | (simp [*]; done)), H', ⟨by have := HJ7.out; first | omega | exact Nat.le_refl _⟩, ⟨by repeat (first | (with_reducible first | exact HB.out | apply below_alloc | apply pw_below_drewN | apply below_drew1) | exact HB.out)⟩⟩
              · rw [if_neg c19] at H
                have c19b0 : (t240 == t243) = false := beq_eq_false_iff_ne.mpr c19
                have c19b1 : (t240 != t243) = true := bne_iff_ne.mpr c19
                have H' := Aside0.mk H
                clear H
                go_wp2
                go_meet
                case rel => exact ⟨_, (true), (by first | rfl | (simp; done) | (simp [*]; done)), H', ⟨by have := HJ7.out; first | omega | exact Nat.le_refl _⟩, ⟨by repeat (first | (with_reducible first | exact HB.out | apply below_alloc | apply pw_below_drewN | apply below_drew1) | exact HB.out)⟩⟩
            · rw [if_neg c18] at H
              have c18b0 : (t239 == t242) = false := beq_eq_false_iff_ne.mpr c18
              have c18b1 : (t239 != t242) = true := bne_iff_ne.mpr c18
              (first | rw [c18b0] | (simp only [i64_w, i32_w]; rw [c18b0]) | skip)
              have H' := Aside0.mk H
              clear H
              go_wp2
              go_meet
              case rel => exact ⟨_, (true), (by first | rfl | (simp; done) | (simp [*]; done)), H', ⟨by have := HJ7.out; first | omega | exact Nat.le_refl _⟩, ⟨by repeat (first | (with_reducible first | exact HB.out | apply below_alloc | apply pw_below_drewN | apply below_drew1) | exact HB.out)⟩⟩
          case rest =>
            clear HC16
            try clear c1
            try clear c2
            try clear p2
            try clear c5
            try clear c7
            try clear c8
            try clear c11
            try clear c11b0
            try clear c11b1
            try clear c12
            try clear c12b0
            try clear c12b1
            try clear c13
            try clear c18
            try clear c18b0
            try clear c18b1
            try clear c19
            try clear c19b0
            try clear c19b1
            try clear p2
            obtain ⟨kq, x72_15, rfl, HA, HJ15, HB⟩ := hcut
            cases kq with
            | zero => exact absurd HA.out (by simp [thistlelaw01_UtfPlays.j1])
            | succ kj15 =>
              have H := HA.out
              clear HA
              simp only [thistlelaw01_UtfPlays.j1] at H
              by_cases c20 : x72_15 = true
              · subst c20
                have H1 : (some false) = some r := by rw [if_pos rfl] at H; exact H
                clear H
                have H := H1
                clear H1
                obtain rfl := Option.some.inj H
                go_wp2
                go_ret
                exact ⟨by first | rfl | (simp [errW_none, errW_some] <;> rfl) | (simp [*, errW_none, errW_some] <;> rfl), by repeat (first | (with_reducible first | exact HB.out | apply below_alloc | apply pw_below_drewN | apply below_drew1) | exact HB.out)⟩
              · replace c20 := Bool.eq_false_iff.mpr c20
                subst c20
                have H1 : ((utf_Units.f a0).bind fun t245 => ((thistleref01_Units.f kj15 a0).bind fun t248 => ((thistlelaw01_same.f kj15 t245 t248).bind fun t251 => (if t251 = true then ((utf_Places.f a0).bind fun t252 => ((thistleref01_Places.f kj15 a0).bind fun t255 => ((thistlelaw01_sameNums.f kj15 t252 t255).bind fun t258 => (if t258 = true then ((utf_Border.f kj15 a0 a1).bind fun t259 => ((thistleref01_Border.f kj15 a0 a1).bind fun t260 => (thistlelaw01_UtfPlays.j2 kj15 a0 l2 (t259 != t260)))) else (thistlelaw01_UtfPlays.j2 kj15 a0 l2 true))))) else (thistlelaw01_UtfPlays.j2 kj15 a0 l2 true))))) = some r := by rw [if_neg (show ¬ (false = true) by decide)] at H; exact H
                clear H
                have H := H1
                clear H1
                have HC21 := Aside0.mk H
                clear H
                go_upto_region 11 with (fail)
                go_cut [95] (fun v95 wc => ∃ (kq : Nat) (x95_20 : Bool), v95 = .bool x95_20 ∧ Aside0 (thistlelaw01_UtfPlays.j2 kq a0 l2 x95_20 = some r) ∧ Aside0 (kq ≤ kj15) ∧ Aside0 (Below w.heap.size w wc))
                case first =>
                  have H := HC21.out
                  clear HC21
                  replace H := Option.bind_eq_some_iff.mp H
                  obtain ⟨t245, A220, H⟩ := H
                  replace H : ((thistleref01_Units.f kj15 a0).bind fun t248 => ((thistlelaw01_same.f kj15 t245 t248).bind fun t251 => (if t251 = true then ((utf_Places.f a0).bind fun t252 => ((thistleref01_Places.f kj15 a0).bind fun t255 => ((thistlelaw01_sameNums.f kj15 t252 t255).bind fun t258 => (if t258 = true then ((utf_Border.f kj15 a0 a1).bind fun t259 => ((thistleref01_Border.f kj15 a0 a1).bind fun t260 => (thistlelaw01_UtfPlays.j2 kj15 a0 l2 (t259 != t260)))) else (thistlelaw01_UtfPlays.j2 kj15 a0 l2 true))))) else (thistlelaw01_UtfPlays.j2 kj15 a0 l2 true)))) = some r := H
                  have A22 := Aside0.mk A220
                  clear A220
                  replace H := Option.bind_eq_some_iff.mp H
                  obtain ⟨t248, A230, H⟩ := H
                  replace H : ((thistlelaw01_same.f kj15 t245 t248).bind fun t251 => (if t251 = true then ((utf_Places.f a0).bind fun t252 => ((thistleref01_Places.f kj15 a0).bind fun t255 => ((thistlelaw01_sameNums.f kj15 t252 t255).bind fun t258 => (if t258 = true then ((utf_Border.f kj15 a0 a1).bind fun t259 => ((thistleref01_Border.f kj15 a0 a1).bind fun t260 => (thistlelaw01_UtfPlays.j2 kj15 a0 l2 (t259 != t260)))) else (thistlelaw01_UtfPlays.j2 kj15 a0 l2 true))))) else (thistlelaw01_UtfPlays.j2 kj15 a0 l2 true))) = some r := H
                  have A23 := Aside0.mk A230
                  clear A230
                  replace H := Option.bind_eq_some_iff.mp H
                  obtain ⟨t251, A240, H⟩ := H
                  replace H : (if t251 = true then ((utf_Places.f a0).bind fun t252 => ((thistleref01_Places.f kj15 a0).bind fun t255 => ((thistlelaw01_sameNums.f kj15 t252 t255).bind fun t258 => (if t258 = true then ((utf_Border.f kj15 a0 a1).bind fun t259 => ((thistleref01_Border.f kj15 a0 a1).bind fun t260 => (thistlelaw01_UtfPlays.j2 kj15 a0 l2 (t259 != t260)))) else (thistlelaw01_UtfPlays.j2 kj15 a0 l2 true))))) else (thistlelaw01_UtfPlays.j2 kj15 a0 l2 true)) = some r := H
                  have A24 := Aside0.mk A240
                  clear A240
                  by_cases c25 : t251 = true
                  · subst c25
                    have H1 : ((utf_Places.f a0).bind fun t252 => ((thistleref01_Places.f kj15 a0).bind fun t255 => ((thistlelaw01_sameNums.f kj15 t252 t255).bind fun t258 => (if t258 = true then ((utf_Border.f kj15 a0 a1).bind fun t259 => ((thistleref01_Border.f kj15 a0 a1).bind fun t260 => (thistlelaw01_UtfPlays.j2 kj15 a0 l2 (t259 != t260)))) else (thistlelaw01_UtfPlays.j2 kj15 a0 l2 true))))) = some r := by rw [if_pos rfl] at H; exact H
                    clear H
                    have H := H1
                    clear H1
                    replace H := Option.bind_eq_some_iff.mp H
                    obtain ⟨t252, A260, H⟩ := H
                    replace H : ((thistleref01_Places.f kj15 a0).bind fun t255 => ((thistlelaw01_sameNums.f kj15 t252 t255).bind fun t258 => (if t258 = true then ((utf_Border.f kj15 a0 a1).bind fun t259 => ((thistleref01_Border.f kj15 a0 a1).bind fun t260 => (thistlelaw01_UtfPlays.j2 kj15 a0 l2 (t259 != t260)))) else (thistlelaw01_UtfPlays.j2 kj15 a0 l2 true)))) = some r := H
                    have A26 := Aside0.mk A260
                    clear A260
                    replace H := Option.bind_eq_some_iff.mp H
                    obtain ⟨t255, A270, H⟩ := H
                    replace H : ((thistlelaw01_sameNums.f kj15 t252 t255).bind fun t258 => (if t258 = true then ((utf_Border.f kj15 a0 a1).bind fun t259 => ((thistleref01_Border.f kj15 a0 a1).bind fun t260 => (thistlelaw01_UtfPlays.j2 kj15 a0 l2 (t259 != t260)))) else (thistlelaw01_UtfPlays.j2 kj15 a0 l2 true))) = some r := H
                    have A27 := Aside0.mk A270
                    clear A270
                    replace H := Option.bind_eq_some_iff.mp H
                    obtain ⟨t258, A280, H⟩ := H
                    replace H : (if t258 = true then ((utf_Border.f kj15 a0 a1).bind fun t259 => ((thistleref01_Border.f kj15 a0 a1).bind fun t260 => (thistlelaw01_UtfPlays.j2 kj15 a0 l2 (t259 != t260)))) else (thistlelaw01_UtfPlays.j2 kj15 a0 l2 true)) = some r := H
                    have A28 := Aside0.mk A280
                    clear A280
                    by_cases c29 : t258 = true
                    · subst c29
                      have H1 : ((utf_Border.f kj15 a0 a1).bind fun t259 => ((thistleref01_Border.f kj15 a0 a1).bind fun t260 => (thistlelaw01_UtfPlays.j2 kj15 a0 l2 (t259 != t260)))) = some r := by rw [if_pos rfl] at H; exact H
                      clear H
                      have H := H1
                      clear H1
                      replace H := Option.bind_eq_some_iff.mp H
                      obtain ⟨t259, A300, H⟩ := H
                      replace H : ((thistleref01_Border.f kj15 a0 a1).bind fun t260 => (thistlelaw01_UtfPlays.j2 kj15 a0 l2 (t259 != t260))) = some r := H
                      have A30 := Aside0.mk A300
                      clear A300
                      replace H := Option.bind_eq_some_iff.mp H
                      obtain ⟨t260, A310, H⟩ := H
                      replace H : (thistlelaw01_UtfPlays.j2 kj15 a0 l2 (t259 != t260)) = some r := H
                      have A31 := Aside0.mk A310
                      clear A310
                      have H' := Aside0.mk H
                      clear H
                      go_wp2_with (first | ((with_reducible refine gate_callee (f := 12) rfl ?_); refine goesL_ (some 74) rfl rfl Tryd.func12 (by kernel_rfl) rfl #[.string a0] rfl (by (try simp only [List.map_toArray, List.map_cons, List.map_nil]); first | done | rfl | (simp only [List.length_drop, List.length_take]; rfl)) ?_; (with_reducible refine (utf_Units.calls a0 t245 _ A22.out).mono ?_); rintro e w32 ⟨v246, rfl, ho0, hb⟩; refine ⟨_, rfl, ?_⟩; have n0_ := Aside0.mk (Kd.R_lower ho0 (below_size (by repeat (first | (with_reducible first | exact HB.out | apply below_alloc | apply pw_below_drewN | apply below_drew1) | exact HB.out)))); have n1_ := Aside0.mk (below_step (by repeat (first | (with_reducible first | exact HB.out | apply below_alloc | apply pw_below_drewN | apply below_drew1) | exact HB.out)) hb); clear HB; have HO247 := n0_; have HB := n1_; clear n0_ n1_; (try clear hb); (try clear hb2); (try clear hk); (try clear hi); (try clear ho0)) | ((with_reducible refine gate_callee (f := 28) rfl ?_); refine goesL_ (some 76) rfl rfl Tryd.func28 (by kernel_rfl) rfl #[.string a0] rfl (by (try simp only [List.map_toArray, List.map_cons, List.map_nil]); first | done | rfl | (simp only [List.length_drop, List.length_take]; rfl)) ?_; (with_reducible refine (thistleref01_Units.calls kj15 a0 t248 _ A23.out).mono ?_); rintro e w33 ⟨v249, rfl, ho0, hb⟩; refine ⟨_, rfl, ?_⟩; have n0_ := Aside0.mk (Kd.R_elder' (by (with_reducible repeat (first | apply Kd.R_alloc | apply Kd.R_drewN | apply Kd.R_drew)); exact HO247.out) (Kd.R_base ho0) hb); have n1_ := Aside0.mk (Kd.R_lower (Kd.R_new' ho0 (Kd.R_lt (by (with_reducible repeat (first | apply Kd.R_alloc | apply Kd.R_drewN | apply Kd.R_drew)); exact HO247.out))) (below_size (by repeat (first | (with_reducible first | exact HB.out | apply below_alloc | apply pw_below_drewN | apply below_drew1) | exact HB.out)))); have n2_ := Aside0.mk (below_step (by repeat (first | (with_reducible first | exact HB.out | apply below_alloc | apply pw_below_drewN | apply below_drew1) | exact HB.out)) hb); clear HO247; clear HB; have HO247 := n0_; have HO250 := n1_; have HB := n2_; clear n0_ n1_ n2_; (try clear hb); (try clear hb2); (try clear hk); (try clear hi); (try clear ho0); obtain ⟨Ao34, co34, eo34⟩ := Kd.R_slice HO247.out; subst eo34; obtain ⟨Ao35, co35, eo35⟩ := Kd.R_slice HO250.out; subst eo35) | ((with_reducible refine gate_callee (f := 17) rfl ?_); refine goesL_ (some 77) rfl rfl Tryd.func17 (by kernel_rfl) rfl #[.slice Ao34 t245.length co34, .slice Ao35 t248.length co35] rfl (by (try simp only [List.map_toArray, List.map_cons, List.map_nil]); first | done | rfl | (simp only [List.length_drop, List.length_take]; rfl)) ?_; (with_reducible refine (thistlelaw01_same.calls kj15 _ _ t245 _ _ t248 true _ ?side1 ?side2 ?side3 ?side4 A24.out).mono ?_); (case side1 => repeat (first | exact (Kd.R_reads' HO247.out).2.2 | (with_reducible refine Kd.C_alloc ?_ _) | (with_reducible refine Kd.C_drewN ?_ _) | (with_reducible refine Kd.C_drew ?_))); (case side2 => exact (Kd.R_reads' HO247.out).2.1); (case side3 => repeat (first | exact (Kd.R_reads' HO250.out).2.2 | (with_reducible refine Kd.C_alloc ?_ _) | (with_reducible refine Kd.C_drewN ?_ _) | (with_reducible refine Kd.C_drew ?_))); (case side4 => exact (Kd.R_reads' HO250.out).2.1); rintro e w' ⟨rfl, ⟨nd, rfl⟩⟩; refine ⟨_, rfl, ?_⟩) | (go_at_call 13; (with_reducible refine (utf_Places.calls a0 t252 _ A26.out).mono ?_); rintro e w36 ⟨v253, rfl, ho0, hb⟩; have n0_ := Aside0.mk (Kd.R_below (by (with_reducible repeat (first | apply Kd.R_alloc | apply Kd.R_drewN | apply Kd.R_drew)); exact HO247.out) hb); have n1_ := Aside0.mk (Kd.R_below (by (with_reducible repeat (first | apply Kd.R_alloc | apply Kd.R_drewN | apply Kd.R_drew)); exact HO250.out) hb); have n2_ := Aside0.mk (Kd.R_lower ho0 (below_size (by repeat (first | (with_reducible first | exact HB.out | apply below_alloc | apply pw_below_drewN | apply below_drew1) | exact HB.out)))); have n3_ := Aside0.mk (below_step (by repeat (first | (with_reducible first | exact HB.out | apply below_alloc | apply pw_below_drewN | apply below_drew1) | exact HB.out)) hb); clear HO247; clear HO250; clear HB; have HO247 := n0_; have HO250 := n1_; have HO254 := n2_; have HB := n3_; clear n0_ n1_ n2_ n3_; (try clear hb); (try clear hb2); (try clear hk); (try clear hi); (try clear ho0)) | (go_at_call 30; (with_reducible refine (thistleref01_Places.calls kj15 a0 t255 _ A27.out).mono ?_); rintro e w37 ⟨v256, rfl, ho0, hb⟩; have n0_ := Aside0.mk (Kd.R_below (by (with_reducible repeat (first | apply Kd.R_alloc | apply Kd.R_drewN | apply Kd.R_drew)); exact HO247.out) hb); have n1_ := Aside0.mk (Kd.R_below (by (with_reducible repeat (first | apply Kd.R_alloc | apply Kd.R_drewN | apply Kd.R_drew)); exact HO250.out) hb); have n2_ := Aside0.mk (Kd.R_elder' (by (with_reducible repeat (first | apply Kd.R_alloc | apply Kd.R_drewN | apply Kd.R_drew)); exact HO254.out) (Kd.R_base ho0) hb); have n3_ := Aside0.mk (Kd.R_lower (Kd.R_new' ho0 (Kd.R_lt (by (with_reducible repeat (first | apply Kd.R_alloc | apply Kd.R_drewN | apply Kd.R_drew)); exact HO254.out))) (below_size (by repeat (first | (with_reducible first | exact HB.out | apply below_alloc | apply pw_below_drewN | apply below_drew1) | exact HB.out)))); have n4_ := Aside0.mk (below_step (by repeat (first | (with_reducible first | exact HB.out | apply below_alloc | apply pw_below_drewN | apply below_drew1) | exact HB.out)) hb); clear HO247; clear HO250; clear HO254; clear HB; have HO247 := n0_; have HO250 := n1_; have HO254 := n2_; have HO257 := n3_; have HB := n4_; clear n0_ n1_ n2_ n3_ n4_; (try clear hb); (try clear hb2); (try clear hk); (try clear hi); (try clear ho0); obtain ⟨Ao38, co38, eo38⟩ := Kd.R_slice HO254.out; subst eo38; obtain ⟨Ao39, co39, eo39⟩ := Kd.R_slice HO257.out; subst eo39) | (go_at_call 29; (with_reducible refine (thistlelaw01_sameNums.calls kj15 _ _ t252 _ _ t255 true _ ?side1 ?side2 ?side3 ?side4 A28.out).mono ?_); (case side1 => repeat (first | exact (Kd.R_reads' HO254.out).2.2 | (with_reducible refine Kd.C_alloc ?_ _) | (with_reducible refine Kd.C_drewN ?_ _) | (with_reducible refine Kd.C_drew ?_))); (case side2 => exact (Kd.R_reads' HO254.out).2.1); (case side3 => repeat (first | exact (Kd.R_reads' HO257.out).2.2 | (with_reducible refine Kd.C_alloc ?_ _) | (with_reducible refine Kd.C_drewN ?_ _) | (with_reducible refine Kd.C_drew ?_))); (case side4 => exact (Kd.R_reads' HO257.out).2.1); rintro e w' ⟨rfl, ⟨nd, rfl⟩⟩) | (go_at_call 15; (with_reducible refine (utf_Border.calls kj15 a0 a1 t259 _ ?side1 A30.out).mono ?_); (case side1 => first | exact hG | exact Glob.of_below hG (by repeat (first | (with_reducible first | exact HB.out | apply below_alloc | apply pw_below_drewN | apply below_drew1) | exact HB.out)) | exact Glob.of_below hG HB.out | exact Glob.drewN hG _ | exact Glob.drew hG | (with_reducible repeat (first | exact hG | apply Glob.drewN | apply Glob.drew | apply Glob.alloc))); rintro e w40 ⟨rfl, hb⟩; have n0_ := Aside0.mk (Kd.R_below (by (with_reducible repeat (first | apply Kd.R_alloc | apply Kd.R_drewN | apply Kd.R_drew)); exact HO247.out) hb); have n1_ := Aside0.mk (Kd.R_below (by (with_reducible repeat (first | apply Kd.R_alloc | apply Kd.R_drewN | apply Kd.R_drew)); exact HO250.out) hb); have n2_ := Aside0.mk (Kd.R_below (by (with_reducible repeat (first | apply Kd.R_alloc | apply Kd.R_drewN | apply Kd.R_drew)); exact HO254.out) hb); have n3_ := Aside0.mk (Kd.R_below (by (with_reducible repeat (first | apply Kd.R_alloc | apply Kd.R_drewN | apply Kd.R_drew)); exact HO257.out) hb); have n4_ := Aside0.mk (below_step (by repeat (first | (with_reducible first | exact HB.out | apply below_alloc | apply pw_below_drewN | apply below_drew1) | exact HB.out)) hb); clear HO247; clear HO250; clear HO254; clear HO257; clear HB; have HO247 := n0_; have HO250 := n1_; have HO254 := n2_; have HO257 := n3_; have HB := n4_; clear n0_ n1_ n2_ n3_ n4_; (try clear hb); (try clear hb2); (try clear hk); (try clear hi)) | (go_at_call 31; (with_reducible refine (thistleref01_Border.calls kj15 a0 a1 t260 _ A31.out).mono ?_); rintro e w' ⟨rfl, ⟨nd, rfl⟩⟩))
                      go_meet
                      case rel => exact ⟨_, ((t259 != t260)), (by first | rfl | (simp; done) | (simp [*]; done)), H', ⟨by have := HJ7.out; have := HJ15.out; first | omega | exact Nat.le_refl _⟩, ⟨by repeat (first | (with_reducible first | exact HB.out | apply below_alloc | apply pw_below_drewN | apply below_drew1) | exact HB.out)⟩⟩
                    · replace c29 := Bool.eq_false_iff.mpr c29
                      subst c29
                      have H1 : (thistlelaw01_UtfPlays.j2 kj15 a0 l2 true) = some r := by rw [if_neg (show ¬ (false = true) by decide)] at H; exact H
                      clear H
                      have H := H1
                      clear H1
                      have H' := Aside0.mk H
                      clear H
                      go_wp2_with (first | ((with_reducible refine gate_callee (f := 12) rfl ?_); refine goesL_ (some 74) rfl rfl Tryd.func12 (by kernel_rfl) rfl #[.string a0] rfl (by (try simp only [List.map_toArray, List.map_cons, List.map_nil]); first | done | rfl | (simp only [List.length_drop, List.length_take]; rfl)) ?_; (with_reducible refine (utf_Units.calls a0 t245 _ A22.out).mono ?_); rintro e w41 ⟨v246, rfl, ho0, hb⟩; refine ⟨_, rfl, ?_⟩; have n0_ := Aside0.mk (Kd.R_lower ho0 (below_size (by repeat (first | (with_reducible first | exact HB.out | apply below_alloc | apply pw_below_drewN | apply below_drew1) | exact HB.out)))); have n1_ := Aside0.mk (below_step (by repeat (first | (with_reducible first | exact HB.out | apply below_alloc | apply pw_below_drewN | apply below_drew1) | exact HB.out)) hb); clear HB; have HO247 := n0_; have HB := n1_; clear n0_ n1_; (try clear hb); (try clear hb2); (try clear hk); (try clear hi); (try clear ho0)) | ((with_reducible refine gate_callee (f := 28) rfl ?_); refine goesL_ (some 76) rfl rfl Tryd.func28 (by kernel_rfl) rfl #[.string a0] rfl (by (try simp only [List.map_toArray, List.map_cons, List.map_nil]); first | done | rfl | (simp only [List.length_drop, List.length_take]; rfl)) ?_; (with_reducible refine (thistleref01_Units.calls kj15 a0 t248 _ A23.out).mono ?_); rintro e w42 ⟨v249, rfl, ho0, hb⟩; refine ⟨_, rfl, ?_⟩; have n0_ := Aside0.mk (Kd.R_elder' (by (with_reducible repeat (first | apply Kd.R_alloc | apply Kd.R_drewN | apply Kd.R_drew)); exact HO247.out) (Kd.R_base ho0) hb); have n1_ := Aside0.mk (Kd.R_lower (Kd.R_new' ho0 (Kd.R_lt (by (with_reducible repeat (first | apply Kd.R_alloc | apply Kd.R_drewN | apply Kd.R_drew)); exact HO247.out))) (below_size (by repeat (first | (with_reducible first | exact HB.out | apply below_alloc | apply pw_below_drewN | apply below_drew1) | exact HB.out)))); have n2_ := Aside0.mk (below_step (by repeat (first | (with_reducible first | exact HB.out | apply below_alloc | apply pw_below_drewN | apply below_drew1) | exact HB.out)) hb); clear HO247; clear HB; have HO247 := n0_; have HO250 := n1_; have HB := n2_; clear n0_ n1_ n2_; (try clear hb); (try clear hb2); (try clear hk); (try clear hi); (try clear ho0); obtain ⟨Ao43, co43, eo43⟩ := Kd.R_slice HO247.out; subst eo43; obtain ⟨Ao44, co44, eo44⟩ := Kd.R_slice HO250.out; subst eo44) | ((with_reducible refine gate_callee (f := 17) rfl ?_); refine goesL_ (some 77) rfl rfl Tryd.func17 (by kernel_rfl) rfl #[.slice Ao43 t245.length co43, .slice Ao44 t248.length co44] rfl (by (try simp only [List.map_toArray, List.map_cons, List.map_nil]); first | done | rfl | (simp only [List.length_drop, List.length_take]; rfl)) ?_; (with_reducible refine (thistlelaw01_same.calls kj15 _ _ t245 _ _ t248 true _ ?side1 ?side2 ?side3 ?side4 A24.out).mono ?_); (case side1 => repeat (first | exact (Kd.R_reads' HO247.out).2.2 | (with_reducible refine Kd.C_alloc ?_ _) | (with_reducible refine Kd.C_drewN ?_ _) | (with_reducible refine Kd.C_drew ?_))); (case side2 => exact (Kd.R_reads' HO247.out).2.1); (case side3 => repeat (first | exact (Kd.R_reads' HO250.out).2.2 | (with_reducible refine Kd.C_alloc ?_ _) | (with_reducible refine Kd.C_drewN ?_ _) | (with_reducible refine Kd.C_drew ?_))); (case side4 => exact (Kd.R_reads' HO250.out).2.1); rintro e w' ⟨rfl, ⟨nd, rfl⟩⟩; refine ⟨_, rfl, ?_⟩) | (go_at_call 13; (with_reducible refine (utf_Places.calls a0 t252 _ A26.out).mono ?_); rintro e w45 ⟨v253, rfl, ho0, hb⟩; have n0_ := Aside0.mk (Kd.R_below (by (with_reducible repeat (first | apply Kd.R_alloc | apply Kd.R_drewN | apply Kd.R_drew)); exact HO247.out) hb); have n1_ := Aside0.mk (Kd.R_below (by (with_reducible repeat (first | apply Kd.R_alloc | apply Kd.R_drewN | apply Kd.R_drew)); exact HO250.out) hb); have n2_ := Aside0.mk (Kd.R_lower ho0 (below_size (by repeat (first | (with_reducible first | exact HB.out | apply below_alloc | apply pw_below_drewN | apply below_drew1) | exact HB.out)))); have n3_ := Aside0.mk (below_step (by repeat (first | (with_reducible first | exact HB.out | apply below_alloc | apply pw_below_drewN | apply below_drew1) | exact HB.out)) hb); clear HO247; clear HO250; clear HB; have HO247 := n0_; have HO250 := n1_; have HO254 := n2_; have HB := n3_; clear n0_ n1_ n2_ n3_; (try clear hb); (try clear hb2); (try clear hk); (try clear hi); (try clear ho0)) | (go_at_call 30; (with_reducible refine (thistleref01_Places.calls kj15 a0 t255 _ A27.out).mono ?_); rintro e w46 ⟨v256, rfl, ho0, hb⟩; have n0_ := Aside0.mk (Kd.R_below (by (with_reducible repeat (first | apply Kd.R_alloc | apply Kd.R_drewN | apply Kd.R_drew)); exact HO247.out) hb); have n1_ := Aside0.mk (Kd.R_below (by (with_reducible repeat (first | apply Kd.R_alloc | apply Kd.R_drewN | apply Kd.R_drew)); exact HO250.out) hb); have n2_ := Aside0.mk (Kd.R_elder' (by (with_reducible repeat (first | apply Kd.R_alloc | apply Kd.R_drewN | apply Kd.R_drew)); exact HO254.out) (Kd.R_base ho0) hb); have n3_ := Aside0.mk (Kd.R_lower (Kd.R_new' ho0 (Kd.R_lt (by (with_reducible repeat (first | apply Kd.R_alloc | apply Kd.R_drewN | apply Kd.R_drew)); exact HO254.out))) (below_size (by repeat (first | (with_reducible first | exact HB.out | apply below_alloc | apply pw_below_drewN | apply below_drew1) | exact HB.out)))); have n4_ := Aside0.mk (below_step (by repeat (first | (with_reducible first | exact HB.out | apply below_alloc | apply pw_below_drewN | apply below_drew1) | exact HB.out)) hb); clear HO247; clear HO250; clear HO254; clear HB; have HO247 := n0_; have HO250 := n1_; have HO254 := n2_; have HO257 := n3_; have HB := n4_; clear n0_ n1_ n2_ n3_ n4_; (try clear hb); (try clear hb2); (try clear hk); (try clear hi); (try clear ho0); obtain ⟨Ao47, co47, eo47⟩ := Kd.R_slice HO254.out; subst eo47; obtain ⟨Ao48, co48, eo48⟩ := Kd.R_slice HO257.out; subst eo48) | (go_at_call 29; (with_reducible refine (thistlelaw01_sameNums.calls kj15 _ _ t252 _ _ t255 false _ ?side1 ?side2 ?side3 ?side4 A28.out).mono ?_); (case side1 => repeat (first | exact (Kd.R_reads' HO254.out).2.2 | (with_reducible refine Kd.C_alloc ?_ _) | (with_reducible refine Kd.C_drewN ?_ _) | (with_reducible refine Kd.C_drew ?_))); (case side2 => exact (Kd.R_reads' HO254.out).2.1); (case side3 => repeat (first | exact (Kd.R_reads' HO257.out).2.2 | (with_reducible refine Kd.C_alloc ?_ _) | (with_reducible refine Kd.C_drewN ?_ _) | (with_reducible refine Kd.C_drew ?_))); (case side4 => exact (Kd.R_reads' HO257.out).2.1); rintro e w' ⟨rfl, ⟨nd, rfl⟩⟩))
                      go_meet
                      case rel => exact ⟨_, (true), (by first | rfl | (simp; done) | (simp [*]; done)), H', ⟨by have := HJ7.out; have := HJ15.out; first | omega | exact Nat.le_refl _⟩, ⟨by repeat (first | (with_reducible first | exact HB.out | apply below_alloc | apply pw_below_drewN | apply below_drew1) | exact HB.out)⟩⟩
                  · replace c25 := Bool.eq_false_iff.mpr c25
                    subst c25
                    have H1 : (thistlelaw01_UtfPlays.j2 kj15 a0 l2 true) = some r := by rw [if_neg (show ¬ (false = true) by decide)] at H; exact H
                    clear H
                    have H := H1
                    clear H1
                    have H' := Aside0.mk H
                    clear H
                    go_wp2_with (first | ((with_reducible refine gate_callee (f := 12) rfl ?_); refine goesL_ (some 74) rfl rfl Tryd.func12 (by kernel_rfl) rfl #[.string a0] rfl (by (try simp only [List.map_toArray, List.map_cons, List.map_nil]); first | done | rfl | (simp only [List.length_drop, List.length_take]; rfl)) ?_; (with_reducible refine (utf_Units.calls a0 t245 _ A22.out).mono ?_); rintro e w49 ⟨v246, rfl, ho0, hb⟩; refine ⟨_, rfl, ?_⟩; have n0_ := Aside0.mk (Kd.R_lower ho0 (below_size (by repeat (first | (with_reducible first | exact HB.out | apply below_alloc | apply pw_below_drewN | apply below_drew1) | exact HB.out)))); have n1_ := Aside0.mk (below_step (by repeat (first | (with_reducible first | exact HB.out | apply below_alloc | apply pw_below_drewN | apply below_drew1) | exact HB.out)) hb); clear HB; have HO247 := n0_; have HB := n1_; clear n0_ n1_; (try clear hb); (try clear hb2); (try clear hk); (try clear hi); (try clear ho0)) | ((with_reducible refine gate_callee (f := 28) rfl ?_); refine goesL_ (some 76) rfl rfl Tryd.func28 (by kernel_rfl) rfl #[.string a0] rfl (by (try simp only [List.map_toArray, List.map_cons, List.map_nil]); first | done | rfl | (simp only [List.length_drop, List.length_take]; rfl)) ?_; (with_reducible refine (thistleref01_Units.calls kj15 a0 t248 _ A23.out).mono ?_); rintro e w50 ⟨v249, rfl, ho0, hb⟩; refine ⟨_, rfl, ?_⟩; have n0_ := Aside0.mk (Kd.R_elder' (by (with_reducible repeat (first | apply Kd.R_alloc | apply Kd.R_drewN | apply Kd.R_drew)); exact HO247.out) (Kd.R_base ho0) hb); have n1_ := Aside0.mk (Kd.R_lower (Kd.R_new' ho0 (Kd.R_lt (by (with_reducible repeat (first | apply Kd.R_alloc | apply Kd.R_drewN | apply Kd.R_drew)); exact HO247.out))) (below_size (by repeat (first | (with_reducible first | exact HB.out | apply below_alloc | apply pw_below_drewN | apply below_drew1) | exact HB.out)))); have n2_ := Aside0.mk (below_step (by repeat (first | (with_reducible first | exact HB.out | apply below_alloc | apply pw_below_drewN | apply below_drew1) | exact HB.out)) hb); clear HO247; clear HB; have HO247 := n0_; have HO250 := n1_; have HB := n2_; clear n0_ n1_ n2_; (try clear hb); (try clear hb2); (try clear hk); (try clear hi); (try clear ho0); obtain ⟨Ao51, co51, eo51⟩ := Kd.R_slice HO247.out; subst eo51; obtain ⟨Ao52, co52, eo52⟩ := Kd.R_slice HO250.out; subst eo52) | ((with_reducible refine gate_callee (f := 17) rfl ?_); refine goesL_ (some 77) rfl rfl Tryd.func17 (by kernel_rfl) rfl #[.slice Ao51 t245.length co51, .slice Ao52 t248.length co52] rfl (by (try simp only [List.map_toArray, List.map_cons, List.map_nil]); first | done | rfl | (simp only [List.length_drop, List.length_take]; rfl)) ?_; (with_reducible refine (thistlelaw01_same.calls kj15 _ _ t245 _ _ t248 false _ ?side1 ?side2 ?side3 ?side4 A24.out).mono ?_); (case side1 => repeat (first | exact (Kd.R_reads' HO247.out).2.2 | (with_reducible refine Kd.C_alloc ?_ _) | (with_reducible refine Kd.C_drewN ?_ _) | (with_reducible refine Kd.C_drew ?_))); (case side2 => exact (Kd.R_reads' HO247.out).2.1); (case side3 => repeat (first | exact (Kd.R_reads' HO250.out).2.2 | (with_reducible refine Kd.C_alloc ?_ _) | (with_reducible refine Kd.C_drewN ?_ _) | (with_reducible refine Kd.C_drew ?_))); (case side4 => exact (Kd.R_reads' HO250.out).2.1); rintro e w' ⟨rfl, ⟨nd, rfl⟩⟩; refine ⟨_, rfl, ?_⟩))
                    go_meet
                    case rel => exact ⟨_, (true), (by first | rfl | (simp; done) | (simp [*]; done)), H', ⟨by have := HJ7.out; have := HJ15.out; first | omega | exact Nat.le_refl _⟩, ⟨by repeat (first | (with_reducible first | exact HB.out | apply below_alloc | apply pw_below_drewN | apply below_drew1) | exact HB.out)⟩⟩
                case rest =>
                  clear HC21
                  try clear c1
                  try clear c2
                  try clear p2
                  try clear c5
                  try clear c7
                  try clear c8
                  try clear c11
                  try clear c11b0
                  try clear c11b1
                  try clear c12
                  try clear c12b0
                  try clear c12b1
                  try clear c13
                  try clear c17
                  try clear c18
                  try clear c18b0
                  try clear c18b1
                  try clear c19
                  try clear c19b0
                  try clear c19b1
                  try clear c20
                  try clear c21
                  try clear c22
                  try clear c25
                  try clear c26
                  try clear c27
                  try clear c28
                  try clear c29
                  try clear p2
                  obtain ⟨kq, x95_20, rfl, HA, HJ20, HB⟩ := hcut
                  cases kq with
                  | zero => exact absurd HA.out (by simp [thistlelaw01_UtfPlays.j2])
                  | succ kj20 =>
                    have H := HA.out
                    clear HA
                    simp only [thistlelaw01_UtfPlays.j2] at H
                    by_cases c53 : x95_20 = true
                    · subst c53
                      have H1 : (some false) = some r := by rw [if_pos rfl] at H; exact H
                      clear H
                      have H := H1
                      clear H1
                      obtain rfl := Option.some.inj H
                      go_wp2
                      go_ret
                      exact ⟨by first | rfl | (simp [errW_none, errW_some] <;> rfl) | (simp [*, errW_none, errW_some] <;> rfl), by repeat (first | (with_reducible first | exact HB.out | apply below_alloc | apply pw_below_drewN | apply below_drew1) | exact HB.out)⟩
                    · replace c53 := Bool.eq_false_iff.mpr c53
                      subst c53
                      have H1 : ((utf_Count.f a0).bind fun t261 => ((thistleref01_Count.f kj20 a0).bind fun t262 => (if t261 = t262 then ((utf_Valid.f a0).bind fun t263 => ((thistleref01_Valid.f kj20 a0).bind fun t264 => (if (t263 != t264) = true then (thistlelaw01_UtfPlays.j3 kj20 l2 true) else ((utf_Runes.f a0).bind fun t265 => ((thistleref01_Runes.f kj20 a0).bind fun t268 => ((thistlelaw01_same.f kj20 t265 t268).bind fun t271 => (if t271 = true then ((utf_Mend.f a0).bind fun t272 => ((thistleref01_Mend.f kj20 a0).bind fun t273 => (thistlelaw01_UtfPlays.j3 kj20 l2 (t272.toList != t273.toList)))) else (thistlelaw01_UtfPlays.j3 kj20 l2 true)))))))) else (thistlelaw01_UtfPlays.j3 kj20 l2 true)))) = some r := by rw [if_neg (show ¬ (false = true) by decide)] at H; exact H
                      clear H
                      have H := H1
                      clear H1
                      have HC54 := Aside0.mk H
                      clear H
                      go_upto_region 13 with (fail)
                      go_cut [122] (fun v122 wc => ∃ (kq : Nat) (x122_53 : Bool), v122 = .bool x122_53 ∧ Aside0 (thistlelaw01_UtfPlays.j3 kq l2 x122_53 = some r) ∧ Aside0 (kq ≤ kj20) ∧ Aside0 (Below w.heap.size w wc))
                      case first =>
                        have H := HC54.out
                        clear HC54
                        replace H := Option.bind_eq_some_iff.mp H
                        obtain ⟨t261, A550, H⟩ := H
                        replace H : ((thistleref01_Count.f kj20 a0).bind fun t262 => (if t261 = t262 then ((utf_Valid.f a0).bind fun t263 => ((thistleref01_Valid.f kj20 a0).bind fun t264 => (if (t263 != t264) = true then (thistlelaw01_UtfPlays.j3 kj20 l2 true) else ((utf_Runes.f a0).bind fun t265 => ((thistleref01_Runes.f kj20 a0).bind fun t268 => ((thistlelaw01_same.f kj20 t265 t268).bind fun t271 => (if t271 = true then ((utf_Mend.f a0).bind fun t272 => ((thistleref01_Mend.f kj20 a0).bind fun t273 => (thistlelaw01_UtfPlays.j3 kj20 l2 (t272.toList != t273.toList)))) else (thistlelaw01_UtfPlays.j3 kj20 l2 true)))))))) else (thistlelaw01_UtfPlays.j3 kj20 l2 true))) = some r := H
                        have A55 := Aside0.mk A550
                        clear A550
                        replace H := Option.bind_eq_some_iff.mp H
                        obtain ⟨t262, A560, H⟩ := H
                        replace H : (if t261 = t262 then ((utf_Valid.f a0).bind fun t263 => ((thistleref01_Valid.f kj20 a0).bind fun t264 => (if (t263 != t264) = true then (thistlelaw01_UtfPlays.j3 kj20 l2 true) else ((utf_Runes.f a0).bind fun t265 => ((thistleref01_Runes.f kj20 a0).bind fun t268 => ((thistlelaw01_same.f kj20 t265 t268).bind fun t271 => (if t271 = true then ((utf_Mend.f a0).bind fun t272 => ((thistleref01_Mend.f kj20 a0).bind fun t273 => (thistlelaw01_UtfPlays.j3 kj20 l2 (t272.toList != t273.toList)))) else (thistlelaw01_UtfPlays.j3 kj20 l2 true)))))))) else (thistlelaw01_UtfPlays.j3 kj20 l2 true)) = some r := H
                        have A56 := Aside0.mk A560
                        clear A560
                        by_cases c57 : t261 = t262
                        · rw [if_pos c57] at H
                          have c57b0 : (t261 == t262) = true := beq_iff_eq.mpr c57
                          have c57b1 : (t261 != t262) = false := bne_eq_false_iff_eq.mpr c57
                          clear c57
                          (first | rw [c57b0] | (simp only [i64_w, i32_w]; rw [c57b0]) | skip)
                          replace H := Option.bind_eq_some_iff.mp H
                          obtain ⟨t263, A580, H⟩ := H
                          replace H : ((thistleref01_Valid.f kj20 a0).bind fun t264 => (if (t263 != t264) = true then (thistlelaw01_UtfPlays.j3 kj20 l2 true) else ((utf_Runes.f a0).bind fun t265 => ((thistleref01_Runes.f kj20 a0).bind fun t268 => ((thistlelaw01_same.f kj20 t265 t268).bind fun t271 => (if t271 = true then ((utf_Mend.f a0).bind fun t272 => ((thistleref01_Mend.f kj20 a0).bind fun t273 => (thistlelaw01_UtfPlays.j3 kj20 l2 (t272.toList != t273.toList)))) else (thistlelaw01_UtfPlays.j3 kj20 l2 true))))))) = some r := H
                          have A58 := Aside0.mk A580
                          clear A580
                          replace H := Option.bind_eq_some_iff.mp H
                          obtain ⟨t264, A590, H⟩ := H
                          replace H : (if (t263 != t264) = true then (thistlelaw01_UtfPlays.j3 kj20 l2 true) else ((utf_Runes.f a0).bind fun t265 => ((thistleref01_Runes.f kj20 a0).bind fun t268 => ((thistlelaw01_same.f kj20 t265 t268).bind fun t271 => (if t271 = true then ((utf_Mend.f a0).bind fun t272 => ((thistleref01_Mend.f kj20 a0).bind fun t273 => (thistlelaw01_UtfPlays.j3 kj20 l2 (t272.toList != t273.toList)))) else (thistlelaw01_UtfPlays.j3 kj20 l2 true)))))) = some r := H
                          have A59 := Aside0.mk A590
                          clear A590
                          by_cases c60 : (t263 != t264) = true
                          · rw [if_pos c60] at H
                            have c60b0 : (t263 != t264) = true := c60
                            (try (have c60b1 : decide (t263 = t264) = false := by simpa using c60))
                            (try (have c60b2 : (t263 == t264) = false := by simpa using c60))
                            (try (have c60b3 : ¬ (t263 = t264) := by simpa using c60))
                            clear c60
                            have H' := Aside0.mk H
                            clear H
                            go_wp2_with (first | ((with_reducible refine gate_callee (f := 14) rfl ?_); refine goesL_ (some 97) rfl rfl Tryd.func14 (by kernel_rfl) rfl #[.string a0] rfl (by (try simp only [List.map_toArray, List.map_cons, List.map_nil]); first | done | rfl | (simp only [List.length_drop, List.length_take]; rfl)) ?_; (with_reducible refine (utf_Count.calls a0 t261 _ A55.out).mono ?_); rintro e w61 ⟨rfl, hb⟩; refine ⟨_, rfl, ?_⟩; have n0_ := Aside0.mk (below_step (by repeat (first | (with_reducible first | exact HB.out | apply below_alloc | apply pw_below_drewN | apply below_drew1) | exact HB.out)) hb); clear HB; have HB := n0_; clear n0_; (try clear hb); (try clear hb2); (try clear hk); (try clear hi)) | ((with_reducible refine gate_callee (f := 32) rfl ?_); refine goesL_ (some 99) rfl rfl Tryd.func32 (by kernel_rfl) rfl #[.string a0] rfl (by (try simp only [List.map_toArray, List.map_cons, List.map_nil]); first | done | rfl | (simp only [List.length_drop, List.length_take]; rfl)) ?_; (with_reducible refine (thistleref01_Count.calls kj20 a0 t262 _ A56.out).mono ?_); rintro e w62 ⟨rfl, hb⟩; refine ⟨_, rfl, ?_⟩; have n0_ := Aside0.mk (below_step (by repeat (first | (with_reducible first | exact HB.out | apply below_alloc | apply pw_below_drewN | apply below_drew1) | exact HB.out)) hb); clear HB; have HB := n0_; clear n0_; (try clear hb); (try clear hb2); (try clear hk); (try clear hi)) | (go_at_call 16; (with_reducible refine (utf_Valid.calls a0 t263 _ ?side1 A58.out).mono ?_); (case side1 => first | exact hG | exact Glob.of_below hG (by repeat (first | (with_reducible first | exact HB.out | apply below_alloc | apply pw_below_drewN | apply below_drew1) | exact HB.out)) | exact Glob.of_below hG HB.out | exact Glob.drewN hG _ | exact Glob.drew hG | (with_reducible repeat (first | exact hG | apply Glob.drewN | apply Glob.drew | apply Glob.alloc))); rintro e w63 ⟨rfl, hb⟩; have n0_ := Aside0.mk (below_step (by repeat (first | (with_reducible first | exact HB.out | apply below_alloc | apply pw_below_drewN | apply below_drew1) | exact HB.out)) hb); clear HB; have HB := n0_; clear n0_; (try clear hb); (try clear hb2); (try clear hk); (try clear hi)) | (go_at_call 33; (with_reducible refine (thistleref01_Valid.calls kj20 a0 t264 _ A59.out).mono ?_); rintro e w64 ⟨rfl, hb⟩; have n0_ := Aside0.mk (below_step (by repeat (first | (with_reducible first | exact HB.out | apply below_alloc | apply pw_below_drewN | apply below_drew1) | exact HB.out)) hb); clear HB; have HB := n0_; clear n0_; (try clear hb); (try clear hb2); (try clear hk); (try clear hi)))
                            go_meet
                            case rel => exact ⟨_, (true), (by first | rfl | (simp; done) | (simp [*]; done)), H', ⟨by have := HJ7.out; have := HJ15.out; have := HJ20.out; first | omega | exact Nat.le_refl _⟩, ⟨by repeat (first | (with_reducible first | exact HB.out | apply below_alloc | apply pw_below_drewN | apply below_drew1) | exact HB.out)⟩⟩
                          · rw [if_neg c60] at H
                            have c60b0 : (t263 != t264) = false := by simpa using c60
                            (try (have c60b1 : decide (t263 = t264) = true := by simpa using c60))
                            (try (have c60b2 : (t263 == t264) = true := by simpa using c60))
                            clear c60
                            replace H := Option.bind_eq_some_iff.mp H
                            obtain ⟨t265, A650, H⟩ := H
                            replace H : ((thistleref01_Runes.f kj20 a0).bind fun t268 => ((thistlelaw01_same.f kj20 t265 t268).bind fun t271 => (if t271 = true then ((utf_Mend.f a0).bind fun t272 => ((thistleref01_Mend.f kj20 a0).bind fun t273 => (thistlelaw01_UtfPlays.j3 kj20 l2 (t272.toList != t273.toList)))) else (thistlelaw01_UtfPlays.j3 kj20 l2 true)))) = some r := H
                            have A65 := Aside0.mk A650
                            clear A650
                            replace H := Option.bind_eq_some_iff.mp H
                            obtain ⟨t268, A660, H⟩ := H
                            replace H : ((thistlelaw01_same.f kj20 t265 t268).bind fun t271 => (if t271 = true then ((utf_Mend.f a0).bind fun t272 => ((thistleref01_Mend.f kj20 a0).bind fun t273 => (thistlelaw01_UtfPlays.j3 kj20 l2 (t272.toList != t273.toList)))) else (thistlelaw01_UtfPlays.j3 kj20 l2 true))) = some r := H
                            have A66 := Aside0.mk A660
                            clear A660
                            replace H := Option.bind_eq_some_iff.mp H
                            obtain ⟨t271, A670, H⟩ := H
                            replace H : (if t271 = true then ((utf_Mend.f a0).bind fun t272 => ((thistleref01_Mend.f kj20 a0).bind fun t273 => (thistlelaw01_UtfPlays.j3 kj20 l2 (t272.toList != t273.toList)))) else (thistlelaw01_UtfPlays.j3 kj20 l2 true)) = some r := H
                            have A67 := Aside0.mk A670
                            clear A670
                            by_cases c68 : t271 = true
                            · subst c68
                              have H1 : ((utf_Mend.f a0).bind fun t272 => ((thistleref01_Mend.f kj20 a0).bind fun t273 => (thistlelaw01_UtfPlays.j3 kj20 l2 (t272.toList != t273.toList)))) = some r := by rw [if_pos rfl] at H; exact H
                              clear H
                              have H := H1
                              clear H1
                              replace H := Option.bind_eq_some_iff.mp H
                              obtain ⟨t272, A690, H⟩ := H
                              replace H : ((thistleref01_Mend.f kj20 a0).bind fun t273 => (thistlelaw01_UtfPlays.j3 kj20 l2 (t272.toList != t273.toList))) = some r := H
                              have A69 := Aside0.mk A690
                              clear A690
                              replace H := Option.bind_eq_some_iff.mp H
                              obtain ⟨t273, A700, H⟩ := H
                              replace H : (thistlelaw01_UtfPlays.j3 kj20 l2 (t272.toList != t273.toList)) = some r := H
                              have A70 := Aside0.mk A700
                              clear A700
                              have H' := Aside0.mk H
                              clear H
                              go_wp2_with (first | ((with_reducible refine gate_callee (f := 14) rfl ?_); refine goesL_ (some 97) rfl rfl Tryd.func14 (by kernel_rfl) rfl #[.string a0] rfl (by (try simp only [List.map_toArray, List.map_cons, List.map_nil]); first | done | rfl | (simp only [List.length_drop, List.length_take]; rfl)) ?_; (with_reducible refine (utf_Count.calls a0 t261 _ A55.out).mono ?_); rintro e w71 ⟨rfl, hb⟩; refine ⟨_, rfl, ?_⟩; have n0_ := Aside0.mk (below_step (by repeat (first | (with_reducible first | exact HB.out | apply below_alloc | apply pw_below_drewN | apply below_drew1) | exact HB.out)) hb); clear HB; have HB := n0_; clear n0_; (try clear hb); (try clear hb2); (try clear hk); (try clear hi)) | ((with_reducible refine gate_callee (f := 32) rfl ?_); refine goesL_ (some 99) rfl rfl Tryd.func32 (by kernel_rfl) rfl #[.string a0] rfl (by (try simp only [List.map_toArray, List.map_cons, List.map_nil]); first | done | rfl | (simp only [List.length_drop, List.length_take]; rfl)) ?_; (with_reducible refine (thistleref01_Count.calls kj20 a0 t262 _ A56.out).mono ?_); rintro e w72 ⟨rfl, hb⟩; refine ⟨_, rfl, ?_⟩; have n0_ := Aside0.mk (below_step (by repeat (first | (with_reducible first | exact HB.out | apply below_alloc | apply pw_below_drewN | apply below_drew1) | exact HB.out)) hb); clear HB; have HB := n0_; clear n0_; (try clear hb); (try clear hb2); (try clear hk); (try clear hi)) | (go_at_call 16; (with_reducible refine (utf_Valid.calls a0 t263 _ ?side1 A58.out).mono ?_); (case side1 => first | exact hG | exact Glob.of_below hG (by repeat (first | (with_reducible first | exact HB.out | apply below_alloc | apply pw_below_drewN | apply below_drew1) | exact HB.out)) | exact Glob.of_below hG HB.out | exact Glob.drewN hG _ | exact Glob.drew hG | (with_reducible repeat (first | exact hG | apply Glob.drewN | apply Glob.drew | apply Glob.alloc))); rintro e w73 ⟨rfl, hb⟩; have n0_ := Aside0.mk (below_step (by repeat (first | (with_reducible first | exact HB.out | apply below_alloc | apply pw_below_drewN | apply below_drew1) | exact HB.out)) hb); clear HB; have HB := n0_; clear n0_; (try clear hb); (try clear hb2); (try clear hk); (try clear hi)) | (go_at_call 33; (with_reducible refine (thistleref01_Valid.calls kj20 a0 t264 _ A59.out).mono ?_); rintro e w74 ⟨rfl, hb⟩; have n0_ := Aside0.mk (below_step (by repeat (first | (with_reducible first | exact HB.out | apply below_alloc | apply pw_below_drewN | apply below_drew1) | exact HB.out)) hb); clear HB; have HB := n0_; clear n0_; (try clear hb); (try clear hb2); (try clear hk); (try clear hi)) | (go_at_call 18; (with_reducible refine (utf_Runes.calls a0 t265 _ A65.out).mono ?_); rintro e w75 ⟨v266, rfl, ho0, hb⟩; have n0_ := Aside0.mk (Kd.R_lower ho0 (below_size (by repeat (first | (with_reducible first | exact HB.out | apply below_alloc | apply pw_below_drewN | apply below_drew1) | exact HB.out)))); have n1_ := Aside0.mk (below_step (by repeat (first | (with_reducible first | exact HB.out | apply below_alloc | apply pw_below_drewN | apply below_drew1) | exact HB.out)) hb); clear HB; have HO267 := n0_; have HB := n1_; clear n0_ n1_; (try clear hb); (try clear hb2); (try clear hk); (try clear hi); (try clear ho0)) | (go_at_call 34; (with_reducible refine (thistleref01_Runes.calls kj20 a0 t268 _ A66.out).mono ?_); rintro e w76 ⟨v269, rfl, ho0, hb⟩; have n0_ := Aside0.mk (Kd.R_elder' (by (with_reducible repeat (first | apply Kd.R_alloc | apply Kd.R_drewN | apply Kd.R_drew)); exact HO267.out) (Kd.R_base ho0) hb); have n1_ := Aside0.mk (Kd.R_lower (Kd.R_new' ho0 (Kd.R_lt (by (with_reducible repeat (first | apply Kd.R_alloc | apply Kd.R_drewN | apply Kd.R_drew)); exact HO267.out))) (below_size (by repeat (first | (with_reducible first | exact HB.out | apply below_alloc | apply pw_below_drewN | apply below_drew1) | exact HB.out)))); have n2_ := Aside0.mk (below_step (by repeat (first | (with_reducible first | exact HB.out | apply below_alloc | apply pw_below_drewN | apply below_drew1) | exact HB.out)) hb); clear HO267; clear HB; have HO267 := n0_; have HO270 := n1_; have HB := n2_; clear n0_ n1_ n2_; (try clear hb); (try clear hb2); (try clear hk); (try clear hi); (try clear ho0); obtain ⟨Ao77, co77, eo77⟩ := Kd.R_slice HO267.out; subst eo77; obtain ⟨Ao78, co78, eo78⟩ := Kd.R_slice HO270.out; subst eo78) | (go_at_call 17; (with_reducible refine (thistlelaw01_same.calls kj20 _ _ t265 _ _ t268 true _ ?side1 ?side2 ?side3 ?side4 A67.out).mono ?_); (case side1 => repeat (first | exact (Kd.R_reads' HO267.out).2.2 | (with_reducible refine Kd.C_alloc ?_ _) | (with_reducible refine Kd.C_drewN ?_ _) | (with_reducible refine Kd.C_drew ?_))); (case side2 => exact (Kd.R_reads' HO267.out).2.1); (case side3 => repeat (first | exact (Kd.R_reads' HO270.out).2.2 | (with_reducible refine Kd.C_alloc ?_ _) | (with_reducible refine Kd.C_drewN ?_ _) | (with_reducible refine Kd.C_drew ?_))); (case side4 => exact (Kd.R_reads' HO270.out).2.1); rintro e w' ⟨rfl, ⟨nd, rfl⟩⟩) | (go_at_call 19; (with_reducible refine (utf_Mend.calls a0 t272 _ A69.out).mono ?_); rintro e w79 ⟨rfl, hb⟩; have n0_ := Aside0.mk (Kd.R_below (by (with_reducible repeat (first | apply Kd.R_alloc | apply Kd.R_drewN | apply Kd.R_drew)); exact HO267.out) hb); have n1_ := Aside0.mk (Kd.R_below (by (with_reducible repeat (first | apply Kd.R_alloc | apply Kd.R_drewN | apply Kd.R_drew)); exact HO270.out) hb); have n2_ := Aside0.mk (below_step (by repeat (first | (with_reducible first | exact HB.out | apply below_alloc | apply pw_below_drewN | apply below_drew1) | exact HB.out)) hb); clear HO267; clear HO270; clear HB; have HO267 := n0_; have HO270 := n1_; have HB := n2_; clear n0_ n1_ n2_; (try clear hb); (try clear hb2); (try clear hk); (try clear hi)) | (go_at_call 35; (with_reducible refine (thistleref01_Mend.calls kj20 a0 t273 _ A70.out).mono ?_); rintro e w80 ⟨rfl, hb⟩; have n0_ := Aside0.mk (Kd.R_below (by (with_reducible repeat (first | apply Kd.R_alloc | apply Kd.R_drewN | apply Kd.R_drew)); exact HO267.out) hb); have n1_ := Aside0.mk (Kd.R_below (by (with_reducible repeat (first | apply Kd.R_alloc | apply Kd.R_drewN | apply Kd.R_drew)); exact HO270.out) hb); have n2_ := Aside0.mk (below_step (by repeat (first | (with_reducible first | exact HB.out | apply below_alloc | apply pw_below_drewN | apply below_drew1) | exact HB.out)) hb); clear HO267; clear HO270; clear HB; have HO267 := n0_; have HO270 := n1_; have HB := n2_; clear n0_ n1_ n2_; (try clear hb); (try clear hb2); (try clear hk); (try clear hi)))
                              go_meet
                              case rel => exact ⟨_, ((t272.toList != t273.toList)), (by first | rfl | (simp; done) | (simp [*]; done)), H', ⟨by have := HJ7.out; have := HJ15.out; have := HJ20.out; first | omega | exact Nat.le_refl _⟩, ⟨by repeat (first | (with_reducible first | exact HB.out | apply below_alloc | apply pw_below_drewN | apply below_drew1) | exact HB.out)⟩⟩
                            · replace c68 := Bool.eq_false_iff.mpr c68
                              subst c68
                              have H1 : (thistlelaw01_UtfPlays.j3 kj20 l2 true) = some r := by rw [if_neg (show ¬ (false = true) by decide)] at H; exact H
                              clear H
                              have H := H1
                              clear H1
                              have H' := Aside0.mk H
                              clear H
                              go_wp2_with (first | ((with_reducible refine gate_callee (f := 14) rfl ?_); refine goesL_ (some 97) rfl rfl Tryd.func14 (by kernel_rfl) rfl #[.string a0] rfl (by (try simp only [List.map_toArray, List.map_cons, List.map_nil]); first | done | rfl | (simp only [List.length_drop, List.length_take]; rfl)) ?_; (with_reducible refine (utf_Count.calls a0 t261 _ A55.out).mono ?_); rintro e w81 ⟨rfl, hb⟩; refine ⟨_, rfl, ?_⟩; have n0_ := Aside0.mk (below_step (by repeat (first | (with_reducible first | exact HB.out | apply below_alloc | apply pw_below_drewN | apply below_drew1) | exact HB.out)) hb); clear HB; have HB := n0_; clear n0_; (try clear hb); (try clear hb2); (try clear hk); (try clear hi)) | ((with_reducible refine gate_callee (f := 32) rfl ?_); refine goesL_ (some 99) rfl rfl Tryd.func32 (by kernel_rfl) rfl #[.string a0] rfl (by (try simp only [List.map_toArray, List.map_cons, List.map_nil]); first | done | rfl | (simp only [List.length_drop, List.length_take]; rfl)) ?_; (with_reducible refine (thistleref01_Count.calls kj20 a0 t262 _ A56.out).mono ?_); rintro e w82 ⟨rfl, hb⟩; refine ⟨_, rfl, ?_⟩; have n0_ := Aside0.mk (below_step (by repeat (first | (with_reducible first | exact HB.out | apply below_alloc | apply pw_below_drewN | apply below_drew1) | exact HB.out)) hb); clear HB; have HB := n0_; clear n0_; (try clear hb); (try clear hb2); (try clear hk); (try clear hi)) | (go_at_call 16; (with_reducible refine (utf_Valid.calls a0 t263 _ ?side1 A58.out).mono ?_); (case side1 => first | exact hG | exact Glob.of_below hG (by repeat (first | (with_reducible first | exact HB.out | apply below_alloc | apply pw_below_drewN | apply below_drew1) | exact HB.out)) | exact Glob.of_below hG HB.out | exact Glob.drewN hG _ | exact Glob.drew hG | (with_reducible repeat (first | exact hG | apply Glob.drewN | apply Glob.drew | apply Glob.alloc))); rintro e w83 ⟨rfl, hb⟩; have n0_ := Aside0.mk (below_step (by repeat (first | (with_reducible first | exact HB.out | apply below_alloc | apply pw_below_drewN | apply below_drew1) | exact HB.out)) hb); clear HB; have HB := n0_; clear n0_; (try clear hb); (try clear hb2); (try clear hk); (try clear hi)) | (go_at_call 33; (with_reducible refine (thistleref01_Valid.calls kj20 a0 t264 _ A59.out).mono ?_); rintro e w84 ⟨rfl, hb⟩; have n0_ := Aside0.mk (below_step (by repeat (first | (with_reducible first | exact HB.out | apply below_alloc | apply pw_below_drewN | apply below_drew1) | exact HB.out)) hb); clear HB; have HB := n0_; clear n0_; (try clear hb); (try clear hb2); (try clear hk); (try clear hi)) | (go_at_call 18; (with_reducible refine (utf_Runes.calls a0 t265 _ A65.out).mono ?_); rintro e w85 ⟨v266, rfl, ho0, hb⟩; have n0_ := Aside0.mk (Kd.R_lower ho0 (below_size (by repeat (first | (with_reducible first | exact HB.out | apply below_alloc | apply pw_below_drewN | apply below_drew1) | exact HB.out)))); have n1_ := Aside0.mk (below_step (by repeat (first | (with_reducible first | exact HB.out | apply below_alloc | apply pw_below_drewN | apply below_drew1) | exact HB.out)) hb); clear HB; have HO267 := n0_; have HB := n1_; clear n0_ n1_; (try clear hb); (try clear hb2); (try clear hk); (try clear hi); (try clear ho0)) | (go_at_call 34; (with_reducible refine (thistleref01_Runes.calls kj20 a0 t268 _ A66.out).mono ?_); rintro e w86 ⟨v269, rfl, ho0, hb⟩; have n0_ := Aside0.mk (Kd.R_elder' (by (with_reducible repeat (first | apply Kd.R_alloc | apply Kd.R_drewN | apply Kd.R_drew)); exact HO267.out) (Kd.R_base ho0) hb); have n1_ := Aside0.mk (Kd.R_lower (Kd.R_new' ho0 (Kd.R_lt (by (with_reducible repeat (first | apply Kd.R_alloc | apply Kd.R_drewN | apply Kd.R_drew)); exact HO267.out))) (below_size (by repeat (first | (with_reducible first | exact HB.out | apply below_alloc | apply pw_below_drewN | apply below_drew1) | exact HB.out)))); have n2_ := Aside0.mk (below_step (by repeat (first | (with_reducible first | exact HB.out | apply below_alloc | apply pw_below_drewN | apply below_drew1) | exact HB.out)) hb); clear HO267; clear HB; have HO267 := n0_; have HO270 := n1_; have HB := n2_; clear n0_ n1_ n2_; (try clear hb); (try clear hb2); (try clear hk); (try clear hi); (try clear ho0); obtain ⟨Ao87, co87, eo87⟩ := Kd.R_slice HO267.out; subst eo87; obtain ⟨Ao88, co88, eo88⟩ := Kd.R_slice HO270.out; subst eo88) | (go_at_call 17; (with_reducible refine (thistlelaw01_same.calls kj20 _ _ t265 _ _ t268 false _ ?side1 ?side2 ?side3 ?side4 A67.out).mono ?_); (case side1 => repeat (first | exact (Kd.R_reads' HO267.out).2.2 | (with_reducible refine Kd.C_alloc ?_ _) | (with_reducible refine Kd.C_drewN ?_ _) | (with_reducible refine Kd.C_drew ?_))); (case side2 => exact (Kd.R_reads' HO267.out).2.1); (case side3 => repeat (first | exact (Kd.R_reads' HO270.out).2.2 | (with_reducible refine Kd.C_alloc ?_ _) | (with_reducible refine Kd.C_drewN ?_ _) | (with_reducible refine Kd.C_drew ?_))); (case side4 => exact (Kd.R_reads' HO270.out).2.1); rintro e w' ⟨rfl, ⟨nd, rfl⟩⟩))
                              go_meet
                              case rel => exact ⟨_, (true), (by first | rfl | (simp; done) | (simp [*]; done)), H', ⟨by have := HJ7.out; have := HJ15.out; have := HJ20.out; first | omega | exact Nat.le_refl _⟩, ⟨by repeat (first | (with_reducible first | exact HB.out | apply below_alloc | apply pw_below_drewN | apply below_drew1) | exact HB.out)⟩⟩
                        · rw [if_neg c57] at H
                          have c57b0 : (t261 == t262) = false := beq_eq_false_iff_ne.mpr c57
                          have c57b1 : (t261 != t262) = true := bne_iff_ne.mpr c57
                          (first | rw [c57b0] | (simp only [i64_w, i32_w]; rw [c57b0]) | skip)
                          have H' := Aside0.mk H
                          clear H
                          go_wp2_with (first | ((with_reducible refine gate_callee (f := 14) rfl ?_); refine goesL_ (some 97) rfl rfl Tryd.func14 (by kernel_rfl) rfl #[.string a0] rfl (by (try simp only [List.map_toArray, List.map_cons, List.map_nil]); first | done | rfl | (simp only [List.length_drop, List.length_take]; rfl)) ?_; (with_reducible refine (utf_Count.calls a0 t261 _ A55.out).mono ?_); rintro e w89 ⟨rfl, hb⟩; refine ⟨_, rfl, ?_⟩; have n0_ := Aside0.mk (below_step (by repeat (first | (with_reducible first | exact HB.out | apply below_alloc | apply pw_below_drewN | apply below_drew1) | exact HB.out)) hb); clear HB; have HB := n0_; clear n0_; (try clear hb); (try clear hb2); (try clear hk); (try clear hi)) | ((with_reducible refine gate_callee (f := 32) rfl ?_); refine goesL_ (some 99) rfl rfl Tryd.func32 (by kernel_rfl) rfl #[.string a0] rfl (by (try simp only [List.map_toArray, List.map_cons, List.map_nil]); first | done | rfl | (simp only [List.length_drop, List.length_take]; rfl)) ?_; (with_reducible refine (thistleref01_Count.calls kj20 a0 t262 _ A56.out).mono ?_); rintro e w90 ⟨rfl, hb⟩; refine ⟨_, rfl, ?_⟩; have n0_ := Aside0.mk (below_step (by repeat (first | (with_reducible first | exact HB.out | apply below_alloc | apply pw_below_drewN | apply below_drew1) | exact HB.out)) hb); clear HB; have HB := n0_; clear n0_; (try clear hb); (try clear hb2); (try clear hk); (try clear hi)))
                          go_meet
                          case rel => exact ⟨_, (true), (by first | rfl | (simp; done) | (simp [*]; done)), H', ⟨by have := HJ7.out; have := HJ15.out; have := HJ20.out; first | omega | exact Nat.le_refl _⟩, ⟨by repeat (first | (with_reducible first | exact HB.out | apply below_alloc | apply pw_below_drewN | apply below_drew1) | exact HB.out)⟩⟩
                      case rest =>
                        clear HC54
                        try clear c1
                        try clear c2
                        try clear p2
                        try clear c3
                        try clear c5
                        try clear c6
                        try clear c7
                        try clear c8
                        try clear c11
                        try clear c11b0
                        try clear c11b1
                        try clear c12
                        try clear c12b0
                        try clear c12b1
                        try clear c13
                        try clear c14
                        try clear c17
                        try clear c18
                        try clear c18b0
                        try clear c18b1
                        try clear c19
                        try clear c19b0
                        try clear c19b1
                        try clear c20
                        try clear c21
                        try clear c22
                        try clear c25
                        try clear c26
                        try clear c27
                        try clear c28
                        try clear c29
                        try clear c32
                        try clear c53
                        try clear c57
                        try clear c57b0
                        try clear c57b1
                        try clear c60
                        try clear c60b0
                        try clear c60b1
                        try clear c60b2
                        try clear c68
                        try clear p2
                        obtain ⟨kq, x122_53, rfl, HA, HJ53, HB⟩ := hcut
                        cases kq with
                        | zero => exact absurd HA.out (by simp [thistlelaw01_UtfPlays.j3])
                        | succ kj53 =>
                          have H := HA.out
                          clear HA
                          simp only [thistlelaw01_UtfPlays.j3] at H
                          by_cases c91 : x122_53 = true
                          · subst c91
                            have H1 : (some false) = some r := by rw [if_pos rfl] at H; exact H
                            clear H
                            have H := H1
                            clear H1
                            obtain rfl := Option.some.inj H
                            go_wp2
                            go_ret
                            exact ⟨by first | rfl | (simp [errW_none, errW_some] <;> rfl) | (simp [*, errW_none, errW_some] <;> rfl), by repeat (first | (with_reducible first | exact HB.out | apply below_alloc | apply pw_below_drewN | apply below_drew1) | exact HB.out)⟩
                          · replace c91 := Bool.eq_false_iff.mpr c91
                            subst c91
                            have H1 : ((thistlelaw01_copied.f l2).bind fun t274 => ((utf_Text.f t274).bind fun bt277 => ((thistleref01_Text.f kj53 l2).bind fun bt279 => (if bt277.1.toList = bt279.1.toList then (if bt277.2 = bt279.2 then ((thistlelaw01_copied.f l2).bind fun t281 => ((utf_Apart.f kj53 t281).bind fun t284 => ((thistleref01_Apart.f kj53 l2).bind fun t285 => (if (t284 == t285) = true then ((thistlelaw01_copied.f l2).bind fun t286 => ((utf_FromRunes.f t286).bind fun t289 => ((thistleref01_FromRunes.f kj53 l2).bind fun t290 => (some (t289.toList == t290.toList))))) else (some false))))) else (some false)) else (some false))))) = some r := by rw [if_neg (show ¬ (false = true) by decide)] at H; exact H
                            clear H
                            have H := H1
                            clear H1
                            replace H := Option.bind_eq_some_iff.mp H
                            obtain ⟨t274, A920, H⟩ := H
                            replace H : ((utf_Text.f t274).bind fun bt277 => ((thistleref01_Text.f kj53 l2).bind fun bt279 => (if bt277.1.toList = bt279.1.toList then (if bt277.2 = bt279.2 then ((thistlelaw01_copied.f l2).bind fun t281 => ((utf_Apart.f kj53 t281).bind fun t284 => ((thistleref01_Apart.f kj53 l2).bind fun t285 => (if (t284 == t285) = true then ((thistlelaw01_copied.f l2).bind fun t286 => ((utf_FromRunes.f t286).bind fun t289 => ((thistleref01_FromRunes.f kj53 l2).bind fun t290 => (some (t289.toList == t290.toList))))) else (some false))))) else (some false)) else (some false)))) = some r := H
                            have A92 := Aside0.mk A920
                            clear A920
                            replace H := Option.bind_eq_some_iff.mp H
                            obtain ⟨⟨t277, t278⟩, A930, H⟩ := H
                            replace H : ((thistleref01_Text.f kj53 l2).bind fun bt279 => (if t277.toList = bt279.1.toList then (if t278 = bt279.2 then ((thistlelaw01_copied.f l2).bind fun t281 => ((utf_Apart.f kj53 t281).bind fun t284 => ((thistleref01_Apart.f kj53 l2).bind fun t285 => (if (t284 == t285) = true then ((thistlelaw01_copied.f l2).bind fun t286 => ((utf_FromRunes.f t286).bind fun t289 => ((thistleref01_FromRunes.f kj53 l2).bind fun t290 => (some (t289.toList == t290.toList))))) else (some false))))) else (some false)) else (some false))) = some r := H
                            have A93 := Aside0.mk A930
                            clear A930
                            replace H := Option.bind_eq_some_iff.mp H
                            obtain ⟨⟨t279, t280⟩, A940, H⟩ := H
                            replace H : (if t277.toList = t279.toList then (if t278 = t280 then ((thistlelaw01_copied.f l2).bind fun t281 => ((utf_Apart.f kj53 t281).bind fun t284 => ((thistleref01_Apart.f kj53 l2).bind fun t285 => (if (t284 == t285) = true then ((thistlelaw01_copied.f l2).bind fun t286 => ((utf_FromRunes.f t286).bind fun t289 => ((thistleref01_FromRunes.f kj53 l2).bind fun t290 => (some (t289.toList == t290.toList))))) else (some false))))) else (some false)) else (some false)) = some r := H
                            have A94 := Aside0.mk A940
                            clear A940
                            by_cases c95 : t277.toList = t279.toList
                            · rw [if_pos c95] at H
                              have c95b0 : (t277.toList == t279.toList) = true := beq_iff_eq.mpr c95
                              have c95b1 : (t277.toList != t279.toList) = false := bne_eq_false_iff_eq.mpr c95
                              clear c95
                              by_cases c96 : t278 = t280
                              · rw [if_pos c96] at H
                                have c96b0 : (t278 == t280) = true := beq_iff_eq.mpr c96
                                have c96b1 : (t278 != t280) = false := bne_eq_false_iff_eq.mpr c96
                                clear c96
                                replace H := Option.bind_eq_some_iff.mp H
                                obtain ⟨t281, A970, H⟩ := H
                                replace H : ((utf_Apart.f kj53 t281).bind fun t284 => ((thistleref01_Apart.f kj53 l2).bind fun t285 => (if (t284 == t285) = true then ((thistlelaw01_copied.f l2).bind fun t286 => ((utf_FromRunes.f t286).bind fun t289 => ((thistleref01_FromRunes.f kj53 l2).bind fun t290 => (some (t289.toList == t290.toList))))) else (some false)))) = some r := H
                                have A97 := Aside0.mk A970
                                clear A970
                                replace H := Option.bind_eq_some_iff.mp H
                                obtain ⟨t284, A980, H⟩ := H
                                replace H : ((thistleref01_Apart.f kj53 l2).bind fun t285 => (if (t284 == t285) = true then ((thistlelaw01_copied.f l2).bind fun t286 => ((utf_FromRunes.f t286).bind fun t289 => ((thistleref01_FromRunes.f kj53 l2).bind fun t290 => (some (t289.toList == t290.toList))))) else (some false))) = some r := H
                                have A98 := Aside0.mk A980
                                clear A980
                                replace H := Option.bind_eq_some_iff.mp H
                                obtain ⟨t285, A990, H⟩ := H
                                replace H : (if (t284 == t285) = true then ((thistlelaw01_copied.f l2).bind fun t286 => ((utf_FromRunes.f t286).bind fun t289 => ((thistleref01_FromRunes.f kj53 l2).bind fun t290 => (some (t289.toList == t290.toList))))) else (some false)) = some r := H
                                have A99 := Aside0.mk A990
                                clear A990
                                by_cases c100 : (t284 == t285) = true
                                · rw [if_pos c100] at H
                                  have c100b0 : (t284 == t285) = true := c100
                                  (try (have c100b1 : decide (t284 = t285) = true := by simpa using c100))
                                  (try (have c100b2 : (t284 == t285) = true := by simpa using c100))
                                  clear c100
                                  replace H := Option.bind_eq_some_iff.mp H
                                  obtain ⟨t286, A1010, H⟩ := H
                                  replace H : ((utf_FromRunes.f t286).bind fun t289 => ((thistleref01_FromRunes.f kj53 l2).bind fun t290 => (some (t289.toList == t290.toList)))) = some r := H
                                  have A101 := Aside0.mk A1010
                                  clear A1010
                                  replace H := Option.bind_eq_some_iff.mp H
                                  obtain ⟨t289, A1020, H⟩ := H
                                  replace H : ((thistleref01_FromRunes.f kj53 l2).bind fun t290 => (some (t289.toList == t290.toList))) = some r := H
                                  have A102 := Aside0.mk A1020
                                  clear A1020
                                  replace H := Option.bind_eq_some_iff.mp H
                                  obtain ⟨t290, A1030, H⟩ := H
                                  replace H : (some (t289.toList == t290.toList)) = some r := H
                                  have A103 := Aside0.mk A1030
                                  clear A1030
                                  obtain rfl := Option.some.inj H
                                  have tok11_ : True := trivial
                                  have tok12_ : True := trivial
                                  have tok13_ : True := trivial
                                  go_wp2_with (first | ((with_reducible refine gate_callee (f := 25) rfl ?_); clear tok11_; refine goesL_ (some 125) rfl rfl Tryd.func25 (by kernel_rfl) rfl #[.slice A2 l2.length c2] rfl (by (try simp only [List.map_toArray, List.map_cons, List.map_nil]); first | done | rfl | (simp only [List.length_drop, List.length_take]; rfl)) ?_; (with_reducible refine (thistlelaw01_copied.calls _ _ l2 t274 _ ?side1 ?side2 A92.out).mono ?_); (case side1 => repeat (first | exact (Kd.C_below HR2.out HB.out) | (with_reducible refine Kd.C_alloc ?_ _) | (with_reducible refine Kd.C_drewN ?_ _) | (with_reducible refine Kd.C_drew ?_))); (case side2 => exact HC2.out); rintro e w104 ⟨v275, rfl, ho0, hb⟩; refine ⟨_, rfl, ?_⟩; have n0_ := Aside0.mk (Kd.R_lower ho0 (below_size (by repeat (first | (with_reducible first | exact HB.out | apply below_alloc | apply pw_below_drewN | apply below_drew1) | exact HB.out)))); have n1_ := Aside0.mk (below_step (by repeat (first | (with_reducible first | exact HB.out | apply below_alloc | apply pw_below_drewN | apply below_drew1) | exact HB.out)) hb); clear HB; have HO276 := n0_; have HB := n1_; clear n0_ n1_; (try clear hb); (try clear hb2); (try clear hk); (try clear hi); (try clear ho0); obtain ⟨Ao105, co105, eo105⟩ := Kd.R_slice HO276.out; subst eo105) | ((with_reducible refine gate_callee (f := 23) rfl ?_); refine goesL_ (some 126) rfl rfl Tryd.func23 (by kernel_rfl) rfl #[.slice Ao105 t274.length co105] rfl (by (try simp only [List.map_toArray, List.map_cons, List.map_nil]); first | done | rfl | (simp only [List.length_drop, List.length_take]; rfl)) ?_; (with_reducible refine (utf_Text.calls _ _ t274 t277 t278 _ ?side1 ?side2 A93.out).mono ?_); (case side1 => repeat (first | exact (Kd.R_reads' HO276.out).2.2 | (with_reducible refine Kd.C_alloc ?_ _) | (with_reducible refine Kd.C_drewN ?_ _) | (with_reducible refine Kd.C_drew ?_))); (case side2 => exact (Kd.R_reads' HO276.out).2.1); rintro e w106 ⟨rfl, hb⟩; refine ⟨_, rfl, ?_⟩; have n0_ := Aside0.mk (Kd.R_below (by (with_reducible repeat (first | apply Kd.R_alloc | apply Kd.R_drewN | apply Kd.R_drew)); exact HO276.out) hb); have n1_ := Aside0.mk (below_step (by repeat (first | (with_reducible first | exact HB.out | apply below_alloc | apply pw_below_drewN | apply below_drew1) | exact HB.out)) hb); clear HO276; clear HB; have HO276 := n0_; have HB := n1_; clear n0_ n1_; (try clear hb); (try clear hb2); (try clear hk); (try clear hi)) | ((with_reducible refine gate_callee (f := 36) rfl ?_); refine goesL_ (some 131) rfl rfl Tryd.func36 (by kernel_rfl) rfl #[.slice A2 l2.length c2] rfl (by (try simp only [List.map_toArray, List.map_cons, List.map_nil]); first | done | rfl | (simp only [List.length_drop, List.length_take]; rfl)) ?_; (with_reducible refine (thistleref01_Text.calls kj53 _ _ l2 t279 t280 _ ?side1 ?side2 A94.out).mono ?_); (case side1 => repeat (first | exact (Kd.C_below HR2.out HB.out) | (with_reducible refine Kd.C_alloc ?_ _) | (with_reducible refine Kd.C_drewN ?_ _) | (with_reducible refine Kd.C_drew ?_))); (case side2 => exact HC2.out); rintro e w107 ⟨rfl, hb⟩; refine ⟨_, rfl, ?_⟩; have n0_ := Aside0.mk (Kd.R_below (by (with_reducible repeat (first | apply Kd.R_alloc | apply Kd.R_drewN | apply Kd.R_drew)); exact HO276.out) hb); have n1_ := Aside0.mk (below_step (by repeat (first | (with_reducible first | exact HB.out | apply below_alloc | apply pw_below_drewN | apply below_drew1) | exact HB.out)) hb); clear HO276; clear HB; have HO276 := n0_; have HB := n1_; clear n0_ n1_; (try clear hb); (try clear hb2); (try clear hk); (try clear hi)) | (go_at_call 25; clear tok12_; (with_reducible refine (thistlelaw01_copied.calls _ _ l2 t281 _ ?side1 ?side2 A97.out).mono ?_); (case side1 => repeat (first | exact (Kd.C_below HR2.out HB.out) | (with_reducible refine Kd.C_alloc ?_ _) | (with_reducible refine Kd.C_drewN ?_ _) | (with_reducible refine Kd.C_drew ?_))); (case side2 => exact HC2.out); rintro e w108 ⟨v282, rfl, ho0, hb⟩; have n0_ := Aside0.mk (Kd.R_elder' (by (with_reducible repeat (first | apply Kd.R_alloc | apply Kd.R_drewN | apply Kd.R_drew)); exact HO276.out) (Kd.R_base ho0) hb); have n1_ := Aside0.mk (Kd.R_lower (Kd.R_new' ho0 (Kd.R_lt (by (with_reducible repeat (first | apply Kd.R_alloc | apply Kd.R_drewN | apply Kd.R_drew)); exact HO276.out))) (below_size (by repeat (first | (with_reducible first | exact HB.out | apply below_alloc | apply pw_below_drewN | apply below_drew1) | exact HB.out)))); have n2_ := Aside0.mk (below_step (by repeat (first | (with_reducible first | exact HB.out | apply below_alloc | apply pw_below_drewN | apply below_drew1) | exact HB.out)) hb); clear HO276; clear HB; have HO276 := n0_; have HO283 := n1_; have HB := n2_; clear n0_ n1_ n2_; (try clear hb); (try clear hb2); (try clear hk); (try clear hi); (try clear ho0); obtain ⟨Ao109, co109, eo109⟩ := Kd.R_slice HO283.out; subst eo109) | (go_at_call 24; (with_reducible refine (utf_Apart.calls kj53 _ _ t281 t284 _ ?side1 ?side2 A98.out).mono ?_); (case side1 => repeat (first | exact (Kd.R_reads' HO283.out).2.2 | (with_reducible refine Kd.C_alloc ?_ _) | (with_reducible refine Kd.C_drewN ?_ _) | (with_reducible refine Kd.C_drew ?_))); (case side2 => exact (Kd.R_reads' HO283.out).2.1); rintro e w110 ⟨rfl, hb⟩; have n0_ := Aside0.mk (Kd.R_below (by (with_reducible repeat (first | apply Kd.R_alloc | apply Kd.R_drewN | apply Kd.R_drew)); exact HO276.out) hb); have n1_ := Aside0.mk (Kd.R_below (by (with_reducible repeat (first | apply Kd.R_alloc | apply Kd.R_drewN | apply Kd.R_drew)); exact HO283.out) hb); have n2_ := Aside0.mk (below_step (by repeat (first | (with_reducible first | exact HB.out | apply below_alloc | apply pw_below_drewN | apply below_drew1) | exact HB.out)) hb); clear HO276; clear HO283; clear HB; have HO276 := n0_; have HO283 := n1_; have HB := n2_; clear n0_ n1_ n2_; (try clear hb); (try clear hb2); (try clear hk); (try clear hi)) | (go_at_call 37; (with_reducible refine (thistleref01_Apart.calls kj53 _ _ l2 t285 _ ?side1 ?side2 A99.out).mono ?_); (case side1 => repeat (first | exact (Kd.C_below HR2.out HB.out) | (with_reducible refine Kd.C_alloc ?_ _) | (with_reducible refine Kd.C_drewN ?_ _) | (with_reducible refine Kd.C_drew ?_))); (case side2 => exact HC2.out); rintro e w111 ⟨rfl, hb⟩; have n0_ := Aside0.mk (Kd.R_below (by (with_reducible repeat (first | apply Kd.R_alloc | apply Kd.R_drewN | apply Kd.R_drew)); exact HO276.out) hb); have n1_ := Aside0.mk (Kd.R_below (by (with_reducible repeat (first | apply Kd.R_alloc | apply Kd.R_drewN | apply Kd.R_drew)); exact HO283.out) hb); have n2_ := Aside0.mk (below_step (by repeat (first | (with_reducible first | exact HB.out | apply below_alloc | apply pw_below_drewN | apply below_drew1) | exact HB.out)) hb); clear HO276; clear HO283; clear HB; have HO276 := n0_; have HO283 := n1_; have HB := n2_; clear n0_ n1_ n2_; (try clear hb); (try clear hb2); (try clear hk); (try clear hi)) | (go_at_call 25; clear tok13_; (with_reducible refine (thistlelaw01_copied.calls _ _ l2 t286 _ ?side1 ?side2 A101.out).mono ?_); (case side1 => repeat (first | exact (Kd.C_below HR2.out HB.out) | (with_reducible refine Kd.C_alloc ?_ _) | (with_reducible refine Kd.C_drewN ?_ _) | (with_reducible refine Kd.C_drew ?_))); (case side2 => exact HC2.out); rintro e w112 ⟨v287, rfl, ho0, hb⟩; have n0_ := Aside0.mk (Kd.R_elder' (by (with_reducible repeat (first | apply Kd.R_alloc | apply Kd.R_drewN | apply Kd.R_drew)); exact HO276.out) (Kd.R_base ho0) hb); have n1_ := Aside0.mk (Kd.R_elder' (by (with_reducible repeat (first | apply Kd.R_alloc | apply Kd.R_drewN | apply Kd.R_drew)); exact HO283.out) (Kd.R_base ho0) hb); have n2_ := Aside0.mk (Kd.R_lower (Kd.R_new' (Kd.R_new' ho0 (Kd.R_lt (by (with_reducible repeat (first | apply Kd.R_alloc | apply Kd.R_drewN | apply Kd.R_drew)); exact HO276.out))) (Kd.R_lt (by (with_reducible repeat (first | apply Kd.R_alloc | apply Kd.R_drewN | apply Kd.R_drew)); exact HO283.out))) (below_size (by repeat (first | (with_reducible first | exact HB.out | apply below_alloc | apply pw_below_drewN | apply below_drew1) | exact HB.out)))); have n3_ := Aside0.mk (below_step (by repeat (first | (with_reducible first | exact HB.out | apply below_alloc | apply pw_below_drewN | apply below_drew1) | exact HB.out)) hb); clear HO276; clear HO283; clear HB; have HO276 := n0_; have HO283 := n1_; have HO288 := n2_; have HB := n3_; clear n0_ n1_ n2_ n3_; (try clear hb); (try clear hb2); (try clear hk); (try clear hi); (try clear ho0); obtain ⟨Ao113, co113, eo113⟩ := Kd.R_slice HO288.out; subst eo113) | (go_at_call 20; (with_reducible refine (utf_FromRunes.calls _ _ t286 t289 _ ?side1 ?side2 A102.out).mono ?_); (case side1 => repeat (first | exact (Kd.R_reads' HO288.out).2.2 | (with_reducible refine Kd.C_alloc ?_ _) | (with_reducible refine Kd.C_drewN ?_ _) | (with_reducible refine Kd.C_drew ?_))); (case side2 => exact (Kd.R_reads' HO288.out).2.1); rintro e w' ⟨rfl, ⟨nd, rfl⟩⟩) | (go_at_call 38; (with_reducible refine (thistleref01_FromRunes.calls kj53 _ _ l2 t290 _ ?side1 ?side2 A103.out).mono ?_); (case side1 => repeat (first | exact (Kd.C_below HR2.out (by repeat (first | (with_reducible first | exact HB.out | apply below_alloc | apply pw_below_drewN | apply below_drew1) | exact HB.out))) | (with_reducible refine Kd.C_alloc ?_ _) | (with_reducible refine Kd.C_drewN ?_ _) | (with_reducible refine Kd.C_drew ?_))); (case side2 => exact HC2.out); rintro e w114 ⟨rfl, hb⟩; have n0_ := Aside0.mk (Kd.R_below (by (with_reducible repeat (first | apply Kd.R_alloc | apply Kd.R_drewN | apply Kd.R_drew)); exact HO276.out) hb); have n1_ := Aside0.mk (Kd.R_below (by (with_reducible repeat (first | apply Kd.R_alloc | apply Kd.R_drewN | apply Kd.R_drew)); exact HO283.out) hb); have n2_ := Aside0.mk (Kd.R_below (by (with_reducible repeat (first | apply Kd.R_alloc | apply Kd.R_drewN | apply Kd.R_drew)); exact HO288.out) hb); have n3_ := Aside0.mk (below_step (by repeat (first | (with_reducible first | exact HB.out | apply below_alloc | apply pw_below_drewN | apply below_drew1) | exact HB.out)) hb); clear HO276; clear HO283; clear HO288; clear HB; have HO276 := n0_; have HO283 := n1_; have HO288 := n2_; have HB := n3_; clear n0_ n1_ n2_ n3_; (try clear hb); (try clear hb2); (try clear hk); (try clear hi)))
                                  go_ret
                                  exact ⟨by first | rfl | (simp [errW_none, errW_some] <;> rfl) | (simp [*, errW_none, errW_some] <;> rfl), by repeat (first | (with_reducible first | exact HB.out | apply below_alloc | apply pw_below_drewN | apply below_drew1) | exact HB.out)⟩
                                · rw [if_neg c100] at H
                                  have c100b0 : (t284 == t285) = false := by simpa using c100
                                  (try (have c100b1 : decide (t284 = t285) = false := by simpa using c100))
                                  (try (have c100b2 : (t284 == t285) = false := by simpa using c100))
                                  (try (have c100b3 : ¬ (t284 = t285) := by simpa using c100))
                                  clear c100
                                  obtain rfl := Option.some.inj H
                                  have tok14_ : True := trivial
                                  have tok15_ : True := trivial
                                  go_wp2_with (first | ((with_reducible refine gate_callee (f := 25) rfl ?_); clear tok14_; refine goesL_ (some 125) rfl rfl Tryd.func25 (by kernel_rfl) rfl #[.slice A2 l2.length c2] rfl (by (try simp only [List.map_toArray, List.map_cons, List.map_nil]); first | done | rfl | (simp only [List.length_drop, List.length_take]; rfl)) ?_; (with_reducible refine (thistlelaw01_copied.calls _ _ l2 t274 _ ?side1 ?side2 A92.out).mono ?_); (case side1 => repeat (first | exact (Kd.C_below HR2.out HB.out) | (with_reducible refine Kd.C_alloc ?_ _) | (with_reducible refine Kd.C_drewN ?_ _) | (with_reducible refine Kd.C_drew ?_))); (case side2 => exact HC2.out); rintro e w115 ⟨v275, rfl, ho0, hb⟩; refine ⟨_, rfl, ?_⟩; have n0_ := Aside0.mk (Kd.R_lower ho0 (below_size (by repeat (first | (with_reducible first | exact HB.out | apply below_alloc | apply pw_below_drewN | apply below_drew1) | exact HB.out)))); have n1_ := Aside0.mk (below_step (by repeat (first | (with_reducible first | exact HB.out | apply below_alloc | apply pw_below_drewN | apply below_drew1) | exact HB.out)) hb); clear HB; have HO276 := n0_; have HB := n1_; clear n0_ n1_; (try clear hb); (try clear hb2); (try clear hk); (try clear hi); (try clear ho0); obtain ⟨Ao116, co116, eo116⟩ := Kd.R_slice HO276.out; subst eo116) | ((with_reducible refine gate_callee (f := 23) rfl ?_); refine goesL_ (some 126) rfl rfl Tryd.func23 (by kernel_rfl) rfl #[.slice Ao116 t274.length co116] rfl (by (try simp only [List.map_toArray, List.map_cons, List.map_nil]); first | done | rfl | (simp only [List.length_drop, List.length_take]; rfl)) ?_; (with_reducible refine (utf_Text.calls _ _ t274 t277 t278 _ ?side1 ?side2 A93.out).mono ?_); (case side1 => repeat (first | exact (Kd.R_reads' HO276.out).2.2 | (with_reducible refine Kd.C_alloc ?_ _) | (with_reducible refine Kd.C_drewN ?_ _) | (with_reducible refine Kd.C_drew ?_))); (case side2 => exact (Kd.R_reads' HO276.out).2.1); rintro e w117 ⟨rfl, hb⟩; refine ⟨_, rfl, ?_⟩; have n0_ := Aside0.mk (Kd.R_below (by (with_reducible repeat (first | apply Kd.R_alloc | apply Kd.R_drewN | apply Kd.R_drew)); exact HO276.out) hb); have n1_ := Aside0.mk (below_step (by repeat (first | (with_reducible first | exact HB.out | apply below_alloc | apply pw_below_drewN | apply below_drew1) | exact HB.out)) hb); clear HO276; clear HB; have HO276 := n0_; have HB := n1_; clear n0_ n1_; (try clear hb); (try clear hb2); (try clear hk); (try clear hi)) | ((with_reducible refine gate_callee (f := 36) rfl ?_); refine goesL_ (some 131) rfl rfl Tryd.func36 (by kernel_rfl) rfl #[.slice A2 l2.length c2] rfl (by (try simp only [List.map_toArray, List.map_cons, List.map_nil]); first | done | rfl | (simp only [List.length_drop, List.length_take]; rfl)) ?_; (with_reducible refine (thistleref01_Text.calls kj53 _ _ l2 t279 t280 _ ?side1 ?side2 A94.out).mono ?_); (case side1 => repeat (first | exact (Kd.C_below HR2.out HB.out) | (with_reducible refine Kd.C_alloc ?_ _) | (with_reducible refine Kd.C_drewN ?_ _) | (with_reducible refine Kd.C_drew ?_))); (case side2 => exact HC2.out); rintro e w118 ⟨rfl, hb⟩; refine ⟨_, rfl, ?_⟩; have n0_ := Aside0.mk (Kd.R_below (by (with_reducible repeat (first | apply Kd.R_alloc | apply Kd.R_drewN | apply Kd.R_drew)); exact HO276.out) hb); have n1_ := Aside0.mk (below_step (by repeat (first | (with_reducible first | exact HB.out | apply below_alloc | apply pw_below_drewN | apply below_drew1) | exact HB.out)) hb); clear HO276; clear HB; have HO276 := n0_; have HB := n1_; clear n0_ n1_; (try clear hb); (try clear hb2); (try clear hk); (try clear hi)) | (go_at_call 25; clear tok15_; (with_reducible refine (thistlelaw01_copied.calls _ _ l2 t281 _ ?side1 ?side2 A97.out).mono ?_); (case side1 => repeat (first | exact (Kd.C_below HR2.out HB.out) | (with_reducible refine Kd.C_alloc ?_ _) | (with_reducible refine Kd.C_drewN ?_ _) | (with_reducible refine Kd.C_drew ?_))); (case side2 => exact HC2.out); rintro e w119 ⟨v282, rfl, ho0, hb⟩; have n0_ := Aside0.mk (Kd.R_elder' (by (with_reducible repeat (first | apply Kd.R_alloc | apply Kd.R_drewN | apply Kd.R_drew)); exact HO276.out) (Kd.R_base ho0) hb); have n1_ := Aside0.mk (Kd.R_lower (Kd.R_new' ho0 (Kd.R_lt (by (with_reducible repeat (first | apply Kd.R_alloc | apply Kd.R_drewN | apply Kd.R_drew)); exact HO276.out))) (below_size (by repeat (first | (with_reducible first | exact HB.out | apply below_alloc | apply pw_below_drewN | apply below_drew1) | exact HB.out)))); have n2_ := Aside0.mk (below_step (by repeat (first | (with_reducible first | exact HB.out | apply below_alloc | apply pw_below_drewN | apply below_drew1) | exact HB.out)) hb); clear HO276; clear HB; have HO276 := n0_; have HO283 := n1_; have HB := n2_; clear n0_ n1_ n2_; (try clear hb); (try clear hb2); (try clear hk); (try clear hi); (try clear ho0); obtain ⟨Ao120, co120, eo120⟩ := Kd.R_slice HO283.out; subst eo120) | (go_at_call 24; (with_reducible refine (utf_Apart.calls kj53 _ _ t281 t284 _ ?side1 ?side2 A98.out).mono ?_); (case side1 => repeat (first | exact (Kd.R_reads' HO283.out).2.2 | (with_reducible refine Kd.C_alloc ?_ _) | (with_reducible refine Kd.C_drewN ?_ _) | (with_reducible refine Kd.C_drew ?_))); (case side2 => exact (Kd.R_reads' HO283.out).2.1); rintro e w121 ⟨rfl, hb⟩; have n0_ := Aside0.mk (Kd.R_below (by (with_reducible repeat (first | apply Kd.R_alloc | apply Kd.R_drewN | apply Kd.R_drew)); exact HO276.out) hb); have n1_ := Aside0.mk (Kd.R_below (by (with_reducible repeat (first | apply Kd.R_alloc | apply Kd.R_drewN | apply Kd.R_drew)); exact HO283.out) hb); have n2_ := Aside0.mk (below_step (by repeat (first | (with_reducible first | exact HB.out | apply below_alloc | apply pw_below_drewN | apply below_drew1) | exact HB.out)) hb); clear HO276; clear HO283; clear HB; have HO276 := n0_; have HO283 := n1_; have HB := n2_; clear n0_ n1_ n2_; (try clear hb); (try clear hb2); (try clear hk); (try clear hi)) | (go_at_call 37; (with_reducible refine (thistleref01_Apart.calls kj53 _ _ l2 t285 _ ?side1 ?side2 A99.out).mono ?_); (case side1 => repeat (first | exact (Kd.C_below HR2.out HB.out) | (with_reducible refine Kd.C_alloc ?_ _) | (with_reducible refine Kd.C_drewN ?_ _) | (with_reducible refine Kd.C_drew ?_))); (case side2 => exact HC2.out); rintro e w122 ⟨rfl, hb⟩; have n0_ := Aside0.mk (Kd.R_below (by (with_reducible repeat (first | apply Kd.R_alloc | apply Kd.R_drewN | apply Kd.R_drew)); exact HO276.out) hb); have n1_ := Aside0.mk (Kd.R_below (by (with_reducible repeat (first | apply Kd.R_alloc | apply Kd.R_drewN | apply Kd.R_drew)); exact HO283.out) hb); have n2_ := Aside0.mk (below_step (by repeat (first | (with_reducible first | exact HB.out | apply below_alloc | apply pw_below_drewN | apply below_drew1) | exact HB.out)) hb); clear HO276; clear HO283; clear HB; have HO276 := n0_; have HO283 := n1_; have HB := n2_; clear n0_ n1_ n2_; (try clear hb); (try clear hb2); (try clear hk); (try clear hi)))
                                  go_ret
                                  exact ⟨by first | rfl | (simp [errW_none, errW_some] <;> rfl) | (simp [*, errW_none, errW_some] <;> rfl), by repeat (first | (with_reducible first | exact HB.out | apply below_alloc | apply pw_below_drewN | apply below_drew1) | exact HB.out)⟩
                              · rw [if_neg c96] at H
                                have c96b0 : (t278 == t280) = false := beq_eq_false_iff_ne.mpr c96
                                have c96b1 : (t278 != t280) = true := bne_iff_ne.mpr c96
                                obtain rfl := Option.some.inj H
                                go_wp2_with (first | ((with_reducible refine gate_callee (f := 25) rfl ?_); refine goesL_ (some 125) rfl rfl Tryd.func25 (by kernel_rfl) rfl #[.slice A2 l2.length c2] rfl (by (try simp only [List.map_toArray, List.map_cons, List.map_nil]); first | done | rfl | (simp only [List.length_drop, List.length_take]; rfl)) ?_; (with_reducible refine (thistlelaw01_copied.calls _ _ l2 t274 _ ?side1 ?side2 A92.out).mono ?_); (case side1 => repeat (first | exact (Kd.C_below HR2.out HB.out) | (with_reducible refine Kd.C_alloc ?_ _) | (with_reducible refine Kd.C_drewN ?_ _) | (with_reducible refine Kd.C_drew ?_))); (case side2 => exact HC2.out); rintro e w123 ⟨v275, rfl, ho0, hb⟩; refine ⟨_, rfl, ?_⟩; have n0_ := Aside0.mk (Kd.R_lower ho0 (below_size (by repeat (first | (with_reducible first | exact HB.out | apply below_alloc | apply pw_below_drewN | apply below_drew1) | exact HB.out)))); have n1_ := Aside0.mk (below_step (by repeat (first | (with_reducible first | exact HB.out | apply below_alloc | apply pw_below_drewN | apply below_drew1) | exact HB.out)) hb); clear HB; have HO276 := n0_; have HB := n1_; clear n0_ n1_; (try clear hb); (try clear hb2); (try clear hk); (try clear hi); (try clear ho0); obtain ⟨Ao124, co124, eo124⟩ := Kd.R_slice HO276.out; subst eo124) | ((with_reducible refine gate_callee (f := 23) rfl ?_); refine goesL_ (some 126) rfl rfl Tryd.func23 (by kernel_rfl) rfl #[.slice Ao124 t274.length co124] rfl (by (try simp only [List.map_toArray, List.map_cons, List.map_nil]); first | done | rfl | (simp only [List.length_drop, List.length_take]; rfl)) ?_; (with_reducible refine (utf_Text.calls _ _ t274 t277 t278 _ ?side1 ?side2 A93.out).mono ?_); (case side1 => repeat (first | exact (Kd.R_reads' HO276.out).2.2 | (with_reducible refine Kd.C_alloc ?_ _) | (with_reducible refine Kd.C_drewN ?_ _) | (with_reducible refine Kd.C_drew ?_))); (case side2 => exact (Kd.R_reads' HO276.out).2.1); rintro e w125 ⟨rfl, hb⟩; refine ⟨_, rfl, ?_⟩; have n0_ := Aside0.mk (Kd.R_below (by (with_reducible repeat (first | apply Kd.R_alloc | apply Kd.R_drewN | apply Kd.R_drew)); exact HO276.out) hb); have n1_ := Aside0.mk (below_step (by repeat (first | (with_reducible first | exact HB.out | apply below_alloc | apply pw_below_drewN | apply below_drew1) | exact HB.out)) hb); clear HO276; clear HB; have HO276 := n0_; have HB := n1_; clear n0_ n1_; (try clear hb); (try clear hb2); (try clear hk); (try clear hi)) | ((with_reducible refine gate_callee (f := 36) rfl ?_); refine goesL_ (some 131) rfl rfl Tryd.func36 (by kernel_rfl) rfl #[.slice A2 l2.length c2] rfl (by (try simp only [List.map_toArray, List.map_cons, List.map_nil]); first | done | rfl | (simp only [List.length_drop, List.length_take]; rfl)) ?_; (with_reducible refine (thistleref01_Text.calls kj53 _ _ l2 t279 t280 _ ?side1 ?side2 A94.out).mono ?_); (case side1 => repeat (first | exact (Kd.C_below HR2.out HB.out) | (with_reducible refine Kd.C_alloc ?_ _) | (with_reducible refine Kd.C_drewN ?_ _) | (with_reducible refine Kd.C_drew ?_))); (case side2 => exact HC2.out); rintro e w126 ⟨rfl, hb⟩; refine ⟨_, rfl, ?_⟩; have n0_ := Aside0.mk (Kd.R_below (by (with_reducible repeat (first | apply Kd.R_alloc | apply Kd.R_drewN | apply Kd.R_drew)); exact HO276.out) hb); have n1_ := Aside0.mk (below_step (by repeat (first | (with_reducible first | exact HB.out | apply below_alloc | apply pw_below_drewN | apply below_drew1) | exact HB.out)) hb); clear HO276; clear HB; have HO276 := n0_; have HB := n1_; clear n0_ n1_; (try clear hb); (try clear hb2); (try clear hk); (try clear hi)))
                                go_ret
                                exact ⟨by first | rfl | (simp [errW_none, errW_some] <;> rfl) | (simp [*, errW_none, errW_some] <;> rfl), by repeat (first | (with_reducible first | exact HB.out | apply below_alloc | apply pw_below_drewN | apply below_drew1) | exact HB.out)⟩
                            · rw [if_neg c95] at H
                              have c95b0 : (t277.toList == t279.toList) = false := beq_eq_false_iff_ne.mpr c95
                              have c95b1 : (t277.toList != t279.toList) = true := bne_iff_ne.mpr c95
                              obtain rfl := Option.some.inj H
                              go_wp2_with (first | ((with_reducible refine gate_callee (f := 25) rfl ?_); refine goesL_ (some 125) rfl rfl Tryd.func25 (by kernel_rfl) rfl #[.slice A2 l2.length c2] rfl (by (try simp only [List.map_toArray, List.map_cons, List.map_nil]); first | done | rfl | (simp only [List.length_drop, List.length_take]; rfl)) ?_; (with_reducible refine (thistlelaw01_copied.calls _ _ l2 t274 _ ?side1 ?side2 A92.out).mono ?_); (case side1 => repeat (first | exact (Kd.C_below HR2.out HB.out) | (with_reducible refine Kd.C_alloc ?_ _) | (with_reducible refine Kd.C_drewN ?_ _) | (with_reducible refine Kd.C_drew ?_))); (case side2 => exact HC2.out); rintro e w127 ⟨v275, rfl, ho0, hb⟩; refine ⟨_, rfl, ?_⟩; have n0_ := Aside0.mk (Kd.R_lower ho0 (below_size (by repeat (first | (with_reducible first | exact HB.out | apply below_alloc | apply pw_below_drewN | apply below_drew1) | exact HB.out)))); have n1_ := Aside0.mk (below_step (by repeat (first | (with_reducible first | exact HB.out | apply below_alloc | apply pw_below_drewN | apply below_drew1) | exact HB.out)) hb); clear HB; have HO276 := n0_; have HB := n1_; clear n0_ n1_; (try clear hb); (try clear hb2); (try clear hk); (try clear hi); (try clear ho0); obtain ⟨Ao128, co128, eo128⟩ := Kd.R_slice HO276.out; subst eo128) | ((with_reducible refine gate_callee (f := 23) rfl ?_); refine goesL_ (some 126) rfl rfl Tryd.func23 (by kernel_rfl) rfl #[.slice Ao128 t274.length co128] rfl (by (try simp only [List.map_toArray, List.map_cons, List.map_nil]); first | done | rfl | (simp only [List.length_drop, List.length_take]; rfl)) ?_; (with_reducible refine (utf_Text.calls _ _ t274 t277 t278 _ ?side1 ?side2 A93.out).mono ?_); (case side1 => repeat (first | exact (Kd.R_reads' HO276.out).2.2 | (with_reducible refine Kd.C_alloc ?_ _) | (with_reducible refine Kd.C_drewN ?_ _) | (with_reducible refine Kd.C_drew ?_))); (case side2 => exact (Kd.R_reads' HO276.out).2.1); rintro e w129 ⟨rfl, hb⟩; refine ⟨_, rfl, ?_⟩; have n0_ := Aside0.mk (Kd.R_below (by (with_reducible repeat (first | apply Kd.R_alloc | apply Kd.R_drewN | apply Kd.R_drew)); exact HO276.out) hb); have n1_ := Aside0.mk (below_step (by repeat (first | (with_reducible first | exact HB.out | apply below_alloc | apply pw_below_drewN | apply below_drew1) | exact HB.out)) hb); clear HO276; clear HB; have HO276 := n0_; have HB := n1_; clear n0_ n1_; (try clear hb); (try clear hb2); (try clear hk); (try clear hi)) | ((with_reducible refine gate_callee (f := 36) rfl ?_); refine goesL_ (some 131) rfl rfl Tryd.func36 (by kernel_rfl) rfl #[.slice A2 l2.length c2] rfl (by (try simp only [List.map_toArray, List.map_cons, List.map_nil]); first | done | rfl | (simp only [List.length_drop, List.length_take]; rfl)) ?_; (with_reducible refine (thistleref01_Text.calls kj53 _ _ l2 t279 t280 _ ?side1 ?side2 A94.out).mono ?_); (case side1 => repeat (first | exact (Kd.C_below HR2.out HB.out) | (with_reducible refine Kd.C_alloc ?_ _) | (with_reducible refine Kd.C_drewN ?_ _) | (with_reducible refine Kd.C_drew ?_))); (case side2 => exact HC2.out); rintro e w130 ⟨rfl, hb⟩; refine ⟨_, rfl, ?_⟩; have n0_ := Aside0.mk (Kd.R_below (by (with_reducible repeat (first | apply Kd.R_alloc | apply Kd.R_drewN | apply Kd.R_drew)); exact HO276.out) hb); have n1_ := Aside0.mk (below_step (by repeat (first | (with_reducible first | exact HB.out | apply below_alloc | apply pw_below_drewN | apply below_drew1) | exact HB.out)) hb); clear HO276; clear HB; have HO276 := n0_; have HB := n1_; clear n0_ n1_; (try clear hb); (try clear hb2); (try clear hk); (try clear hi)))
                              go_ret
                              exact ⟨by first | rfl | (simp [errW_none, errW_some] <;> rfl) | (simp [*, errW_none, errW_some] <;> rfl), by repeat (first | (with_reducible first | exact HB.out | apply below_alloc | apply pw_below_drewN | apply below_drew1) | exact HB.out)⟩
  · replace c5 := Bool.eq_false_iff.mpr c5
    subst c5
    have H1 : (some false) = some r := by rw [if_neg (show ¬ (false = true) by decide)] at H; exact H
    clear H
    have H := H1
    clear H1
    obtain rfl := Option.some.inj H
    go_enter Tryd.func7, Tryd.ntmps7
    go_wp2_with (first | ((with_reducible refine gate_callee (f := 8) rfl ?_); refine goesL_ (some 17) rfl rfl Tryd.func8 (by kernel_rfl) rfl #[] rfl (by (try simp only [List.map_toArray, List.map_cons, List.map_nil]); first | done | rfl | (simp only [List.length_drop, List.length_take]; rfl)) ?_; (with_reducible refine (thistlelaw01_awake.calls  false _ A4.out).mono ?_); rintro e w131 ⟨rfl, hb⟩; refine ⟨_, rfl, ?_⟩; have n0_ := Aside0.mk (below_step (by repeat (first | (with_reducible first | exact HB.out | apply below_alloc | apply pw_below_drewN | apply below_drew1) | exact HB.out)) hb); clear HB; have HB := n0_; clear n0_; (try clear hb); (try clear hb2); (try clear hk); (try clear hi)))
    go_ret
    exact ⟨by first | rfl | (simp [errW_none, errW_some] <;> rfl) | (simp [*, errW_none, errW_some] <;> rfl), by repeat (first | (with_reducible first | exact HB.out | apply below_alloc | apply pw_below_drewN | apply below_drew1) | exact HB.out)⟩

end Go.Proofs.YtaipokmbgcmciaaDoor.PU
