/- The law's plain side (SetsRing): what the printed functions come to; each theorem states its own conditions. -/
import Derived.Test.YtoggmegpodmfnaaDoorPUx10
import Derived.Test.YtoggmegpodmfnaaDoorPUx3
import Derived.Test.YtoggmegpodmfnaaDoorPUx4
import Derived.Test.YtoggmegpodmfnaaDoorPUx5
import Derived.Test.YtoggmegpodmfnaaDoorPUx7
import Derived.Test.YtoggmegpodmfnaaDoorPUx9
import Derived.Test.YtoggmegpodmfnaaDoorBSetsBand
import Derived.Test.YtoggmegpodmfnaaDoorQSetsRef
import Derived.Test.YtoggmegpodmfnaaDoorQSetsRef2
import Derived.Test.YtoggmegpodmfnaaDoorQSetsRef3
import Derived.Test.YtoggmegpodmfnaaDoorQSetsRef4
namespace Go.Proofs.YtoggmegpodmfnaaDoor.Q
open Go.RowKit Go.Proofs.YtoggmegpodmfnaaDoorW.PrintWords Go.Proofs.YtoggmegpodmfnaaDoorW.PrintLast Go.Proofs.YtoggmegpodmfnaaDoorW.PrintMore Go.Proofs.YtoggmegpodmfnaaDoor.PU Go.Proofs.YtoggmegpodmfnaaDoor.B
set_option linter.unusedVariables false
set_option linter.unusedSimpArgs false
theorem mem_far {l : List Rg} (h : Sound l) {u : Int} (hu : u < 0 ∨ 1114367 < u) : mem l u = false := by
  rw [← Bool.not_eq_true]
  intro hm
  have := h.unit hm
  have c := bandOf_cases u
  unfold isU at this
  simp only [decide_eq_true_eq] at this
  omega
theorem holds_is (l : List Rg) (u : Int) (h : Sound l) : Ev (fun k => thistlelaw02_holds.f k l u) (mem l u) := by
  have hl := sound_len h
  unfold thistlelaw02_holds.f
  refine evb0 (small_is u) ?_
  obtain ⟨v, hv⟩ : ∃ v, (if u < -2147483648 then -2147483648 else if u > 2147483647 then 2147483647 else u) = v := ⟨_, rfl⟩
  rw [hv]
  have : mem l u = mem l v := by
    rw [← hv]
    split
    · rw [mem_far h (by omega), mem_far h (by omega)]
    · split
      · rw [mem_far h (by omega), mem_far h (by omega)]
      · rfl
  rw [this]
  exact Ev.bind (Has_is l v (by omega) h) (ev_if_pos rfl (Ev.now _))
theorem within_s (l : List Rg) (u : Int) (h : Sound l) : Ev (fun k => thistlelaw02_within.f k l u) (mem l u) := within_is l u (by have := sound_len h; omega) h.r32
theorem sound_s (l : List Rg) (h : Sound l) : Ev (fun k => thistlelaw02_sound.f k l) true := sound_is l (by have := sound_len h; omega) h
/-- What the law's six sets are. -/
structure Six (a b o n m na nb nr : List Rg) : Prop where
  sa : Sound a
  sb : Sound b
  so : Sound o
  sn : Sound n
  sm : Sound m
  sna : Sound na
  snb : Sound nb
  snr : Sound nr
  om : ∀ u, mem o u = (mem a u || mem b u)
  nm : ∀ u, mem n u = (mem a u && mem b u)
  mm : ∀ u, mem m u = (mem a u && !mem b u)
  nam : ∀ u, mem na u = (isU u && !mem a u)
  nbm : ∀ u, mem nb u = (isU u && !mem b u)
  nrm : ∀ u, mem nr u = (isU u && decide (u ≤ 1114111) && !mem a u)
theorem ring6 {a b o n m na nb nr : List Rg} (h : Six a b o n m na nb nr) : Ev (fun k => thistlelaw02_SetsRing.j6 k a b o n na false) true := by
  have ba := sz_bound h.sa
  have bb := sz_bound h.sb
  have bo := sz_bound h.so
  have bn := sz_bound h.sn
  have bna := sz_bound h.sna
  have ea := sz_cnt a h.sa
  have eb := sz_cnt b h.sb
  have eo := sz_cnt o h.so
  have en := sz_cnt n h.sn
  have ena := sz_cnt na h.sna
  have e1 : cnt (mem a) + cnt (mem b) = cnt (mem o) + cnt (mem n) := by
    rw [cnt_congr h.om, cnt_congr h.nm]; exact cnt_or _ _
  have e2 : cnt (mem a) + cnt (mem na) = cnt (mem allB) := by
    have c1 := cnt_or (mem a) (mem na)
    have c2 : cnt (fun u => mem a u && mem na u) = 0 := by
      rw [← cnt_false]
      exact cnt_congr fun u => by rw [h.nam]; cases mem a u <;> simp
    have c3 : cnt (fun u => mem a u || mem na u) = cnt (mem allB) := cnt_congr fun u => by
      rw [h.nam, allB_mem]
      cases hm : mem a u with
      | false => simp
      | true => rw [h.sa.unit hm]; simp
    omega
  have e3 := sz_cnt allB allB_sound
  have e4 : sz allB = 1112192 := by decide
  refine Ev.step (f := fun k => ((sets_Size.f k a).bind fun bt309 => ((sets_Size.f k b).bind fun bt311 => ((sets_Size.f k o).bind fun bt313 => ((sets_Size.f k n).bind fun bt315 => ((sets_Size.f k na).bind fun bt317 => (if bt317.2 = 0 then (if (wrap64 (bt309.1 + bt311.1)) = (wrap64 (bt313.1 + bt315.1)) then (some ((wrap64 (bt309.1 + bt317.1)) == 1112192)) else (some false)) else (some false)))))))) (fun k => ?_) ?_
  · rw [thistlelaw02_SetsRing.j6, if_neg (by simp)]
  · refine Ev.bind (size_is a h.sa) (Ev.bind (size_is b h.sb) (Ev.bind (size_is o h.so) (Ev.bind (size_is n h.sn) (Ev.bind (size_is na h.sna) (ev_if_pos rfl (ev_if_pos ?_ ?_))))))
    · rw [wrap64_of _ (by omega), wrap64_of _ (by omega)]; omega
    · have : (wrap64 (sz a + sz na) == 1112192) = true := by rw [wrap64_of _ (by omega)]; simp; omega
      rw [this]; exact Ev.now _
theorem same_s (l : List Rg) (h : Sound l) : Ev (fun k => thistleref02_SameRanges.f k l l) true := same_is l (by have := sound_len h; omega)
theorem ring5 {a b o n m na nb nr : List Rg} (h : Six a b o n m na nb nr) (x y z w : List Rg) (hx : x = y) (hxs : Sound x) (hz : z = m) (hw : w = a) : Ev (fun k => thistlelaw02_SetsRing.j5 k a b o n m na x y z w false) true := by
  subst hx; subst hz; subst hw
  refine Ev.step (f := fun k => ((thistleref02_SameRanges.f k x x).bind fun t306 => (if t306 = true then ((thistleref02_SameRanges.f k z z).bind fun t307 => (if t307 = true then ((thistleref02_SameRanges.f k w w).bind fun t308 => (thistlelaw02_SetsRing.j6 k w b o n na (!t308))) else (thistlelaw02_SetsRing.j6 k w b o n na true))) else (thistlelaw02_SetsRing.j6 k w b o n na true)))) (fun k => ?_) ?_
  · rw [thistlelaw02_SetsRing.j5, if_neg (by simp)]
  · exact Ev.bind (same_s x hxs) (ev_if_pos rfl (Ev.bind (same_s z h.sm) (ev_if_pos rfl (Ev.bind (same_s w h.sa) (ring6 h)))))
theorem ring0 {a b o n m na nb nr : List Rg} (h : Six a b o n m na nb nr) (look : List Int) (hk : look.length ≤ 1073741824) : ∀ (d i : Nat), look.length - i = d → Ev (fun k => thistlelaw02_SetsRing.l0 k a b o n m na nb nr look (i : Int)) true
  | 0, i, hd => by
    obtain ⟨x, hx, hxs, hxm⟩ := and_is na nb h.sna h.snb
    obtain ⟨y, hy, hys, hym⟩ := not_is o h.so
    obtain ⟨z, hz, hzs, hzm⟩ := and_is a nb h.sa h.snb
    obtain ⟨w, hw, hws, hwm⟩ := not_is na h.sna
    have exy : x = y := sound_ext x y hxs hys fun u => by
      rw [hxm, hym, h.nam, h.nbm, h.om]
      cases isU u <;> cases mem a u <;> cases mem b u <;> rfl
    have ezm : z = m := sound_ext z m hzs h.sm fun u => by
      rw [hzm, h.mm, h.nbm]
      cases hm : mem a u with
      | false => simp
      | true => rw [h.sa.unit hm]; simp
    have ewa : w = a := sound_ext w a hws h.sa fun u => by
      rw [hwm, h.nam]
      cases hm : mem a u with
      | false => cases isU u <;> rfl
      | true => rw [h.sa.unit hm]; rfl
    refine Ev.step (f := fun k => ((sets_And.f k na nb).bind fun bt290 => ((sets_Not.f k o).bind fun bt294 => ((sets_And.f k a nb).bind fun bt298 => ((sets_Not.f k na).bind fun bt302 => (if bt290.2 = 0 then (if bt294.2 = 0 then (if bt298.2 = 0 then (thistlelaw02_SetsRing.j5 k a b o n m na bt290.1 bt294.1 bt298.1 bt302.1 (bt302.2 != 0)) else (thistlelaw02_SetsRing.j5 k a b o n m na bt290.1 bt294.1 bt298.1 bt302.1 true)) else (thistlelaw02_SetsRing.j5 k a b o n m na bt290.1 bt294.1 bt298.1 bt302.1 true)) else (thistlelaw02_SetsRing.j5 k a b o n m na bt290.1 bt294.1 bt298.1 bt302.1 true))))))) (fun k => ?_) ?_
    · rw [thistlelaw02_SetsRing.l0, if_neg (by omega)]
    · exact Ev.bind hx (Ev.bind hy (Ev.bind hz (Ev.bind hw (ev_if_pos rfl (ev_if_pos rfl (ev_if_pos rfl (ring5 h x y z w exy hxs ezm ewa)))))))
  | d + 1, i, hd => by
    have ih := ring0 h look hk d (i + 1) (by omega)
    obtain ⟨u, hu⟩ : ∃ u, rd look (i : Int) = u := ⟨_, rfl⟩
    obtain ⟨A, hA⟩ : ∃ x, mem a u = x := ⟨_, rfl⟩
    obtain ⟨B, hB⟩ : ∃ x, mem b u = x := ⟨_, rfl⟩
    obtain ⟨C, hC⟩ : ∃ x, isU u = x := ⟨_, rfl⟩
    have wo := within_s o u h.so
    have wn := within_s n u h.sn
    have wm := within_s m u h.sm
    have wna := within_s na u h.sna
    have wnr := within_s nr u h.snr
    have ha := holds_is a u h.sa
    have hb := holds_is b u h.sb
    have hun := unit_is u
    rw [hC] at hun
    rw [h.om, hA, hB] at wo
    rw [h.nm, hA, hB] at wn
    rw [h.mm, hA, hB] at wm
    rw [h.nam, hA, hC] at wna
    rw [h.nrm, hA, hC] at wnr
    rw [hA] at ha
    rw [hB] at hb
    have j4 : Ev (fun k => thistlelaw02_SetsRing.j4 k a b o n m na nb nr look (i : Int) u A false) true := by
      refine Ev.step (f := fun k => ((thistlelaw02_within.f k na u).bind fun t284 => ((thistlelaw02_unit.f u).bind fun t285 => (if t285 = true then (if (t284 != (!A)) = true then (some false) else ((thistlelaw02_within.f k nr u).bind fun t286 => ((thistlelaw02_unit.f u).bind fun t287 => (if t287 = true then (if u ≤ 1114111 then (if (t286 != (!A)) = true then (some false) else (thistlelaw02_SetsRing.l0 k a b o n m na nb nr look ((i + 1 : Nat) : Int))) else (if (t286 != false) = true then (some false) else (thistlelaw02_SetsRing.l0 k a b o n m na nb nr look ((i + 1 : Nat) : Int)))) else (if (t286 != false) = true then (some false) else (thistlelaw02_SetsRing.l0 k a b o n m na nb nr look ((i + 1 : Nat) : Int))))))) else (if (t284 != false) = true then (some false) else ((thistlelaw02_within.f k nr u).bind fun t288 => ((thistlelaw02_unit.f u).bind fun t289 => (if t289 = true then (if u ≤ 1114111 then (if (t288 != (!A)) = true then (some false) else (thistlelaw02_SetsRing.l0 k a b o n m na nb nr look ((i + 1 : Nat) : Int))) else (if (t288 != false) = true then (some false) else (thistlelaw02_SetsRing.l0 k a b o n m na nb nr look ((i + 1 : Nat) : Int)))) else (if (t288 != false) = true then (some false) else (thistlelaw02_SetsRing.l0 k a b o n m na nb nr look ((i + 1 : Nat) : Int))))))))))) (fun k => ?_) ?_
      · rw [thistlelaw02_SetsRing.j4, if_neg (by simp), wrapS i (by omega)]
      · refine Ev.bind wna (evb0 hun ?_)
        cases C with
        | true =>
          refine ev_if_pos rfl (ev_if_neg (by cases A <;> simp) (Ev.bind wnr (evb0 hun (ev_if_pos rfl ?_))))
          by_cases hle : u ≤ 1114111
          · exact ev_if_pos hle (ev_if_neg (by rw [decide_eq_true hle]; cases A <;> simp) ih)
          · exact ev_if_neg hle (ev_if_neg (by rw [decide_eq_false hle]; simp) ih)
        | false =>
          exact ev_if_neg (by simp) (ev_if_neg (by simp) (Ev.bind wnr (evb0 hun (ev_if_neg (by simp) (ev_if_neg (by simp) ih)))))
    refine Ev.step (f := fun k => ((thistlelaw02_holds.f k a u).bind fun t277 => ((thistlelaw02_holds.f k b u).bind fun t278 => ((thistlelaw02_within.f k o u).bind fun t279 => (if t277 = true then (if (t279 != true) = true then (thistlelaw02_SetsRing.j4 k a b o n m na nb nr look (i : Int) u t277 true) else ((thistlelaw02_within.f k n u).bind fun t280 => (if (t280 != t278) = true then (thistlelaw02_SetsRing.j4 k a b o n m na nb nr look (i : Int) u t277 true) else ((thistlelaw02_within.f k m u).bind fun t281 => (thistlelaw02_SetsRing.j4 k a b o n m na nb nr look (i : Int) u t277 (t281 != (!t278))))))) else (if (t279 != t278) = true then (thistlelaw02_SetsRing.j4 k a b o n m na nb nr look (i : Int) u t277 true) else ((thistlelaw02_within.f k n u).bind fun t282 => (if (t282 != false) = true then (thistlelaw02_SetsRing.j4 k a b o n m na nb nr look (i : Int) u t277 true) else ((thistlelaw02_within.f k m u).bind fun t283 => (thistlelaw02_SetsRing.j4 k a b o n m na nb nr look (i : Int) u t277 (t283 != false))))))))))) (fun k => ?_) ?_
    · rw [thistlelaw02_SetsRing.l0, if_pos (by omega), if_pos (by omega), hu]
    · refine Ev.bind ha (Ev.bind hb (Ev.bind wo ?_))
      cases A with
      | true =>
        refine ev_if_pos rfl (ev_if_neg (by cases B <;> simp) (Ev.bind wn (ev_if_neg (by cases B <;> simp) (Ev.bind wm ?_))))
        have : ((true && !B) != (!B)) = false := by cases B <;> rfl
        rw [this]; exact j4
      | false =>
        refine ev_if_neg (by simp) (ev_if_neg (by cases B <;> simp) (Ev.bind wn (ev_if_neg (by cases B <;> simp) (Ev.bind wm ?_))))
        have : ((false && !B) != false) = false := by cases B <;> rfl
        rw [this]; exact j4
theorem SetsRing (p q : List Rg) (hp : ∀ r ∈ p, R32 r) (hq : ∀ r ∈ q, R32 r) (hpl : p.length ≤ 16777216) (hql : q.length ≤ 16777216) : ∃ k, thistlelaw02_SetsRing.f k p q = some true := by
  refine Ev.rounds (g := fun k => thistlelaw02_SetsRing.f k p q) ?_
  unfold thistlelaw02_SetsRing.f
  refine Ev.bind wakes_is (ev_if_pos rfl ?_)
  have out : ∀ a b : List Rg, Ev (fun k => thistlelaw02_SetsRing.j0 k a b true) true := fun a b =>
    Ev.step (f := fun _ => some true) (fun k => by rw [thistlelaw02_SetsRing.j0, if_pos rfl]) (Ev.now _)
  cases hup : allUp p with
  | false =>
    refine Ev.bind (make_no p (by omega) hup) ?_
    cases huq : allUp q with
    | false => exact Ev.bind (make_no q (by omega) huq) (ev_if_neg (by simp) (out _ _))
    | true =>
      obtain ⟨b, hb, hbs, hbm, hbl⟩ := make_is q (by omega) huq
      exact Ev.bind hb (ev_if_neg (by simp) (out _ _))
  | true =>
    obtain ⟨a, ha, has, ham, hal⟩ := make_is p (by omega) hup
    refine Ev.bind ha ?_
    cases huq : allUp q with
    | false => exact Ev.bind (make_no q (by omega) huq) (ev_if_pos rfl (out _ _))
    | true =>
      obtain ⟨b, hb, hbs, hbm, hbl⟩ := make_is q (by omega) huq
      refine Ev.bind hb (ev_if_pos rfl ?_)
      obtain ⟨o, ho, hos, hom⟩ := or_is a b has hbs
      obtain ⟨n, hn, hns, hnm⟩ := and_is a b has hbs
      obtain ⟨m, hm, hms, hmm⟩ := minus_is a b has hbs
      obtain ⟨na, hna, hnas, hnam⟩ := not_is a has
      obtain ⟨nb, hnb, hnbs, hnbm⟩ := not_is b hbs
      obtain ⟨nr, hnr, hnrs, hnrm⟩ := notRunes_is a has
      have h : Six a b o n m na nb nr := ⟨has, hbs, hos, hns, hms, hnas, hnbs, hnrs, hom, hnm, hmm, hnam, hnbm, hnrm⟩
      obtain ⟨e1, he1, hl1⟩ := ends_is a (by have := sound_len has; omega)
      obtain ⟨e2, he2, hl2⟩ := ends_is b (by have := sound_len hbs; omega)
      have sa := sound_len has
      have sb := sound_len hbs
      have j2 : Ev (fun k => thistlelaw02_SetsRing.j2 k a b o n m na nb nr false) true := by
        refine Ev.step (f := fun k => ((thistlelaw02_ends.f k a).bind fun t267 => ((thistlelaw02_ends.f k b).bind fun t270 => (if t267.length + t270.length < 17592186044416 then (thistlelaw02_SetsRing.l0 k a b o n m na nb nr (t267 ++ t270) 0) else (none))))) (fun k => ?_) ?_
        · rw [thistlelaw02_SetsRing.j2, if_neg (by simp)]
        · exact Ev.bind he1 (Ev.bind he2 (ev_if_pos (by omega) (by simpa using ring0 h (e1 ++ e2) (by simp; omega) (e1 ++ e2).length 0 (by omega))))
      have j1 : Ev (fun k => thistlelaw02_SetsRing.j1 k a b o n m na nb nr false) true := by
        refine Ev.step (f := fun k => ((thistlelaw02_sound.f k o).bind fun t262 => (if t262 = true then ((thistlelaw02_sound.f k n).bind fun t263 => (if t263 = true then ((thistlelaw02_sound.f k m).bind fun t264 => (if t264 = true then ((thistlelaw02_sound.f k na).bind fun t265 => (if t265 = true then ((thistlelaw02_sound.f k nr).bind fun t266 => (thistlelaw02_SetsRing.j2 k a b o n m na nb nr (!t266))) else (thistlelaw02_SetsRing.j2 k a b o n m na nb nr true))) else (thistlelaw02_SetsRing.j2 k a b o n m na nb nr true))) else (thistlelaw02_SetsRing.j2 k a b o n m na nb nr true))) else (thistlelaw02_SetsRing.j2 k a b o n m na nb nr true)))) (fun k => ?_) ?_
        · rw [thistlelaw02_SetsRing.j1, if_neg (by simp)]
        · exact Ev.bind (sound_s o hos) (ev_if_pos rfl (Ev.bind (sound_s n hns) (ev_if_pos rfl (Ev.bind (sound_s m hms) (ev_if_pos rfl (Ev.bind (sound_s na hnas) (ev_if_pos rfl (Ev.bind (sound_s nr hnrs) j2))))))))
      refine Ev.step (f := fun k => ((sets_Or.f k a b).bind fun bt238 => ((sets_And.f k a b).bind fun bt242 => ((sets_Minus.f k a b).bind fun bt246 => ((sets_Not.f k a).bind fun bt250 => ((sets_Not.f k b).bind fun bt254 => ((sets_NotRunes.f k a).bind fun bt258 => (if bt238.2 = 0 then (if bt242.2 = 0 then (if bt246.2 = 0 then (if bt250.2 = 0 then (if bt254.2 = 0 then (thistlelaw02_SetsRing.j1 k a b bt238.1 bt242.1 bt246.1 bt250.1 bt254.1 bt258.1 (bt258.2 != 0)) else (thistlelaw02_SetsRing.j1 k a b bt238.1 bt242.1 bt246.1 bt250.1 bt254.1 bt258.1 true)) else (thistlelaw02_SetsRing.j1 k a b bt238.1 bt242.1 bt246.1 bt250.1 bt254.1 bt258.1 true)) else (thistlelaw02_SetsRing.j1 k a b bt238.1 bt242.1 bt246.1 bt250.1 bt254.1 bt258.1 true)) else (thistlelaw02_SetsRing.j1 k a b bt238.1 bt242.1 bt246.1 bt250.1 bt254.1 bt258.1 true)) else (thistlelaw02_SetsRing.j1 k a b bt238.1 bt242.1 bt246.1 bt250.1 bt254.1 bt258.1 true))))))))) (fun k => ?_) ?_
      · rw [thistlelaw02_SetsRing.j0, if_neg (by simp)]
      · exact Ev.bind ho (Ev.bind hn (Ev.bind hm (Ev.bind hna (Ev.bind hnb (Ev.bind hnr (ev_if_pos rfl (ev_if_pos rfl (ev_if_pos rfl (ev_if_pos rfl (ev_if_pos rfl j1))))))))))

end Go.Proofs.YtoggmegpodmfnaaDoor.Q
