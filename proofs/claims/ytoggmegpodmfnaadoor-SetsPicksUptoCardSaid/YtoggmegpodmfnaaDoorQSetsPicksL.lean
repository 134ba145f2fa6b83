/- The law's plain side (SetsPicksL): what the printed functions come to; each theorem states its own conditions. -/
import Derived.Test.YtoggmegpodmfnaaDoorPVx4
import Derived.Test.YtoggmegpodmfnaaDoorBSetsBand
import Derived.Test.YtoggmegpodmfnaaDoorBGlobSets
import Derived.Test.YtoggmegpodmfnaaDoorBSortK
import Derived.Test.YtoggmegpodmfnaaDoorQSetsRef
import Derived.Test.YtoggmegpodmfnaaDoorQSetsRef2
import Derived.Test.YtoggmegpodmfnaaDoorQSetsRef3
import Derived.Test.YtoggmegpodmfnaaDoorQSetsSize
import Derived.Test.YtoggmegpodmfnaaDoorQSetsPicksP
import Derived.Test.YtoggmegpodmfnaaDoorQSetsPicksA
import Derived.RangeFuncNested
import Derived.RangeFuncBound
import Derived.RangeFuncCalls
import Derived.RangeFuncLeaves
import Derived.RangeFuncFrom
import Derived.Shelf.Abstract
import Derived.Shelf.RegionOpen
import Derived.OwnWalkIn
import Derived.TacticsInMore
import Derived.LoopNIn
import Derived.LoopIn
import Derived.OneCell
namespace Go.Proofs.YtoggmegpodmfnaaDoor.Q
open Go.RowKit Go.Proofs.YtoggmegpodmfnaaDoorW.PrintWords Go.Proofs.YtoggmegpodmfnaaDoorW.PrintLast Go.Proofs.YtoggmegpodmfnaaDoorW.PrintMore Go.Proofs.YtoggmegpodmfnaaDoor.PV Go.Proofs.YtoggmegpodmfnaaDoor.B
set_option linter.unusedVariables false
set_option linter.unusedSimpArgs false
open Go.Shelf
attribute [local go_sem] Oper.semAt_some
/-- The units that the law has gathered: a box, and the row that it holds; all below the box as it was. -/
structure Us (nu : Nat) (Ds : List Nat) (w W : World) (v : Value) (pre : List Int) : Prop where
  box : W.heap[nu]? = some (.cells #[v] 23 (0, 0))
  own : W.ownsRow (nu + 1) 21 1 v pre.length (nums .i32 pre)
  below : Below nu w W
  defs : ∀ D ∈ Ds, W.heap[D]? = some (.deferred (some []))
theorem cells_ne {W : World} {b : Nat} {cs : Array Value} {t : TypeId} {fr : Nat × Nat} {r : Nat} (h : W.heap[b]? = some (.cells cs t fr)) (hr : ∃ o : Obj, W.heap[r]? = some o ∧ o.isCells = false) : b ≠ r := by
  rintro rfl
  obtain ⟨o, ho, hc⟩ := hr
  rw [h] at ho
  cases ho
  simp [Obj.isCells] at hc
theorem Us.grown {nu : Nat} {Ds : List Nat} {w A B : World} {v : Value} {pre : List Int} {row : Option Nat} (h : Us nu Ds w A v pre) (hn : nu ≤ w.heap.size) (hDs : ∀ D ∈ Ds, D < w.heap.size) (hg : A.grownBy B row)
    (hr : ∀ r, row = some r → w.heap.size ≤ r ∧ ∃ o : Obj, A.heap[r]? = some o ∧ o.isCells = false) : Us nu Ds w B v pre :=
  ⟨(hg.block nu (lt_of_block h.box) (fun e => cells_ne h.box (hr nu e.symm).2 rfl)).trans h.box,
    own_move h.own (fun k hk => by
      obtain ⟨cs, hc⟩ := own_typed h.own k hk
      exact hg.block k (lt_of_block hc) (fun e => cells_ne hc (hr k e.symm).2 rfl)),
    ownFrom_below (β := Unit) hn hn () A B row h.below hg hr,
    fun D hD => (hg.block D (lt_of_block (h.defs D hD)) (fun e => by have := (hr D e.symm).1; have := hDs D hD; omega)).trans (h.defs D hD)⟩
theorem Us.box7 {nu : Nat} {Ds : List Nat} {w W W1 : World} {v : Value} {pre : List Int} {o : Obj} (h : Us nu Ds w W v pre) (hg : (W.alloc o).grownBy W1 v.ownBlock) : W1.heap[nu]? = some (.cells #[v] 23 (0, 0)) :=
  ((hg.block nu (by have := lt_of_block h.box; simp; omega) (fun e => by have := own_base h.own nu e.symm; omega)).trans (Below.heap_alloc W o nu (lt_of_block h.box))).trans h.box
theorem Us.step {nu : Nat} {Ds : List Nat} {w W W1 : World} {v v' : Value} {pre : List Int} {x : Int} {o : Obj} (h : Us nu Ds w W v pre) (hDs : ∀ D ∈ Ds, D ≠ nu)
    (hown : W1.ownsRow (nu + 1) 21 1 v' (pre.length + 1) (nums .i32 pre ++ [.int .i32 x])) (hg : (W.alloc o).grownBy W1 v.ownBlock) :
    KeepsOthers W (W1.setCell ⟨nu, 0, none⟩ v') ∧ Kt nu W (W1.setCell ⟨nu, 0, none⟩ v') ∧ Us nu Ds w (W1.setCell ⟨nu, 0, none⟩ v') v' (pre ++ [x]) := by
  have hlt := lt_of_block h.box
  have hob : ∀ k, v.ownBlock = some k → nu + 1 ≤ k ∧ ∃ cs, W.heap[k]? = some (.cells cs 21 (0, 0)) := fun k hk => ⟨own_base h.own k hk, own_typed h.own k hk⟩
  have hal : ∀ k, k < W.heap.size → (W.alloc o).heap[k]? = W.heap[k]? := fun k hk => Below.heap_alloc W o k hk
  have hgb : ∀ k, k < W.heap.size → some k ≠ v.ownBlock → W1.heap[k]? = W.heap[k]? := fun k hk hne => (hg.block k (by simp; omega) hne).trans (hal k hk)
  have hbn : W1.heap[nu]? = some (.cells #[v] 23 (0, 0)) := (hgb nu hlt (fun e => by have := (hob nu e.symm).1; omega)).trans h.box
  have k1 : KeepsOthers W (W1.setCell ⟨nu, 0, none⟩ v') := ((KeepsOthers.alloc W o).trans (KeepsOthers.of_grownBy hg (fun j o' hj ho => by
    obtain ⟨_, cs, hc⟩ := hob j hj
    rw [hal j (lt_of_block hc), hc] at ho
    cases ho; rfl))).trans (KeepsOthers.setCell _ _ _)
  have bel : ∀ {w0 : World}, Below nu w0 W → Below nu w0 (W1.setCell ⟨nu, 0, none⟩ v') := fun hb =>
    (((hb.alloc (Nat.le_of_lt hlt) o).grown hg (by simp; omega) (fun k hk => by have := (hob k hk).1; omega)).setCell (p := ⟨nu, 0, none⟩) (Nat.le_refl _) _)
  refine ⟨k1, ⟨bel (Below.refl _ _), k1.walks, fun b cs fr hb => ?_⟩, ⟨one_setCell hbn, ?_, bel h.below, fun D hD => k1.same D _ (h.defs D hD) rfl⟩⟩
  · have hne : b ≠ nu := by
      rintro rfl
      rw [h.box] at hb
      injection hb with hb
      injection hb with _ hb
      exact absurd hb (by decide)
    refine (Below.heap_setCell _ ⟨nu, 0, none⟩ v' b hne).trans ((hgb b (lt_of_block hb) (fun e => ?_)).trans hb)
    obtain ⟨_, cs', hc⟩ := hob b e.symm
    rw [hc] at hb
    injection hb with hb
    injection hb with _ hb
    exact absurd hb (by decide)
  · have : W1.ownsRow (nu + 1) 21 1 v' (pre ++ [x]).length (nums .i32 (pre ++ [x])) := by rw [nums_append, List.length_append]; exact hown
    exact ownsRow_setCell_other this (fun e => by have := own_base this nu e; omega) _
theorem below_grown {w w' : World} (h : Below w.heap.size w w') : w.grownBy w' none := ⟨h.os, h.tape, h.output, h.size, fun k hk _ => h.block k hk⟩
theorem kt_below {n₀ : Nat} {W W' : World} (h : Below W.heap.size W W') (hn : n₀ ≤ W.heap.size) : KeepsOthers W W' ∧ Kt n₀ W W' := by
  have k : KeepsOthers W W' := KeepsOthers.of_grownBy (below_grown h) (fun j o hj => by cases hj)
  exact ⟨k, h.mono hn, k.walks, fun b cs fr hb => (h.block b (lt_of_block hb)).trans hb⟩
theorem Us.on {nu : Nat} {Ds : List Nat} {w W W' : World} {v : Value} {pre : List Int} (h : Us nu Ds w W v pre) (hb : Below W.heap.size W W') : Us nu Ds w W' v pre :=
  ⟨(hb.block nu (lt_of_block h.box)).trans h.box, own_move h.own (fun k hk => by obtain ⟨cs, hc⟩ := own_typed h.own k hk; exact hb.block k (lt_of_block hc)),
    h.below.trans (hb.mono (Nat.le_of_lt (lt_of_block h.box))), fun D hD => (hb.block D (lt_of_block (h.defs D hD))).trans (h.defs D hD)⟩
/-- How a round of a range over a set's units is left. -/
def RoundPost (n₀ id : Nat) (P : List Int) (I X : List Int → World → Prop) (pre : List Int) (W : World) (e : Exit) (W' : World) : Prop :=
  KeepsOthers W W' ∧ ((e = .normal ∧ Kt n₀ W W' ∧ I pre W') ∨ (e = .ret ∧ ¬ pre <+: P) ∨ (e = .exit id ∧ X pre W'))
/-- The frame of a round. -/
def inRd (a : Act) (p p' : Tmp) (x : Int) : Act := { tmps := (a.tmps.setIfInBounds p (.int .i32 x)).setIfInBounds p' (.int .i32 x), defers := [] }
theorem each_loop {g : Operand} {ps : Array Tmp} {assign body : Code} {Q : Exit → Act → World → Prop} {a : Act} {w : World} {n : Nat} (n₀ id : Nat) (P : List Int) (I X : List Int → World → Prop)
    (h1 : 1 ≤ n) {gf : Nat} {lb : Array Value} (hg : a.eval g = .func (.func gf) #[] lb) (eg : ∀ args w, (callFunc gf args).run Tryd.prog w = .ok (.enter gf args) w)
    (hseq : SeqStopsK Fence.wide (n - 1) Tryd.prog gf lb (fun x : Int => #[.int .i32 x]) (Kt n₀) (fun xs => xs = P) (fun pre => pre <+: P) P.length w)
    (hps : ps.size = 1) (hn : n₀ ≤ w.heap.size) (hI : OwnFrom w.heap.size I) (hX : OwnFrom w.heap.size X) (h0 : I [] w) (p p' : Tmp)
    (hassign : ∀ (l : Nat) (x : Int) (W : World) (K : Act → World → Prop), K (inRd a p p' x) W →
      assign.wpIn (Fence.wide.inRound l) (n - 1 - 1) Tryd.prog (Exit.then K (fun _ _ _ => False)) { tmps := (ps.zip #[Value.int .i32 x]).foldl (fun t (p, v) => t.setIfInBounds p v) a.tmps, defers := [] } W)
    (hbody : ∀ (l : Nat) (pre : List Int) (x : Int) (W : World), I pre W → pre.length < P.length →
      body.wpIn (Fence.wide.inRound l) (n - 1 - 1) Tryd.prog (fun e _ W' => RoundPost n₀ id P I X (pre ++ [x]) W e W') (inRd a p p' x) W)
    (hexit : (∃ pre W, X pre W) → ∀ a W, Q .normal a W → Q (.exit id) a W)
    (key : ∀ (D : Nat) (W : World), w.heap.size ≤ D → (I P W ∨ ∃ pre, X pre W) → W.heap[D]? = some (.deferred (some [])) → Q .normal { a with defers := { target := .collected D, args := #[] } :: a.defers } W) :
    (Code.rangeFunc g ps assign body).wpIn Fence.wide n Tryd.prog Q a w := by
  refine wpIn_rangeFunc_ownF rfl h1 hg trivial eg hseq kt_t (fun W l o o' hl h hc hw => ⟨belowK_b hn W l o o' hl h hc hw, KeepsWalks.putObj _ h hw, fun b cs fr hb => ?_⟩) (Below.refl _ _) (fun _ => hps.symm)
    I (fun c pre W => (c = .ret ∧ ¬ pre <+: P) ∨ (c = .exit id ∧ X pre W)) hI ?ix h0 (inRd a p p') hassign ?body ?done ?stop
  · have hne : b ≠ l := cells_ne hb ⟨o, h, hc⟩
    exact (World.putObj_heap_other hne).trans hb
  case ix =>
    intro c s A B row hs hg hr
    exact hs.imp (fun h => h) (fun h => ⟨h.1, hX s A B row h.2 hg hr⟩)
  case body =>
    intro l pre x W hi hlen
    refine wpIn_mono (hbody l pre x W hi hlen) ?_
    rintro e a' W' ⟨hk, ⟨rfl, hkt, hI'⟩ | ⟨rfl, hnp⟩ | ⟨rfl, hx⟩⟩
    · exact ⟨hk, hkt, hI'⟩
    · exact ⟨hk, .inl ⟨rfl, hnp⟩⟩
    · exact ⟨hk, .inr ⟨rfl, hx⟩⟩
  case done =>
    rintro D xs W hD rfl hi hK
    exact key D W hD (.inl hi) hK
  case stop =>
    rintro D c pre W hD hpre (⟨rfl, hnp⟩ | ⟨rfl, hx⟩) hK
    · exact absurd hpre hnp
    · exact wpIn_exit (hexit ⟨_, _, hx⟩ _ _ (key D W hD (.inr ⟨pre, hx⟩) hK))
theorem putObj_cell {W : World} {D : Nat} {o : Obj} {a : Addr} (h : a.block ≠ D) : (W.putObj D o).cell? a = W.cell? a := by
  simp [World.putObj, World.cell?, Array.getElem?_setIfInBounds, Ne.symm h]
theorem putObj_heap {W : World} {D E : Nat} {o : Obj} (h : E ≠ D) : (W.putObj D o).heap[E]? = W.heap[E]? := by
  simp [World.putObj, Array.getElem?_setIfInBounds, Ne.symm h]
theorem putObj_below {B : Nat} {w W : World} {D : Nat} {o : Obj} (h : Below B w W) (hD : B ≤ D) : Below B w (W.putObj D o) :=
  ⟨h.os, h.tape, h.output, by simp [World.putObj]; exact h.size, fun k hk => (putObj_heap (by omega)).trans (h.block k hk)⟩
/-- A function's way out over the marks of its ranges over functions: its one result lies in a cell. -/
theorem leave_marks {F : Fence} {n : Nat} {P : Program} {fn : Func} {tmps : Array Value} {R : Ending → World → Prop} {B : Nat} {w0 : World} {a : Addr} {v : Value}
    (hres : ∀ W : World, W.cell? a = some v → (results fn tmps).run P W = .ok v W) (hR : ∀ W', Below B w0 W' → R (.returned v) W') :
    ∀ (Ds : List Nat) (W : World), Ds.Nodup → (∀ D ∈ Ds, W.heap[D]? = some (.deferred (some [])) ∧ B ≤ D ∧ a.block ≠ D) → W.cell? a = some v → Below B w0 W →
      LeavesInM F n P fn tmps R (Ds.map fun D => { target := .collected D, args := #[] }) .returning W
  | [], W, _, _, hc, hb => ⟨v, hres W hc, hR W hb⟩
  | D :: Ds, W, hn, hD, hc, hb => by
    have h0 := hD D List.mem_cons_self
    refine ⟨by simp, .inl ⟨D, _, rfl, run_takeDeferred h0.1, leave_marks hres hR Ds _ (List.nodup_cons.1 hn).2 (fun E hE => ?_) ((putObj_cell h0.2.2).trans hc) (putObj_below hb h0.2.1)⟩⟩
    have hE' := hD E (List.mem_cons_of_mem _ hE)
    exact ⟨(putObj_heap (by rintro rfl; exact (List.nodup_cons.1 hn).1 hE)).trans hE'.1, hE'.2⟩
theorem pre_next {P pre : List Int} {x : Int} (h : (pre ++ [x]) <+: P) : pre.length < P.length ∧ P[pre.length]? = some x := by
  obtain ⟨r, rfl⟩ := h
  simp
theorem pre_sorted {P pre : List Int} {x : Int} (hs : P.Pairwise (· < ·)) (h : (pre ++ [x]) <+: P) : ∀ y ∈ pre, y < x := by
  have := hs.sublist h.sublist
  exact fun y hy => (List.pairwise_append.1 this).2.2 y hy x (by simp)
/-- What a round of the law's first loop asks, if the unit is the next one. -/
theorem units_next {s : List Rg} (hs : Sound s) {pre : List Int} {x : Int} (h : (pre ++ [x]) <+: units s) : mem s (wrap64 x) = true ∧ (∀ m : Nat, pre.length = m + 1 → ¬ rd pre (m : Int) ≥ x) ∧ ¬ (pre.length : Int) ≥ sz s := by
  have hm : x ∈ units s := h.sublist.subset (by simp)
  have hmem := (mem_units s x).1 hm
  have hu := hs.unit hmem
  have hw : wrap64 x = x := by
    have hb := bandOf_cases x
    have : 0 ≤ bandOf x := by simpa [isU] using hu
    unfold wrap64; omega
  have hl := units_len s hs
  have hlt := (pre_next h).1
  refine ⟨by rw [hw]; exact hmem, fun m hm => ?_, by omega⟩
  have hin : rd pre (m : Int) ∈ pre := by
    unfold rd
    rw [Int.toNat_natCast, List.getD_eq_getElem?_getD, List.getElem?_eq_getElem (by omega)]
    exact List.getElem_mem _
  have := pre_sorted (units_sorted s hs) h _ hin
  omega
theorem ret_post {n₀ id : Nat} {P : List Int} {I X : List Int → World → Prop} {pre : List Int} {W W6 : World} {a : Addr} {v : Value} (hb : Below W.heap.size W W6) (h : ¬ pre <+: P) : RoundPost n₀ id P I X pre W .ret (W6.setCell a v) :=
  ⟨((kt_below hb (Nat.le_refl _)).1).trans (KeepsOthers.setCell _ _ _), .inr (.inl ⟨rfl, h⟩)⟩
theorem step_post {nu id : Nat} {P : List Int} {X : List Int → World → Prop} {wU W W6 W7 : World} {v v' : Value} {pre : List Int} {x : Int} {o : Obj} (hb : Below W.heap.size W W6) (h0 : Us nu [] wU W v pre) (h : Us nu [] wU W6 v pre)
    (hown : W7.ownsRow (nu + 1) 21 1 v' (pre.length + 1) (nums .i32 pre ++ [.int .i32 x])) (hg : (W6.alloc o).grownBy W7 v.ownBlock) :
    RoundPost nu id P (fun pre W => ∃ v, Us nu [] wU W v pre) X (pre ++ [x]) W .normal (W7.setCell ⟨nu, 0, none⟩ v') := by
  have hk := kt_below hb (Nat.le_of_lt (lt_of_block h0.box))
  obtain ⟨k1, k2, k3⟩ := h.step (fun D hD => by cases hD) hown hg
  exact ⟨hk.1.trans k1, .inl ⟨rfl, kt_t hk.2 k2, _, k3⟩⟩
theorem pre_bound {s : List Rg} (hs : Sound s) {pre : List Int} (h : pre.length < (units s).length) : pre.length + 1 ≤ 1114368 := by
  have := units_len s hs
  have := sz_bound hs
  omega
theorem last_wrap {n m : Nat} (h : n = m + 1) (hn : n ≤ 1114368) : wrap64 ((n : Int) - 1) = (m : Int) := by unfold wrap64; omega
theorem le_max_len {n : Nat} (h : n + 1 ≤ 1114368) : n + 1 ≤ maxLen := by unfold maxLen; omega
theorem le_bytes {n : Nat} (h : n + 1 ≤ 1114368) : (n + 1) * 4 ≤ 140737488355328 := by omega
theorem us_room {nu : Nat} {Ds : List Nat} {w W : World} {v : Value} {pre : List Int} (h : Us nu Ds w W v pre) (nd : Nat) (o : Obj) : nu + 1 ≤ ((W.drewN nd).alloc o).heap.size := by
  have := lt_of_block h.box
  simp [World.drewN]; omega
theorem own_form_p {w : World} {base n size : Nat} {e : TypeId} {v : Value} {xs : List Value} (h : w.ownsRow base e size v n xs) : ∃ A c, v = .slice A n c := by
  rcases h.2 with ⟨rfl, rfl⟩ | ⟨g, cap, cur, rfl, _⟩
  · exact ⟨none, 0, rfl⟩
  · exact ⟨_, _, rfl⟩
/-- The law's count: its box; all below it as it was; the mark of the first loop. -/
structure Kb (nk D1 : Nat) (w W : World) (v : Int) : Prop where
  box : W.heap[nk]? = some (.cells #[.int .i64 v] 3 (0, 0))
  below : Below nk w W
  mark : W.heap[D1]? = some (.deferred (some []))
theorem Kb.grown {nk D1 : Nat} {w A B : World} {v : Int} {row : Option Nat} (h : Kb nk D1 w A v) (hn : nk ≤ w.heap.size) (hD : D1 < w.heap.size) (hg : A.grownBy B row)
    (hr : ∀ r, row = some r → w.heap.size ≤ r ∧ ∃ o : Obj, A.heap[r]? = some o ∧ o.isCells = false) : Kb nk D1 w B v :=
  ⟨(hg.block nk (lt_of_block h.box) (fun e => cells_ne h.box (hr nk e.symm).2 rfl)).trans h.box, ownFrom_below (β := Unit) hn hn () A B row h.below hg hr,
    (hg.block D1 (lt_of_block h.mark) (fun e => by have := (hr D1 e.symm).1; omega)).trans h.mark⟩
theorem Kb.put {nk D1 : Nat} {w W : World} {v : Int} (h : Kb nk D1 w W v) (v' : Int) : KeepsOthers W (W.setCell ⟨nk, 0, none⟩ (.int .i64 v')) ∧ Kt nk W (W.setCell ⟨nk, 0, none⟩ (.int .i64 v')) ∧ Kb nk D1 w (W.setCell ⟨nk, 0, none⟩ (.int .i64 v')) v' := by
  have k : KeepsOthers W (W.setCell ⟨nk, 0, none⟩ (.int .i64 v')) := KeepsOthers.setCell _ _ _
  refine ⟨k, ⟨(Below.refl _ _).setCell (p := ⟨nk, 0, none⟩) (Nat.le_refl _) _, k.walks, fun b cs fr hb => ?_⟩, one_setCell h.box, h.below.setCell (p := ⟨nk, 0, none⟩) (Nat.le_refl _) _, k.same D1 _ h.mark rfl⟩
  have hne : b ≠ nk := by
    rintro rfl
    rw [h.box] at hb
    injection hb with hb
    injection hb with _ hb
    exact absurd hb (by decide)
  exact (Below.heap_setCell _ ⟨nk, 0, none⟩ _ b hne).trans hb
def KI (P : List Int) (nk D1 : Nat) (w : World) (pre : List Int) (W : World) : Prop := pre <+: P ∧ Kb nk D1 w W (pre.length : Int)
def KX (stop : Int) (nk D1 : Nat) (w : World) (_ : List Int) (W : World) : Prop := Kb nk D1 w W stop
theorem kret_post {n₀ id : Nat} {P : List Int} {I X : List Int → World → Prop} {pre : List Int} {x y : Int} {W : World} {a : Addr} {v : Value} (hy : P[pre.length]? = some y) (h : x ≠ y) : RoundPost n₀ id P I X (pre ++ [x]) W .ret (W.setCell a v) :=
  ⟨KeepsOthers.setCell _ _ _, .inr (.inl ⟨rfl, fun hp => h (by have := (pre_next hp).2; rw [hy] at this; exact (Option.some.inj this).symm)⟩)⟩
theorem pre_snoc {P pre : List Int} {y : Int} (h : pre <+: P) (hy : P[pre.length]? = some y) : (pre ++ [y]) <+: P := by
  obtain ⟨r, rfl⟩ := h
  cases r with
  | nil => simp at hy
  | cons z r => simp at hy; subst hy; exact ⟨r, by simp⟩
theorem knorm_post {nk D1 id : Nat} {P : List Int} {w : World} {X : List Int → World → Prop} {pre : List Int} {x y : Int} {W : World} {j : Int} (hI : KI P nk D1 w pre W) (hy : P[pre.length]? = some y) (h : x = y) (hj : j = (pre.length : Int) + 1) :
    RoundPost nk id P (KI P nk D1 w) X (pre ++ [x]) W .normal (W.setCell ⟨nk, 0, none⟩ (.int .i64 j)) := by
  subst h
  obtain ⟨k1, k2, k3⟩ := hI.2.put j
  exact ⟨k1, .inl ⟨rfl, k2, pre_snoc hI.1 hy, by rw [List.length_append, List.length_singleton, Int.natCast_add]; rw [hj] at k3 ⊢; exact k3⟩⟩
theorem kexit_post {nk D1 id : Nat} {P : List Int} {w : World} {stop : Int} {pre : List Int} {x : Int} {W : World} {j : Int} (hI : KI P nk D1 w pre W) (hj : j = stop) :
    RoundPost nk id P (KI P nk D1 w) (KX stop nk D1 w) (pre ++ [x]) W (.exit id) (W.setCell ⟨nk, 0, none⟩ (.int .i64 j)) := by
  obtain ⟨k1, k2, k3⟩ := hI.2.put j
  exact ⟨k1, .inr (.inr ⟨rfl, by rw [hj] at k3 ⊢; exact k3⟩)⟩
theorem ne_self (x : Int) : (x != x) = false := by simp
theorem rd_get {l : List Int} {k : Nat} {y : Int} (h : l[k]? = some y) : rd l (k : Int) = y := by unfold rd; rw [Int.toNat_natCast, List.getD_eq_getElem?_getD, h]; rfl
theorem units_small {s : List Rg} (hs : Sound s) : (units s).length ≤ 1114368 := by have := units_len s hs; have := sz_bound hs; omega
theorem lt_sz {s : List Rg} (hs : Sound s) {k : Nat} (h : k < (units s).length) : decide (sz s ≤ (k : Int)) = false := decide_eq_false (by have := units_len s hs; omega)
theorem bne_of_not {a b : Int} (h : ¬ a = b) : (a != b) = true := by simpa using h
theorem pick_at {s : List Rg} (hs : Sound s) {k : Int} (hk : k ≤ 9223372036854775807) : ∃ K, sets_Pick.f K s k = some (if 0 ≤ k ∧ k < sz s then rd (units s) k else 0, if 0 ≤ k ∧ k < sz s then 0 else 2) := by
  obtain ⟨K, h⟩ := pick_is s hs k hk
  refine ⟨K, (h K (Nat.le_refl _)).trans ?_⟩
  by_cases hc : 0 ≤ k ∧ k < sz s
  · simp only [if_pos hc]
  · simp only [if_neg hc]
theorem rd_in {l : List Int} {i : Nat} (h : i < l.length) : rd l (i : Int) ∈ l := by
  unfold rd
  rw [Int.toNat_natCast, List.getD_eq_getElem?_getD, List.getElem?_eq_getElem h]
  exact List.getElem_mem _
theorem nat_lt_ne {i n : Nat} (h : ¬ i < n) (h2 : i ≤ n) : i = n := by omega
theorem pick_two {s : List Rg} (hs : Sound s) {k : Int} (hk : k ≤ 9223372036854775807) : ∃ K r1 r2, sets_Pick.f K s k = some (r1, r2) ∧ ((0 ≤ k ∧ k < sz s ∧ r1 = rd (units s) k ∧ r2 = 0) ∨ (¬ (0 ≤ k ∧ k < sz s) ∧ r1 = 0 ∧ r2 = 2)) := by
  obtain ⟨K, h⟩ := pick_at hs hk
  by_cases hc : 0 ≤ k ∧ k < sz s
  · exact ⟨K, _, _, h, .inl ⟨hc.1, hc.2, if_pos hc, if_pos hc⟩⟩
  · exact ⟨K, _, _, h, .inr ⟨hc, if_neg hc, if_neg hc⟩⟩
theorem two_nodup {a b : Nat} (h : a < b) : [b, a].Nodup := by simp; omega
theorem mark_on {W : World} {D n : Nat} {v : Value} {o : Obj} (h : W.heap[D]? = some o) (hn : n + 1 < D) : (W.setCell ⟨n + 1, 0, none⟩ v).heap[D]? = some o ∧ n ≤ D ∧ (⟨n + 1, 0, none⟩ : Addr).block ≠ D :=
  ⟨(Below.heap_setCell _ ⟨n + 1, 0, none⟩ _ D (by show D ≠ n + 1; omega)).trans h, by omega, by show n + 1 ≠ D; omega⟩

end Go.Proofs.YtoggmegpodmfnaaDoor.Q
