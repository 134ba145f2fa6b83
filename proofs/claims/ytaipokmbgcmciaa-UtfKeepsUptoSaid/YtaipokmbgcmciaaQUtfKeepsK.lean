/- The law's plain side (UtfKeepsK): what the printed functions come to; each theorem states its own conditions. -/
import Derived.Test.YtaipokmbgcmciaaBAppKeep
import Derived.Test.YtaipokmbgcmciaaQUtfKeepsM
import Derived.Test.YtaipokmbgcmciaaQUtfKeepsN
import Derived.Test.YtaipokmbgcmciaaQUtfKeepsA
import Derived.Test.YtaipokmbgcmciaaQUtfKeepsB
import Derived.Test.YtaipokmbgcmciaaQUtfKeepsJ
import Derived.OneCell
namespace Go.Proofs.Ytaipokmbgcmciaa.Q
open Go.RowKit Go.Proofs.YtaipokmbgcmciaaW.PrintWords Go.Proofs.YtaipokmbgcmciaaW.PrintLast Go.Proofs.YtaipokmbgcmciaaW.PrintMore Go.Proofs.Ytaipokmbgcmciaa.PK Go.Proofs.Ytaipokmbgcmciaa.B
set_option linter.unusedVariables false
set_option linter.unusedSimpArgs false
/-- What stands while the law's last region runs: the world of the entry, want[0]'s cell and row, the rows p and q. -/
structure Held (w0 : World) (lo sp tp tq : Nat) (wa : Addr) (A : Option Addr) (c : Nat) (U : List Int) (vp vq : Value) (np : Nat) (W : World) : Prop where
  below : Below w0.heap.size w0 W
  cell : W.cell? wa = some (.slice A U.length c)
  hlo : lo < wa.block
  hhi : wa.block < sp
  want : W.ownsRow (lo + 1) 21 1 (.slice A U.length c) U.length (nums .i32 U)
  wlt : ∀ b, (Value.slice A U.length c).ownBlock = some b → b < wa.block
  p : Span 3 .i64 sp tp W vp np
  q : Span 3 .i64 tp tq W vq np
  pq : sp ≤ tp
theorem Span.out {e : TypeId} {k : IntKind} {s t n base m : Nat} {w W : World} {v : Value} {vs : Nat → Value} (h : Span e k s t w v n) (ho : Out base m vs w W) (hn : ∀ i b, i < m → (vs i).ownBlock = some b → b < s ∨ t ≤ b) : Span e k s t W v n := by
  obtain ⟨xs, hx⟩ := h.own
  refine ⟨⟨xs, own_move hx (fun b hb => ?_)⟩, h.lt⟩
  refine ho.kept.2 b (own_lt hx b hb) ?_
  rintro ⟨i, hi, e1⟩
  have h1 := hn i b hi e1
  have h2 := h.le b hb
  have h3 := h.lt b hb
  omega
theorem Held.out {w0 : World} {lo sp tp tq c np base m : Nat} {wa : Addr} {A : Option Addr} {U : List Int} {vp vq : Value} {W W' : World} {vs : Nat → Value} (h : Held w0 lo sp tp tq wa A c U vp vq np W) (ho : Out base m vs W W') (hb : w0.heap.size ≤ base)
    (hv : ∀ i b, i < m → (vs i).ownBlock = some b → b < lo) : Held w0 lo sp tp tq wa A c U vp vq np W' := by
  refine ⟨h.below.trans (ho.below.mono hb), ho.cell h.cell (fun i hi e => ?_), h.hlo, h.hhi, own_move h.want (fun b hb => ho.kept.2 b (own_lt h.want b hb) ?_), h.wlt, h.p.out ho (fun i b hi e => ?_), h.q.out ho (fun i b hi e => ?_), h.pq⟩
  · have := hv i _ hi e; have := h.hlo; omega
  · rintro ⟨i, hi, e⟩
    have := hv i _ hi e
    have := own_base h.want b hb
    omega
  · have := hv i _ hi e; have := h.hlo; have := h.hhi; omega
  · have := hv i _ hi e; have := h.hlo; have := h.hhi; have := h.pq; omega
theorem Held.step {w0 : World} {lo sp tp tq c np : Nat} {wa : Addr} {A : Option Addr} {U : List Int} {vp vq : Value} {W W' : World} (h : Held w0 lo sp tp tq wa A c U vp vq np W) (hb : Below W.heap.size W W') : Held w0 lo sp tp tq wa A c U vp vq np W' :=
  ⟨below_step h.below hb, cell_on hb h.cell, h.hlo, h.hhi, own_move h.want (fun b hbb => hb.block b (own_lt h.want b hbb)), h.wlt, h.p.below hb, h.q.below hb, h.pq⟩
/-- The same without p and q. -/
structure Held2 (w0 : World) (wa : Addr) (A : Option Addr) (c : Nat) (U : List Int) (W : World) : Prop where
  below : Below w0.heap.size w0 W
  cell : W.cell? wa = some (.slice A U.length c)
  want : ∃ s, W.ownsRow s 21 1 (.slice A U.length c) U.length (nums .i32 U)
theorem Held2.step {w0 : World} {c : Nat} {wa : Addr} {A : Option Addr} {U : List Int} {W W' : World} (h : Held2 w0 wa A c U W) (hb : Below W.heap.size W W') : Held2 w0 wa A c U W' := by
  obtain ⟨s, hw⟩ := h.want
  exact ⟨below_step h.below hb, cell_on hb h.cell, ⟨s, own_move hw (fun b hbb => hb.block b (own_lt hw b hbb))⟩⟩
theorem Held2.reads {w0 : World} {c : Nat} {wa : Addr} {A : Option Addr} {U : List Int} {W : World} (h : Held2 w0 wa A c U W) : U.length ≤ c ∧ Kd.C (Kd.int .i32) W A U.length U := by
  obtain ⟨s, hw⟩ := h.want
  exact (Kd.R_reads' (Kd.R_of_own (ok := fun _ => True) (h1 := fun _ => rfl) (enc := Value.int .i32) hw (fun _ _ => trivial))).2
theorem Held.nums {w0 : World} {lo sp tp tq c np base : Nat} {wa : Addr} {A : Option Addr} {U : List Int} {vp vq : Value} {W W' : World} (h : Held w0 lo sp tp tq wa A c U vp vq np W) (ho : Out base 2 (vs2 vp vq) W W') (hb : w0.heap.size ≤ base) : Held2 w0 wa A c U W' := by
  have hv : ∀ i b, i < 2 → (vs2 vp vq i).ownBlock = some b → sp ≤ b := by
    intro i b hi e
    match i, hi with
    | 0, _ => exact h.p.le b e
    | 1, _ => exact Nat.le_trans h.pq (h.q.le b e)
  refine ⟨h.below.trans (ho.below.mono hb), ho.cell h.cell (fun i hi e => ?_), ⟨_, own_move h.want (fun b hb => ho.kept.2 b (own_lt h.want b hb) ?_)⟩⟩
  · have := hv i _ hi e; have := h.hhi; omega
  · rintro ⟨i, hi, e⟩
    have := hv i _ hi e
    have := h.wlt b hb
    have := h.hhi
    omega
theorem apart_held {w0 W : World} {lo sp tp tq c np na nb nc nd s0 s1 s2 s3 : Nat} {wa : Addr} {A : Option Addr} {U : List Int} {vp vq a b cc d : Value} (h : Held w0 lo sp tp tq wa A c U vp vq np W) (hs0 : w0.heap.size ≤ s0) (h01 : s0 ≤ s1) (h12 : s1 ≤ s2) (h23 : s2 ≤ s3) (h3 : s3 ≤ lo)
    (ha : Span 21 .i32 s0 s1 W a na) (hb : Span 21 .i32 s1 s2 W b nb) (hc : Span 21 .i32 s2 s3 W cc nc) (hd : Span 21 .i32 s3 lo W d nd) (hna : na ≤ 16777216) (hnb : nb ≤ 16777216) (hnc : nc ≤ 16777216) (hnd : nd ≤ 16777216)
    (hgf : W.heap[lo]? = some (.cells #[a, b, cc, d] 22)) :
    Calls Try.prog 18 #[.slice (some ⟨lo, 0, none⟩) 4 4] W fun e w' => e = .returned (.bool true) ∧ Held w0 lo sp tp tq wa A c U vp vq np w' := by
  have hlt : ∀ i bl, i < 4 → (vs4 a b cc d i).ownBlock = some bl → bl < lo := by
    intro i bl hi e
    match i, hi with
    | 0, _ => have := ha.lt bl e; omega
    | 1, _ => have := hb.lt bl e; omega
    | 2, _ => have := hc.lt bl e; omega
    | 3, _ => have := hd.lt bl e; omega
  refine (apart_calls ⟨lo, 0, none⟩ 4 4 w0.heap.size (by decide) (vs4 a b cc d) (ns4 na nb nc nd) W (below_size h.below) (fun i hi => ?_) (inv1_four hs0 h01 h12 h23 ha hb hc hd) (fun i hi e => Nat.lt_irrefl _ (hlt i _ hi e)) (fun i hi => ?_)).mono fun e w' ⟨he, ho⟩ => ⟨he, h.out ho (Nat.le_refl _) hlt⟩
  · rw [add_plain, blk_cell hgf]
    match i, hi with
    | 0, _ => rfl
    | 1, _ => rfl
    | 2, _ => rfl
    | 3, _ => rfl
  · match i, hi with
    | 0, _ => exact hna
    | 1, _ => exact hnb
    | 2, _ => exact hnc
    | 3, _ => exact hnd
theorem apartNums_held {w0 W : World} {lo sp tp tq c np : Nat} {wa : Addr} {A : Option Addr} {U : List Int} {vp vq : Value} (h : Held w0 lo sp tp tq wa A c U vp vq np W) (hs : w0.heap.size ≤ sp) (hnp : np ≤ 16777216) :
    Calls Try.prog 19 #[vp, vq] W fun e w' => e = .returned (.bool true) ∧ Held2 w0 wa A c U w' := by
  refine (apartNums_calls w0.heap.size (vs2 vp vq) (ns2 np np) W (below_size h.below) (Nm.inv1_two hs h.pq h.p h.q) (fun i hi => ?_)).mono fun e w' ⟨he, ho⟩ => ⟨he, h.nums ho (Nat.le_refl _)⟩
  match i, hi with
  | 0, _ => exact hnp
  | 1, _ => exact hnp

end Go.Proofs.Ytaipokmbgcmciaa.Q
