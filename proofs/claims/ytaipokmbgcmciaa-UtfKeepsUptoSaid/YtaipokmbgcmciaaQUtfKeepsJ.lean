/- The law's plain side (UtfKeepsJ): what the printed functions come to; each theorem states its own conditions. -/
import Derived.Test.YtaipokmbgcmciaaBAppKeep
import Derived.Test.YtaipokmbgcmciaaQUtfKeepsM
import Derived.Test.YtaipokmbgcmciaaQUtfKeepsN
import Derived.OneCell
namespace Go.Proofs.Ytaipokmbgcmciaa.Q
open Go.RowKit Go.Proofs.YtaipokmbgcmciaaW.PrintWords Go.Proofs.YtaipokmbgcmciaaW.PrintLast Go.Proofs.YtaipokmbgcmciaaW.PrintMore Go.Proofs.Ytaipokmbgcmciaa.PK Go.Proofs.Ytaipokmbgcmciaa.B
set_option linter.unusedVariables false
set_option linter.unusedSimpArgs false
/-- Rows of unlike blocks: all that apart asks of what it is given. -/
theorem inv1_of {base m : Nat} {vs : Nat → Value} {ns : Nat → Nat} {W : World} (ho : ∀ k, k < m → ∃ xs : List Int, W.ownsRow base 21 1 (vs k) (ns k) (nums .i32 xs))
    (hne : ∀ i j b, i < m → j < m → (vs i).ownBlock = some b → (vs j).ownBlock = some b → i = j) : Inv1 base m vs ns W (fun _ => 0) := by
  classical
  refine ⟨fun b => if h : ∃ k, k < m ∧ (vs k).ownBlock = some b then Classical.choose h else 0, fun k hk => ?_⟩
  obtain ⟨xs, hx⟩ := ho k hk
  refine ⟨⟨xs, hx, fun j hj => absurd hj (Nat.not_lt_zero _)⟩, Nat.zero_le _, fun b hb => ?_⟩
  have h : ∃ k, k < m ∧ (vs k).ownBlock = some b := ⟨k, hk, hb⟩
  rw [dif_pos h]
  exact hne _ _ b (Classical.choose_spec h).1 hk (Classical.choose_spec h).2 hb
theorem Nm.inv1_of {base m : Nat} {vs : Nat → Value} {ns : Nat → Nat} {W : World} (ho : ∀ k, k < m → ∃ xs : List Int, W.ownsRow base 3 1 (vs k) (ns k) (nums .i64 xs))
    (hne : ∀ i j b, i < m → j < m → (vs i).ownBlock = some b → (vs j).ownBlock = some b → i = j) : Nm.Inv1 base m vs ns W (fun _ => 0) := by
  classical
  refine ⟨fun b => if h : ∃ k, k < m ∧ (vs k).ownBlock = some b then Classical.choose h else 0, fun k hk => ?_⟩
  obtain ⟨xs, hx⟩ := ho k hk
  refine ⟨⟨xs, hx, fun j hj => absurd hj (Nat.not_lt_zero _)⟩, Nat.zero_le _, fun b hb => ?_⟩
  have h : ∃ k, k < m ∧ (vs k).ownBlock = some b := ⟨k, hk, hb⟩
  rw [dif_pos h]
  exact hne _ _ b (Classical.choose_spec h).1 hk (Classical.choose_spec h).2 hb
def vs4 (a b c d : Value) : Nat → Value := fun k => if k = 0 then a else if k = 1 then b else if k = 2 then c else d
def ns4 (a b c d : Nat) : Nat → Nat := fun k => if k = 0 then a else if k = 1 then b else if k = 2 then c else d
def vs2 (a b : Value) : Nat → Value := fun k => if k = 0 then a else b
def ns2 (a b : Nat) : Nat → Nat := fun k => if k = 0 then a else b
/-- A row that was made in the span of worlds from size s to size t. -/
structure Span (e : TypeId) (k : IntKind) (s t : Nat) (W : World) (v : Value) (n : Nat) : Prop where
  own : ∃ xs : List Int, W.ownsRow s e 1 v n (nums k xs)
  lt : ∀ b, v.ownBlock = some b → b < t
theorem Span.below {e : TypeId} {k : IntKind} {s t n : Nat} {W W' : World} {v : Value} (h : Span e k s t W v n) (hb : Below W.heap.size W W') : Span e k s t W' v n := by
  obtain ⟨xs, ho⟩ := h.own
  exact ⟨⟨xs, own_move ho (fun b hbb => hb.block b (own_lt ho b hbb))⟩, h.lt⟩
theorem Span.le {e : TypeId} {k : IntKind} {s t n : Nat} {W : World} {v : Value} (h : Span e k s t W v n) (b : Nat) (hb : v.ownBlock = some b) : s ≤ b := by
  obtain ⟨xs, ho⟩ := h.own
  exact own_base ho b hb
theorem inv1_four {base s0 s1 s2 s3 s4 na nb nc nd : Nat} {a b c d : Value} {W : World} (h0 : base ≤ s0) (h01 : s0 ≤ s1) (h12 : s1 ≤ s2) (h23 : s2 ≤ s3)
    (ha : Span 21 .i32 s0 s1 W a na) (hb : Span 21 .i32 s1 s2 W b nb) (hc : Span 21 .i32 s2 s3 W c nc) (hd : Span 21 .i32 s3 s4 W d nd) : Inv1 base 4 (vs4 a b c d) (ns4 na nb nc nd) W (fun _ => 0) := by
  refine inv1_of (fun k hk => ?_) (fun i j bl hi hj ei ej => ?_)
  · match k, hk with
    | 0, _ => obtain ⟨xs, h⟩ := ha.own; exact ⟨xs, own_less h h0⟩
    | 1, _ => obtain ⟨xs, h⟩ := hb.own; exact ⟨xs, own_less h (by omega)⟩
    | 2, _ => obtain ⟨xs, h⟩ := hc.own; exact ⟨xs, own_less h (by omega)⟩
    | 3, _ => obtain ⟨xs, h⟩ := hd.own; exact ⟨xs, own_less h (by omega)⟩
  · have A := fun h => And.intro (ha.le bl h) (ha.lt bl h)
    have B := fun h => And.intro (hb.le bl h) (hb.lt bl h)
    have C := fun h => And.intro (hc.le bl h) (hc.lt bl h)
    have D := fun h => And.intro (hd.le bl h) (hd.lt bl h)
    match i, hi, j, hj with
    | 0, _, 0, _ => rfl
    | 1, _, 1, _ => rfl
    | 2, _, 2, _ => rfl
    | 3, _, 3, _ => rfl
    | 0, _, 1, _ => have := A ei; have := B ej; omega
    | 0, _, 2, _ => have := A ei; have := C ej; omega
    | 0, _, 3, _ => have := A ei; have := D ej; omega
    | 1, _, 0, _ => have := B ei; have := A ej; omega
    | 1, _, 2, _ => have := B ei; have := C ej; omega
    | 1, _, 3, _ => have := B ei; have := D ej; omega
    | 2, _, 0, _ => have := C ei; have := A ej; omega
    | 2, _, 1, _ => have := C ei; have := B ej; omega
    | 2, _, 3, _ => have := C ei; have := D ej; omega
    | 3, _, 0, _ => have := D ei; have := A ej; omega
    | 3, _, 1, _ => have := D ei; have := B ej; omega
    | 3, _, 2, _ => have := D ei; have := C ej; omega
theorem Nm.inv1_two {base s0 s1 s2 na nb : Nat} {a b : Value} {W : World} (h0 : base ≤ s0) (h01 : s0 ≤ s1)
    (ha : Span 3 .i64 s0 s1 W a na) (hb : Span 3 .i64 s1 s2 W b nb) : Nm.Inv1 base 2 (vs2 a b) (ns2 na nb) W (fun _ => 0) := by
  refine Nm.inv1_of (fun k hk => ?_) (fun i j bl hi hj ei ej => ?_)
  · match k, hk with
    | 0, _ => obtain ⟨xs, h⟩ := ha.own; exact ⟨xs, own_less h h0⟩
    | 1, _ => obtain ⟨xs, h⟩ := hb.own; exact ⟨xs, own_less h (by omega)⟩
  · have A := fun h => And.intro (ha.le bl h) (ha.lt bl h)
    have B := fun h => And.intro (hb.le bl h) (hb.lt bl h)
    match i, hi, j, hj with
    | 0, _, 0, _ => rfl
    | 1, _, 1, _ => rfl
    | 0, _, 1, _ => have := A ei; have := B ej; omega
    | 1, _, 0, _ => have := B ei; have := A ej; omega
theorem span_of_R {k : IntKind} {e : TypeId} {W : World} {s : Nat} {ok : Nat → Prop} {v : Value} {r : List Int} (h : Kd.R (Kd.int k) e W s ok v r) : Span e k s W.heap.size W v r.length := by
  have ho := Kd.own_of_R h
  exact ⟨⟨r, ho⟩, fun b hb => own_lt ho b hb⟩
/-- tight: the copy and its two items behind; what held reads of it. -/
theorem tight_is {W : World} {base n : Nat} {l : List Int} {v : Value} (hn : n = l.length) (ho : W.ownsRow base 21 1 v (n + 2) (nums .i32 l ++ [.int .i32 28673, .int .i32 28674])) :
    ∃ ad c, v = .slice (some ad) (n + 2) c ∧ n + 2 ≤ c ∧ Kd.C (Kd.int .i32) W (some ad) l.length l ∧ W.cell? (ad.add n) = some (.int .i32 28673) ∧ W.cell? (ad.add (n + 1)) = some (.int .i32 28674) ∧ base ≤ ad.block := by
  subst hn
  rcases own_form_k ho with ⟨_, h0⟩ | ⟨g, cap, cur, e, hb, _, hc, _⟩
  · omega
  · subst e
    refine ⟨⟨g, 0, none⟩, cap, rfl, hc, ?_, ho.cells (g := g) rfl l.length _ (by simp [nums]), ho.cells (g := g) rfl (l.length + 1) _ (by simp [nums]), hb⟩
    have h2 := own_take ho (show l.length ≤ l.length + 2 by omega)
    have h3 : W.ownsRow base 21 1 (.slice (some ⟨g, 0, none⟩) l.length cap) l.length (nums .i32 l) := by
      have h4 : (nums .i32 l ++ [Value.int .i32 28673, .int .i32 28674]).take (l.length * 1) = nums .i32 l := by
        rw [Nat.mul_one, List.take_left' (by simp [nums])]
      rwa [h4] at h2
    exact (Kd.R_reads' (Kd.R_of_own (ok := fun _ => True) (h1 := fun _ => rfl) (enc := Value.int .i32) h3 (fun _ _ => trivial))).2.2
theorem tight_below {w w1 w2 w3 : World} {e : TypeId} {n : Nat} {v : Value} {xs : List Value} (hB : Below w.heap.size w w2) (hs : w.heap.size ≤ w1.heap.size) (ho : w2.ownsRow w1.heap.size e 1 v n xs) (o : Obj) (hg : (w2.alloc o).grownBy w3 v.ownBlock) : Below w.heap.size w w3 :=
  (below_alloc hB o).grown hg (Nat.le_trans (below_size hB) (by simp)) (fun b hb => Nat.le_trans hs (own_base ho b hb))
theorem drawn_below {w w' : World} (h : Drawn0 w w') : Below w.heap.size w w' := by
  obtain ⟨q, rfl⟩ := h
  exact below_drewN_k (Below.refl _ _) _
theorem cell_on {w w' : World} (hb : Below w.heap.size w w') {a : Addr} {v : Value} (h : w.cell? a = some v) : w'.cell? a = some v := (hb.cell (p := a) (World.block_lt_of_cell? w a h)).trans h

end Go.Proofs.Ytaipokmbgcmciaa.Q
