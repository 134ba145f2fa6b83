/- The law's plain side (UtfKeepsM): what the printed functions come to; each theorem states its own conditions. -/
import Derived.Test.YtaipokmbgcmciaaPKx3
import Derived.Test.YtaipokmbgcmciaaBAppKeep
import Derived.OneCell
namespace Go.Proofs.Ytaipokmbgcmciaa.Q
open Go.RowKit Go.Proofs.YtaipokmbgcmciaaW.PrintWords Go.Proofs.YtaipokmbgcmciaaW.PrintLast Go.Proofs.YtaipokmbgcmciaaW.PrintMore Go.Proofs.Ytaipokmbgcmciaa.PK Go.Proofs.Ytaipokmbgcmciaa.B
set_option linter.unusedVariables false
set_option linter.unusedSimpArgs false
/-- The mark of place j of list i. -/
def mkAt (i j : Nat) : Int := wrap32 (wrap64 (wrap64 ((i : Int) * 100000) + Int.tmod (j : Int) 100000))
def mks (i n : Nat) : List Int := (List.range n).map (mkAt i)
theorem mks_len (i n : Nat) : (mks i n).length = n := by simp [mks]
theorem mks_succ (i n : Nat) : mks i (n + 1) = mks i n ++ [mkAt i n] := by simp [mks, List.range_succ]
theorem mks_get (i n j : Nat) (h : j < n) : (mks i n)[j]? = some (mkAt i j) := by simp [mks, h]
theorem mark_is (i j : Nat) : thistlelaw01_mark.f (i : Int) (j : Int) = some (mkAt i j) := rfl
/-- Row k of the lists: what has grown of it (g, n places, all marked), and what the elder slice v (n0 places) reads of them; all its blocks bear the tag k. -/
structure RowD (base : Nat) (f : Nat → Nat) (k : Nat) (v : Value) (n0 : Nat) (W : World) (g : Value) (n : Nat) : Prop where
  own : W.ownsRow base 21 1 g n (nums .i32 (mks k n))
  le : n0 ≤ n
  reads : ∀ b j, v.ownBlock = some b → j < n0 → W.cell? ⟨b, j, none⟩ = some (.int .i32 (mkAt k j))
  lt : ∀ b, v.ownBlock = some b → b < W.heap.size
  tagG : ∀ b, g.ownBlock = some b → f b = k
  tagV : ∀ b, v.ownBlock = some b → f b = k
theorem cell_same {W W' : World} {b j : Nat} (h : W'.heap[b]? = W.heap[b]?) : W'.cell? ⟨b, j, none⟩ = W.cell? ⟨b, j, none⟩ := by
  simp only [World.cell?, h]
/-- Another row, or new memory, has been written. -/
theorem RowD.other {base : Nat} {f f' : Nat → Nat} {k n0 n : Nat} {v g : Value} {W W' : World} (h : RowD base f k v n0 W g n) (hs : W.heap.size ≤ W'.heap.size) (hm : ∀ b, b < W.heap.size → f b = k → W'.heap[b]? = W.heap[b]?) (hf : ∀ b, b < W.heap.size → f' b = f b) : RowD base f' k v n0 W' g n :=
  ⟨own_move h.own (fun b hb => hm b (own_lt h.own b hb) (h.tagG b hb)), h.le, fun b j hb hj => (cell_same (hm b (h.lt b hb) (h.tagV b hb))).trans (h.reads b j hb hj),
    fun b hb => Nat.lt_of_lt_of_le (h.lt b hb) hs, fun b hb => (hf b (own_lt h.own b hb)).trans (h.tagG b hb), fun b hb => (hf b (h.lt b hb)).trans (h.tagV b hb)⟩
theorem RowD.below {base : Nat} {f : Nat → Nat} {k n0 n : Nat} {v g : Value} {W W' : World} (h : RowD base f k v n0 W g n) (hb : Below W.heap.size W W') : RowD base f k v n0 W' g n :=
  h.other hb.size (fun b hlt _ => hb.block b hlt) (fun _ _ => rfl)
/-- The tags behind an append to row i. -/
def tagOn (f : Nat → Nat) (b0 i : Nat) : Nat → Nat := fun b => if b = b0 then i else f b
theorem RowD.grow {base : Nat} {f : Nat → Nat} {i n0 n : Nat} {v g g' : Value} {W W' : World} (h : RowD base f i v n0 W g n) (hown : W'.ownsRow base 21 1 g' (n + 1) (nums .i32 (mks i n) ++ [.int .i32 (mkAt i n)])) (hg : W.grownBy W' g.ownBlock)
    (hat : g'.ownBlock = g.ownBlock ∨ g'.ownBlock = some W.heap.size) (hk : ∀ b j u, g.ownBlock = some b → (nums .i32 (mks i n))[j]? = some u → W'.cell? ⟨b, j, none⟩ = some u) : RowD base (tagOn f W.heap.size i) i v n0 W' g' (n + 1) := by
  have hf : ∀ b, f b = i → tagOn f W.heap.size i b = i := fun b hb => by unfold tagOn; split <;> simp_all
  refine ⟨by rw [mks_succ, nums_append]; exact hown, Nat.le_succ_of_le h.le, fun b j hb hj => ?_, fun b hb => Nat.lt_of_lt_of_le (h.lt b hb) hg.size, fun b hb => ?_, fun b hb => hf b (h.tagV b hb)⟩
  · by_cases he : some b = g.ownBlock
    · exact hk b j _ he.symm (by simp [nums, mks_get i n j (Nat.lt_of_lt_of_le hj h.le)])
    · exact (cell_same (hg.block b (h.lt b hb) he)).trans (h.reads b j hb hj)
  · rcases hat with e | e
    · exact hf b (h.tagG b (e ▸ hb))
    · rw [e] at hb
      obtain rfl := Option.some.inj hb
      simp [tagOn]
theorem tagOn_old {f : Nat → Nat} {b0 i b : Nat} (h : b < b0) : tagOn f b0 i b = f b := by unfold tagOn; rw [if_neg (by omega)]
/-- All rows of the lists. -/
def Inv (base m : Nat) (vs : Nat → Value) (ns : Nat → Nat) (W : World) (gs : Nat → Value) (cnt : Nat → Nat) : Prop := ∃ f : Nat → Nat, ∀ k, k < m → RowD base f k (vs k) (ns k) W (gs k) (cnt k)
def upd {α : Type} (f : Nat → α) (i : Nat) (x : α) : Nat → α := fun k => if k = i then x else f k
theorem upd_same {α : Type} (f : Nat → α) (i : Nat) (x : α) : upd f i x i = x := by simp [upd]
theorem upd_ne {α : Type} (f : Nat → α) {i k : Nat} (x : α) (h : k ≠ i) : upd f i x k = f k := by simp [upd, h]
theorem Inv.below {base m : Nat} {vs : Nat → Value} {ns : Nat → Nat} {W W' : World} {gs : Nat → Value} {cnt : Nat → Nat} (h : Inv base m vs ns W gs cnt) (hb : Below W.heap.size W W') : Inv base m vs ns W' gs cnt := by
  obtain ⟨f, hf⟩ := h
  exact ⟨f, fun k hk => (hf k hk).below hb⟩
theorem Inv.grow {base m : Nat} {vs : Nat → Value} {ns : Nat → Nat} {W W' : World} {gs : Nat → Value} {cnt : Nat → Nat} {i : Nat} {g' : Value} (h : Inv base m vs ns W gs cnt) (hi : i < m)
    (hown : W'.ownsRow base 21 1 g' (cnt i + 1) (nums .i32 (mks i (cnt i)) ++ [.int .i32 (mkAt i (cnt i))])) (hg : W.grownBy W' (gs i).ownBlock)
    (hat : g'.ownBlock = (gs i).ownBlock ∨ g'.ownBlock = some W.heap.size) (hk : ∀ b j u, (gs i).ownBlock = some b → (nums .i32 (mks i (cnt i)))[j]? = some u → W'.cell? ⟨b, j, none⟩ = some u) :
    Inv base m vs ns W' (upd gs i g') (upd cnt i (cnt i + 1)) := by
  obtain ⟨f, hf⟩ := h
  refine ⟨tagOn f W.heap.size i, fun k hkm => ?_⟩
  by_cases e : k = i
  · subst e
    rw [upd_same, upd_same]
    exact (hf k hkm).grow hown hg hat hk
  · rw [upd_ne _ _ e, upd_ne _ _ e]
    refine (hf k hkm).other hg.size (fun b hb ht => hg.block b hb (fun he => e ?_)) (fun b hb => tagOn_old hb)
    exact ht.symm.trans ((hf i hi).tagG b he.symm)
/-- The rows as they come in, some of their places marked: row i's first c i ones. -/
structure Row1 (base : Nat) (f : Nat → Nat) (k : Nat) (W : World) (v : Value) (n c : Nat) : Prop where
  own : ∃ xs : List Int, W.ownsRow base 21 1 v n (nums .i32 xs) ∧ ∀ j, j < c → xs[j]? = some (mkAt k j)
  le : c ≤ n
  tag : ∀ b, v.ownBlock = some b → f b = k
def Inv1 (base m : Nat) (vs : Nat → Value) (ns : Nat → Nat) (W : World) (c : Nat → Nat) : Prop := ∃ f : Nat → Nat, ∀ k, k < m → Row1 base f k W (vs k) (ns k) (c k)
theorem Inv1.below {base m : Nat} {vs : Nat → Value} {ns c : Nat → Nat} {W W' : World} (h : Inv1 base m vs ns W c) (hb : Below W.heap.size W W') : Inv1 base m vs ns W' c := by
  obtain ⟨f, hf⟩ := h
  refine ⟨f, fun k hk => ?_⟩
  obtain ⟨⟨xs, ho, hx⟩, hl, ht⟩ := hf k hk
  exact ⟨⟨xs, own_move ho (fun b hbb => hb.block b (own_lt ho b hbb)), hx⟩, hl, ht⟩
theorem Inv1.done {base m : Nat} {vs : Nat → Value} {ns : Nat → Nat} {W : World} (h : Inv1 base m vs ns W ns) : Inv base m vs ns W vs ns := by
  obtain ⟨f, hf⟩ := h
  refine ⟨f, fun k hk => ?_⟩
  obtain ⟨⟨xs, ho, hx⟩, _, ht⟩ := hf k hk
  have hl : xs.length = ns k := by have := ho.1; simpa [nums] using this
  have he : xs = mks k (ns k) := by
    apply List.ext_getElem?
    intro j
    by_cases hj : j < ns k
    · rw [hx j hj, mks_get k _ j hj]
    · rw [List.getElem?_eq_none (by omega), List.getElem?_eq_none (by rw [mks_len]; omega)]
  subst he
  refine ⟨ho, Nat.le_refl _, fun b j hb hj => ?_, fun b hb => own_lt ho b hb, ht, ht⟩
  have := ho.cells (g := b) hb j (.int .i32 (mkAt k j)) (by simp [nums, mks_get k _ j hj])
  rwa [add_plain] at this
theorem own_form_k {w : World} {base n : Nat} {e : TypeId} {v : Value} {xs : List Value} (h : w.ownsRow base e 1 v n xs) : (v = .slice none 0 0 ∧ n = 0) ∨ ∃ g cap cur, v = .slice (some ⟨g, 0, none⟩) n cap ∧ base ≤ g ∧ w.heap[g]? = some (.cells cur e (0, 0)) ∧ n ≤ cap ∧ cur.size = cap := by
  rcases h.2 with ⟨rfl, rfl⟩ | ⟨g, cap, cur, rfl, hb, hg, hn, _, hs, _⟩
  · exact .inl ⟨rfl, rfl⟩
  · exact .inr ⟨g, cap, cur, rfl, hb, hg, hn, by simpa using hs⟩
theorem Inv1.put {base m : Nat} {vs : Nat → Value} {ns c : Nat → Nat} {W : World} {i g cap : Nat} (h : Inv1 base m vs ns W c) (hi : i < m) (hj : c i < ns i) (hv : vs i = .slice (some ⟨g, 0, none⟩) (ns i) cap) :
    Inv1 base m vs ns (W.setCell ⟨g, c i, none⟩ (.int .i32 (mkAt i (c i)))) (upd c i (c i + 1)) := by
  obtain ⟨f, hf⟩ := h
  have hgi : f g = i := (hf i hi).tag g (by rw [hv]; rfl)
  refine ⟨f, fun k hk => ?_⟩
  by_cases e : k = i
  · subst e
    obtain ⟨⟨xs, ho, hx⟩, hl, ht⟩ := hf k hk
    rw [hv] at ho
    have hlen : xs.length = ns k := by have := ho.1; simpa [nums] using this
    have hs := (own_store_of (enc := Value.int .i32) ho ((c k : Nat) : Int) (mkAt k (c k))).1
    rw [Int.toNat_natCast] at hs
    refine ⟨⟨xs.set (c k) (mkAt k (c k)), by rw [hv]; exact hs, fun j hjc => ?_⟩, by rw [upd_same]; omega, ht⟩
    rw [upd_same] at hjc
    by_cases hjj : j = c k
    · subst hjj; rw [List.getElem?_set_self (by omega)]
    · rw [List.getElem?_set_ne (Ne.symm hjj)]; exact hx j (by omega)
  · obtain ⟨⟨xs, ho, hx⟩, hl, ht⟩ := hf k hk
    rw [upd_ne _ _ e]
    exact ⟨⟨xs, own_setCell ho (fun hb => e (by rw [← ht g hb.symm, hgi])) _, hx⟩, hl, ht⟩
/-- The world's own: below the base as it was, and whatever else is no row's. -/
structure Out (base m : Nat) (vs : Nat → Value) (w W : World) : Prop where
  below : Below base w W
  kept : Kept w W (fun b => ∃ i, i < m ∧ (vs i).ownBlock = some b)
theorem Out.refl (base m : Nat) (vs : Nat → Value) (w : World) : Out base m vs w w := ⟨Below.refl _ _, Kept.refl _ _⟩
theorem Out.on {base m : Nat} {vs : Nat → Value} {w W W' : World} (h : Out base m vs w W) (hb : base ≤ W.heap.size) (k : Below W.heap.size W W') : Out base m vs w W' := ⟨h.below.trans (k.mono hb), h.kept.below k⟩
theorem Out.put {base m : Nat} {vs : Nat → Value} {w W : World} {i g n cap : Nat} (h : Out base m vs w W) (hi : i < m) (hv : vs i = .slice (some ⟨g, 0, none⟩) n cap) (hg : base ≤ g) (j : Nat) (u : Value) : Out base m vs w (W.setCell ⟨g, j, none⟩ u) :=
  ⟨h.below.setCell (p := ⟨g, j, none⟩) hg u, h.kept.setCell (p := ⟨g, j, none⟩) (.inl ⟨i, hi, by rw [hv]; rfl⟩) u⟩
theorem Out.grown {base m : Nat} {vs : Nat → Value} {w W W' : World} {g : Value} (h : Out base m vs w W) (hb : base ≤ W.heap.size) (hg : W.grownBy W' g.ownBlock) (h1 : ∀ b, g.ownBlock = some b → base ≤ b) (h2 : ∀ b, g.ownBlock = some b → (∃ i, i < m ∧ (vs i).ownBlock = some b) ∨ w.heap.size ≤ b) : Out base m vs w W' :=
  ⟨h.below.grown hg hb h1, Kept.of_grown hg h.kept h2⟩
theorem Out.cell {base m : Nat} {vs : Nat → Value} {w W : World} (h : Out base m vs w W) {a : Addr} {v : Value} (hc : w.cell? a = some v) (hn : ∀ i, i < m → (vs i).ownBlock ≠ some a.block) : W.cell? a = some v := by
  have hlt : a.block < w.heap.size := World.block_lt_of_cell? w a hc
  have := h.kept.2 a.block hlt (fun ⟨i, hi, e⟩ => hn i hi e)
  rw [← hc]
  simp only [World.cell?, this]
theorem meas_k {n i : Nat} {j : Int} (h : i < n) (hj : j = (i : Int) + 1) : n - (intOf (.int .i64 j)).toNat < n - (intOf (.int .i64 (i : Int))).toNat := by subst hj; simp [intOf]; omega
theorem wrap_k {i n : Nat} (h : i < n) (hn : n ≤ 16777216) : wrap64 ((i : Int) + 1) = (i : Int) + 1 := by unfold wrap64; omega
theorem row_lt {base m : Nat} {vs : Nat → Value} {ns c : Nat → Nat} {W : World} (h : Inv1 base m vs ns W c) {i : Nat} (hi : i < m) : ∀ b, (vs i).ownBlock = some b → b < W.heap.size ∧ base ≤ b := by
  obtain ⟨f, hf⟩ := h
  obtain ⟨⟨xs, ho, _⟩, _, _⟩ := hf i hi
  exact fun b hb => ⟨own_lt ho b hb, own_base ho b hb⟩
theorem add_block_k (a : Addr) (n : Nat) : (a.add n).block = a.block := by unfold Addr.add; split <;> rfl
theorem row_form {base m : Nat} {vs : Nat → Value} {ns c : Nat → Nat} {W : World} (h : Inv1 base m vs ns W c) {i : Nat} (hi : i < m) : ∃ A cc, vs i = .slice A (ns i) cc := by
  obtain ⟨f, hf⟩ := h
  obtain ⟨⟨xs, ho, _⟩, _, _⟩ := hf i hi
  rcases own_form_k ho with ⟨e, hn⟩ | ⟨g, cap, cur, e, _⟩
  · exact ⟨none, 0, by rw [e, hn]⟩
  · exact ⟨_, _, e⟩
theorem row_block {base m : Nat} {vs : Nat → Value} {ns c : Nat → Nat} {W : World} (h : Inv1 base m vs ns W c) {i j : Nat} (hi : i < m) (hj : j < ns i) :
    ∃ g cap cur, vs i = .slice (some ⟨g, 0, none⟩) (ns i) cap ∧ base ≤ g ∧ W.heap[g]? = some (.cells cur 21 (0, 0)) ∧ ns i ≤ cap ∧ cur.size = cap := by
  obtain ⟨f, hf⟩ := h
  obtain ⟨⟨xs, ho, _⟩, _, _⟩ := hf i hi
  rcases own_form_k ho with ⟨e, hn⟩ | h
  · omega
  · exact h
theorem base_on {base m : Nat} {vs : Nat → Value} {ns c : Nat → Nat} {w W : World} (_h : Inv1 base m vs ns W c) (h : Out base m vs w W) (hb : base ≤ w.heap.size) : base ≤ W.heap.size := Nat.le_trans hb h.kept.1
theorem Inv1.congr {base m : Nat} {vs : Nat → Value} {ns c c' : Nat → Nat} {W : World} (h : Inv1 base m vs ns W c) (e : ∀ k, k < m → c k = c' k) : Inv1 base m vs ns W c' := by
  obtain ⟨f, hf⟩ := h
  exact ⟨f, fun k hk => by rw [← e k hk]; exact hf k hk⟩
theorem inv1_start {base m i : Nat} {vs : Nat → Value} {ns : Nat → Nat} {W : World} (h : Inv1 base m vs ns W (fun k => if k < i then ns k else 0)) : Inv1 base m vs ns W (fun k => if k < i then ns k else if k = i then 0 else 0) :=
  h.congr fun k _ => by by_cases h1 : k < i <;> by_cases h2 : k = i <;> simp [h1, h2]
theorem Out.drew {base m : Nat} {vs : Nat → Value} {w W : World} (h : Out base m vs w W) : Out base m vs w W.drew := ⟨h.below.drew, h.kept.drew⟩
theorem inv1_step {base m i j g cap : Nat} {vs : Nat → Value} {ns : Nat → Nat} {W : World} {ad : Addr} (h : Inv1 base m vs ns W (fun k => if k < i then ns k else if k = i then j else 0)) (hi : i < m) (hj : j < ns i) (hv : vs i = .slice (some ⟨g, 0, none⟩) (ns i) cap) (had : ad = ⟨g, 0, none⟩) :
    Inv1 base m vs ns (W.setCell (ad.add j) (.int .i32 (mkAt i j))).drew (fun k => if k < i then ns k else if k = i then j + 1 else 0) := by
  obtain ⟨c, hcc⟩ : ∃ c : Nat → Nat, c = (fun k => if k < i then ns k else if k = i then j else 0) := ⟨_, rfl⟩
  have hc : c i = j := by rw [hcc]; simp
  rw [← hcc] at h
  have h1 := h.put hi (by rw [hc]; exact hj) hv
  rw [hc] at h1
  subst had
  rw [add_plain]
  refine (h1.below (below_drew (Below.refl _ _))).congr fun k _ => ?_
  by_cases e : k = i
  · subst e; simp [upd_same]
  · rw [upd_ne _ _ e, hcc]; simp [e]
theorem inv1_next {base m i : Nat} {vs : Nat → Value} {ns : Nat → Nat} {W : World} (h : Inv1 base m vs ns W (fun k => if k < i then ns k else if k = i then ns i else 0)) : Inv1 base m vs ns W (fun k => if k < i + 1 then ns k else 0) :=
  h.congr fun k _ => by
    by_cases h1 : k < i
    · simp [h1, Nat.lt_succ_of_lt h1]
    · by_cases h2 : k = i
      · subst h2; simp
      · simp [h1, h2]; omega
theorem other_type {W : World} {a b : Nat} {cs ds : Array Value} {s t : TypeId} (h : W.heap[a]? = some (.cells cs s (0, 0))) (k : W.heap[b]? = some (.cells ds t (0, 0))) (hne : s ≠ t) : a ≠ b := by
  rintro rfl
  rw [h] at k
  injection k with k
  injection k with _ k
  exact hne k
theorem inv1_done {base m : Nat} {vs : Nat → Value} {ns : Nat → Nat} {W : World} (h : Inv1 base m vs ns W (fun k => if k < m then ns k else 0)) : Inv base m vs ns W vs ns := (h.congr (c' := ns) fun k hk => by simp [hk]).done
def cnt2 (ns : Nat → Nat) (i j : Nat) : Nat → Nat := fun k => if k < i then ns k + 80 else if k = i then ns k + j else ns k
theorem cnt2_at (ns : Nat → Nat) (i j : Nat) : cnt2 ns i j i = ns i + j := by simp [cnt2]
theorem Inv.congr {base m : Nat} {vs : Nat → Value} {ns : Nat → Nat} {W : World} {gs : Nat → Value} {cnt cnt' : Nat → Nat} (h : Inv base m vs ns W gs cnt) (e : ∀ k, k < m → cnt k = cnt' k) : Inv base m vs ns W gs cnt' := by
  obtain ⟨f, hf⟩ := h
  exact ⟨f, fun k hk => by rw [← e k hk]; exact hf k hk⟩
theorem Inv.own {base m : Nat} {vs : Nat → Value} {ns : Nat → Nat} {W : World} {gs : Nat → Value} {cnt : Nat → Nat} (h : Inv base m vs ns W gs cnt) {i : Nat} (hi : i < m) : W.ownsRow base 21 1 (gs i) (cnt i) (nums .i32 (mks i (cnt i))) := by
  obtain ⟨f, hf⟩ := h
  exact (hf i hi).own
theorem Inv.form {base m : Nat} {vs : Nat → Value} {ns : Nat → Nat} {W : World} {gs : Nat → Value} {cnt : Nat → Nat} (h : Inv base m vs ns W gs cnt) {i : Nat} (hi : i < m) : ∃ A c, gs i = .slice A (cnt i) c := by
  rcases own_form_k (h.own hi) with ⟨e, hn⟩ | ⟨g, cap, cur, e, _⟩
  · exact ⟨none, 0, by rw [e, hn]⟩
  · exact ⟨_, _, e⟩
theorem inv_start {base m : Nat} {vs : Nat → Value} {ns : Nat → Nat} {W : World} (h : Inv base m vs ns W vs ns) : Inv base m vs ns W vs (cnt2 ns 0 0) := h.congr fun k _ => by unfold cnt2; by_cases e : k = 0 <;> simp [e]
theorem inv_next {base m i : Nat} {vs gs : Nat → Value} {ns : Nat → Nat} {W : World} (h : Inv base m vs ns W gs (cnt2 ns i 80)) : Inv base m vs ns W gs (cnt2 ns (i + 1) 0) := h.congr fun k _ => by
  unfold cnt2
  by_cases h1 : k < i
  · simp [h1, Nat.lt_succ_of_lt h1]
  · by_cases h2 : k = i
    · subst h2; simp
    · have h3 : ¬ k < i + 1 := by omega
      simp [h1, h2, h3]
theorem inv_step {base m i j : Nat} {vs gs : Nat → Value} {ns : Nat → Nat} {W W' : World} {g' : Value} {n : Nat} (h : Inv base m vs ns W gs (cnt2 ns i j)) (hi : i < m) (hn : n = ns i + j)
    (hown : W'.ownsRow base 21 1 g' (n + 1) (nums .i32 (mks i n) ++ [.int .i32 (mkAt i n)])) (hg : W.grownBy W' (gs i).ownBlock)
    (hat : g'.ownBlock = (gs i).ownBlock ∨ g'.ownBlock = some W.heap.size) (hk : ∀ b j u, (gs i).ownBlock = some b → (nums .i32 (mks i n))[j]? = some u → W'.cell? ⟨b, j, none⟩ = some u) :
    Inv base m vs ns W' (upd gs i g') (cnt2 ns i (j + 1)) := by
  have hc := cnt2_at ns i j
  rw [← hn] at hc
  refine (h.grow hi (by rw [hc]; exact hown) hg hat (by rw [hc]; exact hk)).congr fun k _ => ?_
  by_cases e : k = i
  · subst e; rw [upd_same, hc, cnt2_at]; omega
  · rw [upd_ne _ _ e]; unfold cnt2; simp [e]
/-- The row of what has grown. -/
def GRow (G m i : Nat) (gs : Nat → Value) (W : World) : Prop := ∃ GA : Array Value, W.heap[G]? = some (.cells GA 22 (0, 0)) ∧ GA.size = m ∧ ∀ k, k < i → GA[k]? = some (gs k)
theorem Inv.setG {base m G : Nat} {vs gs : Nat → Value} {ns cnt : Nat → Nat} {W : World} {GA : Array Value} (h : Inv base m vs ns W gs cnt) (hG : W.heap[G]? = some (.cells GA 22 (0, 0))) (hv : ∀ k b, k < m → (vs k).ownBlock = some b → b ≠ G) (j : Nat) (u : Value) : Inv base m vs ns (W.setCell ⟨G, j, none⟩ u) gs cnt := by
  obtain ⟨f, hf⟩ := h
  refine ⟨f, fun k hk => ?_⟩
  have r := hf k hk
  refine ⟨own_setCell r.own (fun e => ?_) u, r.le, fun b j' hb hj => (cell_same (Below.heap_setCell W ⟨G, j, none⟩ u b (hv k b hk hb))).trans (r.reads b j' hb hj), fun b hb => by have := r.lt b hb; simpa using this, r.tagG, r.tagV⟩
  obtain ⟨cs, hc⟩ := own_typed r.own G e.symm
  exact other_type hc hG (by decide) rfl
theorem GRow.put {G m i : Nat} {gs : Nat → Value} {W : World} (h : GRow G m i gs W) (hi : i < m) : GRow G m (i + 1) gs (W.setCell ⟨G, i, none⟩ (gs i)) := by
  obtain ⟨GA, hG, hs, hk⟩ := h
  refine ⟨GA.setIfInBounds i (gs i), blk_set hG i _, by simpa using hs, fun k hk' => ?_⟩
  by_cases e : k = i
  · subst e; simp [Array.getElem?_setIfInBounds, hs, hi]
  · rw [Array.getElem?_setIfInBounds, if_neg (Ne.symm e)]; exact hk k (by omega)
theorem GRow.grown {G m i : Nat} {gs gs' : Nat → Value} {W W' : World} {row : Option Nat} (h : GRow G m i gs W) (hg : W.grownBy W' row) (hr : row ≠ some G) (he : ∀ k, k < i → gs' k = gs k) : GRow G m i gs' W' := by
  obtain ⟨GA, hG, hs, hk⟩ := h
  exact ⟨GA, (hg.block G (lt_of_block hG) (fun e => hr e.symm)).trans hG, hs, fun k hk' => by rw [he k hk']; exact hk k hk'⟩
theorem Out.setG {base m : Nat} {vs : Nat → Value} {w W : World} (h : Out base m vs w W) (hb : base ≤ w.heap.size) (j : Nat) (u : Value) : Out base m vs w (W.setCell ⟨w.heap.size, j, none⟩ u) :=
  ⟨h.below.setCell (p := ⟨w.heap.size, j, none⟩) hb u, h.kept.setCell (p := ⟨w.heap.size, j, none⟩) (.inr (Nat.le_refl _)) u⟩
theorem below_grown_k {w w' : World} (h : Below w.heap.size w w') : w.grownBy w' none := ⟨h.os, h.tape, h.output, h.size, fun k hk _ => h.block k hk⟩
/-- The second phase: rows below i have grown by 80, row i by j. -/
structure P2 (base m : Nat) (vs : Nat → Value) (ns : Nat → Nat) (w : World) (i j : Nat) (gs : Nat → Value) (W : World) : Prop where
  inv : Inv base m vs ns W gs (cnt2 ns i j)
  out : Out base m vs w W
  rest : ∀ k, i < k → gs k = vs k
  own : ∀ k, k < m → ∀ b, (gs k).ownBlock = some b → (vs k).ownBlock = some b ∨ w.heap.size ≤ b
  row : GRow w.heap.size m i gs W
theorem P2.below {base m i j : Nat} {vs gs : Nat → Value} {ns : Nat → Nat} {w W W' : World} (h : P2 base m vs ns w i j gs W) (hb : base ≤ w.heap.size) (k : Below W.heap.size W W') : P2 base m vs ns w i j gs W' :=
  ⟨h.inv.below k, h.out.on (Nat.le_trans hb h.out.kept.1) k, h.rest, h.own, h.row.grown (below_grown_k k) (by simp) (fun _ _ => rfl)⟩
theorem P2.step {base m i j n : Nat} {vs gs : Nat → Value} {ns : Nat → Nat} {w W W' : World} {g' : Value} (h : P2 base m vs ns w i j gs W) (hbase : base ≤ w.heap.size) (hv : ∀ k b, k < m → (vs k).ownBlock = some b → b < w.heap.size) (hi : i < m) (hn : n = ns i + j)
    (hown : W'.ownsRow base 21 1 g' (n + 1) (nums .i32 (mks i n) ++ [.int .i32 (mkAt i n)])) (hg : W.grownBy W' (gs i).ownBlock)
    (hat : g'.ownBlock = (gs i).ownBlock ∨ g'.ownBlock = some W.heap.size) (hk : ∀ b j u, (gs i).ownBlock = some b → (nums .i32 (mks i n))[j]? = some u → W'.cell? ⟨b, j, none⟩ = some u) : P2 base m vs ns w i (j + 1) (upd gs i g') W' := by
  have hsz := h.out.kept.1
  refine ⟨inv_step h.inv hi hn hown hg hat hk, h.out.grown (Nat.le_trans hbase hsz) hg (fun b hb => own_base (h.inv.own hi) b hb) (fun b hb => (h.own i hi b hb).imp (fun e => ⟨i, hi, e⟩) (fun e => e)), fun k hk' => by rw [upd_ne _ _ (by omega)]; exact h.rest k hk', fun k hkm b hb => ?_, ?_⟩
  · by_cases e : k = i
    · subst e
      rw [upd_same] at hb
      rcases hat with ha | ha
      · exact h.own k hkm b (ha ▸ hb)
      · rw [ha] at hb; obtain rfl := Option.some.inj hb; exact .inr hsz
    · rw [upd_ne _ _ e] at hb; exact h.own k hkm b hb
  · refine h.row.grown hg (fun e => ?_) (fun k hk' => upd_ne _ _ (by omega))
    obtain ⟨GA, hG, _⟩ := h.row
    obtain ⟨cs, hc⟩ := own_typed (h.inv.own hi) w.heap.size e
    exact other_type hc hG (by decide) rfl
theorem P2.next {base m i : Nat} {vs gs : Nat → Value} {ns : Nat → Nat} {w W : World} (h : P2 base m vs ns w i 80 gs W) (hbase : base ≤ w.heap.size) (hv : ∀ k b, k < m → (vs k).ownBlock = some b → b < w.heap.size) (hi : i < m) : P2 base m vs ns w (i + 1) 0 gs (W.setCell ⟨w.heap.size, i, none⟩ (gs i)) := by
  obtain ⟨GA, hG, hs, hk⟩ := h.row
  exact ⟨inv_next (h.inv.setG hG (fun k b hk hb => by have := hv k b hk hb; omega) i (gs i)), h.out.setG hbase i _, fun k hk' => h.rest k (by omega), h.own, GRow.put ⟨GA, hG, hs, hk⟩ hi⟩
theorem max_k {n : Nat} (h : n + 1 ≤ 16777297) : n + 1 ≤ maxLen := by unfold maxLen; omega
theorem bytes_k {n : Nat} (h : n + 1 ≤ 16777297) : (n + 1) * 4 ≤ 140737488355328 := by omega
theorem below_drewN_k {B : Nat} {a w : World} (h : Below B a w) (n : Nat) : Below B a (w.drewN n) := h.trans ⟨rfl, rfl, rfl, Nat.le_refl _, fun _ _ => rfl⟩

end Go.Proofs.Ytaipokmbgcmciaa.Q
