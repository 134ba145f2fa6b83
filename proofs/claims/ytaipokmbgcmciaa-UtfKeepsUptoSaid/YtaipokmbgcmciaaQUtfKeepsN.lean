/- The law's plain side (UtfKeepsN): what the printed functions come to; each theorem states its own conditions. -/
import Derived.Test.YtaipokmbgcmciaaBAppKeep
import Derived.Test.YtaipokmbgcmciaaQUtfKeepsM
import Derived.OneCell
namespace Go.Proofs.Ytaipokmbgcmciaa.Q
open Go.RowKit Go.Proofs.YtaipokmbgcmciaaW.PrintWords Go.Proofs.YtaipokmbgcmciaaW.PrintLast Go.Proofs.YtaipokmbgcmciaaW.PrintMore Go.Proofs.Ytaipokmbgcmciaa.PK Go.Proofs.Ytaipokmbgcmciaa.B
set_option linter.unusedVariables false
set_option linter.unusedSimpArgs false
namespace Nm
/-- The mark of place j of row i: row 0 is the list p, row 1 the list q. -/
def mkAt (i j : Nat) : Int := if i = 0 then wrap64 (-1 - (j : Int)) else wrap64 (7 + (j : Int))
def mks (i n : Nat) : List Int := (List.range n).map (mkAt i)
theorem mks_len (i n : Nat) : (mks i n).length = n := by simp [mks]
theorem mks_succ (i n : Nat) : mks i (n + 1) = mks i n ++ [mkAt i n] := by simp [mks, List.range_succ]
theorem mks_get (i n j : Nat) (h : j < n) : (mks i n)[j]? = some (mkAt i j) := by simp [mks, h]
/-- Row k of the lists: what has grown of it (g, n places, all marked), and what the elder slice v (n0 places) reads of them; all its blocks bear the tag k. -/
structure RowD (base : Nat) (f : Nat → Nat) (k : Nat) (v : Value) (n0 : Nat) (W : World) (g : Value) (n : Nat) : Prop where
  own : W.ownsRow base 3 1 g n (nums .i64 (mks k n))
  le : n0 ≤ n
  reads : ∀ b j, v.ownBlock = some b → j < n0 → W.cell? ⟨b, j, none⟩ = some (.int .i64 (mkAt k j))
  lt : ∀ b, v.ownBlock = some b → b < W.heap.size
  tagG : ∀ b, g.ownBlock = some b → f b = k
  tagV : ∀ b, v.ownBlock = some b → f b = k
/-- Another row, or new memory, has been written. -/
theorem RowD.other {base : Nat} {f f' : Nat → Nat} {k n0 n : Nat} {v g : Value} {W W' : World} (h : RowD base f k v n0 W g n) (hs : W.heap.size ≤ W'.heap.size) (hm : ∀ b, b < W.heap.size → f b = k → W'.heap[b]? = W.heap[b]?) (hf : ∀ b, b < W.heap.size → f' b = f b) : RowD base f' k v n0 W' g n :=
  ⟨own_move h.own (fun b hb => hm b (own_lt h.own b hb) (h.tagG b hb)), h.le, fun b j hb hj => (cell_same (hm b (h.lt b hb) (h.tagV b hb))).trans (h.reads b j hb hj),
    fun b hb => Nat.lt_of_lt_of_le (h.lt b hb) hs, fun b hb => (hf b (own_lt h.own b hb)).trans (h.tagG b hb), fun b hb => (hf b (h.lt b hb)).trans (h.tagV b hb)⟩
theorem RowD.below {base : Nat} {f : Nat → Nat} {k n0 n : Nat} {v g : Value} {W W' : World} (h : RowD base f k v n0 W g n) (hb : Below W.heap.size W W') : RowD base f k v n0 W' g n :=
  h.other hb.size (fun b hlt _ => hb.block b hlt) (fun _ _ => rfl)
theorem RowD.grow {base : Nat} {f : Nat → Nat} {i n0 n : Nat} {v g g' : Value} {W W' : World} (h : RowD base f i v n0 W g n) (hown : W'.ownsRow base 3 1 g' (n + 1) (nums .i64 (mks i n) ++ [.int .i64 (mkAt i n)])) (hg : W.grownBy W' g.ownBlock)
    (hat : g'.ownBlock = g.ownBlock ∨ g'.ownBlock = some W.heap.size) (hk : ∀ b j u, g.ownBlock = some b → (nums .i64 (mks i n))[j]? = some u → W'.cell? ⟨b, j, none⟩ = some u) : RowD base (tagOn f W.heap.size i) i v n0 W' g' (n + 1) := by
  have hf : ∀ b, f b = i → tagOn f W.heap.size i b = i := fun b hb => by unfold tagOn; split <;> simp_all
  refine ⟨by rw [mks_succ, nums_append]; exact hown, Nat.le_succ_of_le h.le, fun b j hb hj => ?_, fun b hb => Nat.lt_of_lt_of_le (h.lt b hb) hg.size, fun b hb => ?_, fun b hb => hf b (h.tagV b hb)⟩
  · by_cases he : some b = g.ownBlock
    · exact hk b j _ he.symm (by simp [nums, mks_get i n j (Nat.lt_of_lt_of_le hj h.le)])
    · exact (cell_same (hg.block b (h.lt b hb) he)).trans (h.reads b j hb hj)
  · rcases hat with e | e
    · exact hf b (h.tagG b (e ▸ hb))
    · rw [e] at hb
      obtain rfl := Option.some.inj hb
      simp [tagOn]
/-- All rows of the lists. -/
def Inv (base m : Nat) (vs : Nat → Value) (ns : Nat → Nat) (W : World) (gs : Nat → Value) (cnt : Nat → Nat) : Prop := ∃ f : Nat → Nat, ∀ k, k < m → RowD base f k (vs k) (ns k) W (gs k) (cnt k)
theorem Inv.below {base m : Nat} {vs : Nat → Value} {ns : Nat → Nat} {W W' : World} {gs : Nat → Value} {cnt : Nat → Nat} (h : Inv base m vs ns W gs cnt) (hb : Below W.heap.size W W') : Inv base m vs ns W' gs cnt := by
  obtain ⟨f, hf⟩ := h
  exact ⟨f, fun k hk => (hf k hk).below hb⟩
theorem Inv.grow {base m : Nat} {vs : Nat → Value} {ns : Nat → Nat} {W W' : World} {gs : Nat → Value} {cnt : Nat → Nat} {i : Nat} {g' : Value} (h : Inv base m vs ns W gs cnt) (hi : i < m)
    (hown : W'.ownsRow base 3 1 g' (cnt i + 1) (nums .i64 (mks i (cnt i)) ++ [.int .i64 (mkAt i (cnt i))])) (hg : W.grownBy W' (gs i).ownBlock)
    (hat : g'.ownBlock = (gs i).ownBlock ∨ g'.ownBlock = some W.heap.size) (hk : ∀ b j u, (gs i).ownBlock = some b → (nums .i64 (mks i (cnt i)))[j]? = some u → W'.cell? ⟨b, j, none⟩ = some u) :
    Inv base m vs ns W' (upd gs i g') (upd cnt i (cnt i + 1)) := by
  obtain ⟨f, hf⟩ := h
  refine ⟨tagOn f W.heap.size i, fun k hkm => ?_⟩
  by_cases e : k = i
  · subst e
    rw [upd_same, upd_same]
    exact (hf k hkm).grow hown hg hat hk
  · rw [upd_ne _ _ e, upd_ne _ _ e]
    refine (hf k hkm).other hg.size (fun b hb ht => hg.block b hb (fun he => e ?_)) (fun b hb => tagOn_old hb)
    exact ht.symm.trans ((hf i hi).tagG b he.symm)
/-- The rows as they come in, some of their places marked: row i's first c i ones. -/
structure Row1 (base : Nat) (f : Nat → Nat) (k : Nat) (W : World) (v : Value) (n c : Nat) : Prop where
  own : ∃ xs : List Int, W.ownsRow base 3 1 v n (nums .i64 xs) ∧ ∀ j, j < c → xs[j]? = some (mkAt k j)
  le : c ≤ n
  tag : ∀ b, v.ownBlock = some b → f b = k
def Inv1 (base m : Nat) (vs : Nat → Value) (ns : Nat → Nat) (W : World) (c : Nat → Nat) : Prop := ∃ f : Nat → Nat, ∀ k, k < m → Row1 base f k W (vs k) (ns k) (c k)
theorem Inv1.below {base m : Nat} {vs : Nat → Value} {ns c : Nat → Nat} {W W' : World} (h : Inv1 base m vs ns W c) (hb : Below W.heap.size W W') : Inv1 base m vs ns W' c := by
  obtain ⟨f, hf⟩ := h
  refine ⟨f, fun k hk => ?_⟩
  obtain ⟨⟨xs, ho, hx⟩, hl, ht⟩ := hf k hk
  exact ⟨⟨xs, own_move ho (fun b hbb => hb.block b (own_lt ho b hbb)), hx⟩, hl, ht⟩
theorem Inv1.done {base m : Nat} {vs : Nat → Value} {ns : Nat → Nat} {W : World} (h : Inv1 base m vs ns W ns) : Inv base m vs ns W vs ns := by
  obtain ⟨f, hf⟩ := h
  refine ⟨f, fun k hk => ?_⟩
  obtain ⟨⟨xs, ho, hx⟩, _, ht⟩ := hf k hk
  have hl : xs.length = ns k := by have := ho.1; simpa [nums] using this
  have he : xs = mks k (ns k) := by
    apply List.ext_getElem?
    intro j
    by_cases hj : j < ns k
    · rw [hx j hj, mks_get k _ j hj]
    · rw [List.getElem?_eq_none (by omega), List.getElem?_eq_none (by rw [mks_len]; omega)]
  subst he
  refine ⟨ho, Nat.le_refl _, fun b j hb hj => ?_, fun b hb => own_lt ho b hb, ht, ht⟩
  have := ho.cells (g := b) hb j (.int .i64 (mkAt k j)) (by simp [nums, mks_get k _ j hj])
  rwa [add_plain] at this
theorem Inv1.put {base m : Nat} {vs : Nat → Value} {ns c : Nat → Nat} {W : World} {i g cap : Nat} (h : Inv1 base m vs ns W c) (hi : i < m) (hj : c i < ns i) (hv : vs i = .slice (some ⟨g, 0, none⟩) (ns i) cap) :
    Inv1 base m vs ns (W.setCell ⟨g, c i, none⟩ (.int .i64 (mkAt i (c i)))) (upd c i (c i + 1)) := by
  obtain ⟨f, hf⟩ := h
  have hgi : f g = i := (hf i hi).tag g (by rw [hv]; rfl)
  refine ⟨f, fun k hk => ?_⟩
  by_cases e : k = i
  · subst e
    obtain ⟨⟨xs, ho, hx⟩, hl, ht⟩ := hf k hk
    rw [hv] at ho
    have hlen : xs.length = ns k := by have := ho.1; simpa [nums] using this
    have hs := (own_store_of (enc := Value.int .i64) ho ((c k : Nat) : Int) (mkAt k (c k))).1
    rw [Int.toNat_natCast] at hs
    refine ⟨⟨xs.set (c k) (mkAt k (c k)), by rw [hv]; exact hs, fun j hjc => ?_⟩, by rw [upd_same]; omega, ht⟩
    rw [upd_same] at hjc
    by_cases hjj : j = c k
    · subst hjj; rw [List.getElem?_set_self (by omega)]
    · rw [List.getElem?_set_ne (Ne.symm hjj)]; exact hx j (by omega)
  · obtain ⟨⟨xs, ho, hx⟩, hl, ht⟩ := hf k hk
    rw [upd_ne _ _ e]
    exact ⟨⟨xs, own_setCell ho (fun hb => e (by rw [← ht g hb.symm, hgi])) _, hx⟩, hl, ht⟩
theorem row_lt {base m : Nat} {vs : Nat → Value} {ns c : Nat → Nat} {W : World} (h : Inv1 base m vs ns W c) {i : Nat} (hi : i < m) : ∀ b, (vs i).ownBlock = some b → b < W.heap.size ∧ base ≤ b := by
  obtain ⟨f, hf⟩ := h
  obtain ⟨⟨xs, ho, _⟩, _, _⟩ := hf i hi
  exact fun b hb => ⟨own_lt ho b hb, own_base ho b hb⟩
theorem row_form {base m : Nat} {vs : Nat → Value} {ns c : Nat → Nat} {W : World} (h : Inv1 base m vs ns W c) {i : Nat} (hi : i < m) : ∃ A cc, vs i = .slice A (ns i) cc := by
  obtain ⟨f, hf⟩ := h
  obtain ⟨⟨xs, ho, _⟩, _, _⟩ := hf i hi
  rcases own_form_k ho with ⟨e, hn⟩ | ⟨g, cap, cur, e, _⟩
  · exact ⟨none, 0, by rw [e, hn]⟩
  · exact ⟨_, _, e⟩
theorem row_block {base m : Nat} {vs : Nat → Value} {ns c : Nat → Nat} {W : World} (h : Inv1 base m vs ns W c) {i j : Nat} (hi : i < m) (hj : j < ns i) :
    ∃ g cap cur, vs i = .slice (some ⟨g, 0, none⟩) (ns i) cap ∧ base ≤ g ∧ W.heap[g]? = some (.cells cur 3 (0, 0)) ∧ ns i ≤ cap ∧ cur.size = cap := by
  obtain ⟨f, hf⟩ := h
  obtain ⟨⟨xs, ho, _⟩, _, _⟩ := hf i hi
  rcases own_form_k ho with ⟨e, hn⟩ | h
  · omega
  · exact h
theorem base_on {base m : Nat} {vs : Nat → Value} {ns c : Nat → Nat} {w W : World} (_h : Inv1 base m vs ns W c) (h : Out base m vs w W) (hb : base ≤ w.heap.size) : base ≤ W.heap.size := Nat.le_trans hb h.kept.1
theorem Inv1.congr {base m : Nat} {vs : Nat → Value} {ns c c' : Nat → Nat} {W : World} (h : Inv1 base m vs ns W c) (e : ∀ k, k < m → c k = c' k) : Inv1 base m vs ns W c' := by
  obtain ⟨f, hf⟩ := h
  exact ⟨f, fun k hk => by rw [← e k hk]; exact hf k hk⟩
theorem inv1_start {base m i : Nat} {vs : Nat → Value} {ns : Nat → Nat} {W : World} (h : Inv1 base m vs ns W (fun k => if k < i then ns k else 0)) : Inv1 base m vs ns W (fun k => if k < i then ns k else if k = i then 0 else 0) :=
  h.congr fun k _ => by by_cases h1 : k < i <;> by_cases h2 : k = i <;> simp [h1, h2]
theorem inv1_step {base m i j g cap : Nat} {vs : Nat → Value} {ns : Nat → Nat} {W : World} {ad : Addr} (h : Inv1 base m vs ns W (fun k => if k < i then ns k else if k = i then j else 0)) (hi : i < m) (hj : j < ns i) (hv : vs i = .slice (some ⟨g, 0, none⟩) (ns i) cap) (had : ad = ⟨g, 0, none⟩) :
    Inv1 base m vs ns (W.setCell (ad.add j) (.int .i64 (mkAt i j))) (fun k => if k < i then ns k else if k = i then j + 1 else 0) := by
  obtain ⟨c, hcc⟩ : ∃ c : Nat → Nat, c = (fun k => if k < i then ns k else if k = i then j else 0) := ⟨_, rfl⟩
  have hc : c i = j := by rw [hcc]; simp
  rw [← hcc] at h
  have h1 := h.put hi (by rw [hc]; exact hj) hv
  rw [hc] at h1
  subst had
  rw [add_plain]
  refine h1.congr fun k _ => ?_
  by_cases e : k = i
  · subst e; simp [upd_same]
  · rw [upd_ne _ _ e, hcc]; simp [e]
theorem inv1_next {base m i : Nat} {vs : Nat → Value} {ns : Nat → Nat} {W : World} (h : Inv1 base m vs ns W (fun k => if k < i then ns k else if k = i then ns i else 0)) : Inv1 base m vs ns W (fun k => if k < i + 1 then ns k else 0) :=
  h.congr fun k _ => by
    by_cases h1 : k < i
    · simp [h1, Nat.lt_succ_of_lt h1]
    · by_cases h2 : k = i
      · subst h2; simp
      · simp [h1, h2]; omega
theorem inv1_done {base m : Nat} {vs : Nat → Value} {ns : Nat → Nat} {W : World} (h : Inv1 base m vs ns W (fun k => if k < m then ns k else 0)) : Inv base m vs ns W vs ns := (h.congr (c' := ns) fun k hk => by simp [hk]).done
theorem Inv.congr {base m : Nat} {vs : Nat → Value} {ns : Nat → Nat} {W : World} {gs : Nat → Value} {cnt cnt' : Nat → Nat} (h : Inv base m vs ns W gs cnt) (e : ∀ k, k < m → cnt k = cnt' k) : Inv base m vs ns W gs cnt' := by
  obtain ⟨f, hf⟩ := h
  exact ⟨f, fun k hk => by rw [← e k hk]; exact hf k hk⟩
theorem Inv.own {base m : Nat} {vs : Nat → Value} {ns : Nat → Nat} {W : World} {gs : Nat → Value} {cnt : Nat → Nat} (h : Inv base m vs ns W gs cnt) {i : Nat} (hi : i < m) : W.ownsRow base 3 1 (gs i) (cnt i) (nums .i64 (mks i (cnt i))) := by
  obtain ⟨f, hf⟩ := h
  exact (hf i hi).own
theorem Inv.form {base m : Nat} {vs : Nat → Value} {ns : Nat → Nat} {W : World} {gs : Nat → Value} {cnt : Nat → Nat} (h : Inv base m vs ns W gs cnt) {i : Nat} (hi : i < m) : ∃ A c, gs i = .slice A (cnt i) c := by
  rcases own_form_k (h.own hi) with ⟨e, hn⟩ | ⟨g, cap, cur, e, _⟩
  · exact ⟨none, 0, by rw [e, hn]⟩
  · exact ⟨_, _, e⟩
theorem inv_start {base m : Nat} {vs : Nat → Value} {ns : Nat → Nat} {W : World} (h : Inv base m vs ns W vs ns) : Inv base m vs ns W vs (cnt2 ns 0 0) := h.congr fun k _ => by unfold cnt2; by_cases e : k = 0 <;> simp [e]
theorem inv_next {base m i : Nat} {vs gs : Nat → Value} {ns : Nat → Nat} {W : World} (h : Inv base m vs ns W gs (cnt2 ns i 80)) : Inv base m vs ns W gs (cnt2 ns (i + 1) 0) := h.congr fun k _ => by
  unfold cnt2
  by_cases h1 : k < i
  · simp [h1, Nat.lt_succ_of_lt h1]
  · by_cases h2 : k = i
    · subst h2; simp
    · have h3 : ¬ k < i + 1 := by omega
      simp [h1, h2, h3]
theorem inv_step {base m i j : Nat} {vs gs : Nat → Value} {ns : Nat → Nat} {W W' : World} {g' : Value} {n : Nat} (h : Inv base m vs ns W gs (cnt2 ns i j)) (hi : i < m) (hn : n = ns i + j)
    (hown : W'.ownsRow base 3 1 g' (n + 1) (nums .i64 (mks i n) ++ [.int .i64 (mkAt i n)])) (hg : W.grownBy W' (gs i).ownBlock)
    (hat : g'.ownBlock = (gs i).ownBlock ∨ g'.ownBlock = some W.heap.size) (hk : ∀ b j u, (gs i).ownBlock = some b → (nums .i64 (mks i n))[j]? = some u → W'.cell? ⟨b, j, none⟩ = some u) :
    Inv base m vs ns W' (upd gs i g') (cnt2 ns i (j + 1)) := by
  have hc := cnt2_at ns i j
  rw [← hn] at hc
  refine (h.grow hi (by rw [hc]; exact hown) hg hat (by rw [hc]; exact hk)).congr fun k _ => ?_
  by_cases e : k = i
  · subst e; rw [upd_same, hc, cnt2_at]; omega
  · rw [upd_ne _ _ e]; unfold cnt2; simp [e]
theorem bytes_k {n : Nat} (h : n + 1 ≤ 16777297) : (n + 1) * 8 ≤ 140737488355328 := by omega
/-- The second phase: rows below i have grown by 80, row i by j. -/
structure P2 (base m : Nat) (vs : Nat → Value) (ns : Nat → Nat) (w : World) (i j : Nat) (gs : Nat → Value) (W : World) : Prop where
  inv : Inv base m vs ns W gs (cnt2 ns i j)
  out : Out base m vs w W
  rest : ∀ k, i < k → gs k = vs k
  own : ∀ k, k < m → ∀ b, (gs k).ownBlock = some b → (vs k).ownBlock = some b ∨ w.heap.size ≤ b
theorem P2.below {base m i j : Nat} {vs gs : Nat → Value} {ns : Nat → Nat} {w W W' : World} (h : P2 base m vs ns w i j gs W) (hb : base ≤ w.heap.size) (k : Below W.heap.size W W') : P2 base m vs ns w i j gs W' :=
  ⟨h.inv.below k, h.out.on (Nat.le_trans hb h.out.kept.1) k, h.rest, h.own⟩
theorem P2.step {base m i j n : Nat} {vs gs : Nat → Value} {ns : Nat → Nat} {w W W' : World} {g' : Value} (h : P2 base m vs ns w i j gs W) (hbase : base ≤ w.heap.size) (hi : i < m) (hn : n = ns i + j)
    (hown : W'.ownsRow base 3 1 g' (n + 1) (nums .i64 (mks i n) ++ [.int .i64 (mkAt i n)])) (hg : W.grownBy W' (gs i).ownBlock)
    (hat : g'.ownBlock = (gs i).ownBlock ∨ g'.ownBlock = some W.heap.size) (hk : ∀ b j u, (gs i).ownBlock = some b → (nums .i64 (mks i n))[j]? = some u → W'.cell? ⟨b, j, none⟩ = some u) : P2 base m vs ns w i (j + 1) (upd gs i g') W' := by
  have hsz := h.out.kept.1
  refine ⟨inv_step h.inv hi hn hown hg hat hk, h.out.grown (Nat.le_trans hbase hsz) hg (fun b hb => own_base (h.inv.own hi) b hb) (fun b hb => (h.own i hi b hb).imp (fun e => ⟨i, hi, e⟩) (fun e => e)), fun k hk' => by rw [upd_ne _ _ (by omega)]; exact h.rest k hk', fun k hkm b hb => ?_⟩
  by_cases e : k = i
  · subst e
    rw [upd_same] at hb
    rcases hat with ha | ha
    · exact h.own k hkm b (ha ▸ hb)
    · rw [ha] at hb; obtain rfl := Option.some.inj hb; exact .inr hsz
  · rw [upd_ne _ _ e] at hb; exact h.own k hkm b hb
theorem P2.next {base m i : Nat} {vs gs : Nat → Value} {ns : Nat → Nat} {w W : World} (h : P2 base m vs ns w i 80 gs W) : P2 base m vs ns w (i + 1) 0 gs W :=
  ⟨inv_next h.inv, h.out, fun k hk' => h.rest k (by omega), h.own⟩
theorem mk0 (j : Nat) : mkAt 0 j = wrap64 (-1 - (j : Int)) := by unfold mkAt; rw [if_pos rfl]
theorem mk1 (j : Nat) : mkAt 1 j = wrap64 (7 + (j : Int)) := by unfold mkAt; rw [if_neg (by decide)]
theorem step0 {base j g cap : Nat} {vs : Nat → Value} {ns : Nat → Nat} {W : World} {ad : Addr} (h : Inv1 base 2 vs ns W (fun k => if k < 0 then ns k else if k = 0 then j else 0)) (hj : j < ns 0) (hv : vs 0 = .slice (some ⟨g, 0, none⟩) (ns 0) cap) (had : ad = ⟨g, 0, none⟩) :
    Inv1 base 2 vs ns (W.setCell (ad.add j) (.int .i64 (wrap64 (-1 - (j : Int))))) (fun k => if k < 0 then ns k else if k = 0 then j + 1 else 0) := by rw [← mk0]; exact inv1_step h (by decide) hj hv had
theorem step1 {base j g cap : Nat} {vs : Nat → Value} {ns : Nat → Nat} {W : World} {ad : Addr} (h : Inv1 base 2 vs ns W (fun k => if k < 1 then ns k else if k = 1 then j else 0)) (hj : j < ns 1) (hv : vs 1 = .slice (some ⟨g, 0, none⟩) (ns 1) cap) (had : ad = ⟨g, 0, none⟩) :
    Inv1 base 2 vs ns (W.setCell (ad.add j) (.int .i64 (wrap64 (7 + (j : Int))))) (fun k => if k < 1 then ns k else if k = 1 then j + 1 else 0) := by rw [← mk1]; exact inv1_step h (by decide) hj hv had
theorem to1 {base n0 : Nat} {vs : Nat → Value} {ns : Nat → Nat} {W : World} (hn : n0 = ns 0) (h : Inv1 base 2 vs ns W (fun k => if k < 0 then ns k else if k = 0 then n0 else 0)) : Inv1 base 2 vs ns W (fun k => if k < 1 then ns k else if k = 1 then 0 else 0) := by
  subst hn; exact inv1_start (inv1_next h)
theorem to2 {base n1 : Nat} {vs : Nat → Value} {ns : Nat → Nat} {w W : World} (hn : n1 = ns 1) (h : Inv1 base 2 vs ns W (fun k => if k < 1 then ns k else if k = 1 then n1 else 0)) (ho : Out base 2 vs w W) : P2 base 2 vs ns w 0 0 vs W := by
  subst hn; exact ⟨inv_start (inv1_done (inv1_next h)), ho, fun _ _ => rfl, fun _ _ _ hb => .inl hb⟩
theorem P2.step0 {base j n : Nat} {vs gs : Nat → Value} {ns : Nat → Nat} {w W W' : World} {g' : Value} (h : P2 base 2 vs ns w 0 j gs W) (hbase : base ≤ w.heap.size) (hn : n = ns 0 + j)
    (hown : W'.ownsRow base 3 1 g' (n + 1) (nums .i64 (mks 0 n) ++ [.int .i64 (wrap64 (-1 - (n : Int)))])) (hg : W.grownBy W' (gs 0).ownBlock)
    (hat : g'.ownBlock = (gs 0).ownBlock ∨ g'.ownBlock = some W.heap.size) (hk : ∀ b j u, (gs 0).ownBlock = some b → (nums .i64 (mks 0 n))[j]? = some u → W'.cell? ⟨b, j, none⟩ = some u) : P2 base 2 vs ns w 0 (j + 1) (upd gs 0 g') W' :=
  h.step hbase (by decide) hn (by rw [mk0]; exact hown) hg hat hk
theorem P2.step1 {base j n : Nat} {vs gs : Nat → Value} {ns : Nat → Nat} {w W W' : World} {g' : Value} (h : P2 base 2 vs ns w 1 j gs W) (hbase : base ≤ w.heap.size) (hn : n = ns 1 + j)
    (hown : W'.ownsRow base 3 1 g' (n + 1) (nums .i64 (mks 1 n) ++ [.int .i64 (wrap64 (7 + (n : Int)))])) (hg : W.grownBy W' (gs 1).ownBlock)
    (hat : g'.ownBlock = (gs 1).ownBlock ∨ g'.ownBlock = some W.heap.size) (hk : ∀ b j u, (gs 1).ownBlock = some b → (nums .i64 (mks 1 n))[j]? = some u → W'.cell? ⟨b, j, none⟩ = some u) : P2 base 2 vs ns w 1 (j + 1) (upd gs 1 g') W' :=
  h.step hbase (by decide) hn (by rw [mk1]; exact hown) hg hat hk
/-- What the third phase reads: the grown slice's cell and, below the old length, the elder slice's. -/
theorem P2.cell {base i k N c : Nat} {vs gs : Nat → Value} {ns : Nat → Nat} {w W : World} {B : Option Addr} {bc : Nat} (h : P2 base 2 vs ns w i 0 gs W) (hk : k < 2) (hN : N = cnt2 ns i 0 k) (hgf : gs k = .slice B N bc) (hc : c < N) :
    ∃ ad, B = some ad ∧ W.cell? (ad.add c) = some (.int .i64 (mkAt k c)) := by
  have ho := h.inv.own hk
  rw [← hN] at ho
  rcases own_form_k ho with ⟨_, h0⟩ | ⟨g, cap, cur, e, _⟩
  · omega
  · have he := hgf.symm.trans e
    injection he with he1 _ _
    exact ⟨_, he1, ho.cells (g := g) (by rw [e]; rfl) c _ (by simp [nums, mks_get k N c hc])⟩
theorem P2.elder {base i k n c : Nat} {vs gs : Nat → Value} {ns cz : Nat → Nat} {w W W0 : World} {A : Option Addr} {cc : Nat} (h : P2 base 2 vs ns w i 0 gs W) (hI : Inv1 base 2 vs ns W0 cz) (hk : k < 2) (hn : n = ns k) (hv : vs k = .slice A n cc) (hc : c < n) :
    ∃ ad, A = some ad ∧ W.cell? (ad.add c) = some (.int .i64 (mkAt k c)) := by
  subst hn
  obtain ⟨g, cap, cur, e, _⟩ := row_block hI hk hc
  have he := hv.symm.trans e
  injection he with he1 _ _
  obtain ⟨f, hf⟩ := h.inv
  refine ⟨_, he1, ?_⟩
  rw [add_plain]
  exact (hf k hk).reads g c (by rw [e]; rfl) hc
end Nm

end Go.Proofs.Ytaipokmbgcmciaa.Q
