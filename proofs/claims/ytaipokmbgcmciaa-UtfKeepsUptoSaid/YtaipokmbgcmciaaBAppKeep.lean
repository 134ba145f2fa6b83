/- Lemmas for the law's contracts (AppKeep); each states its own conditions. -/
import Derived.Maps.AppendAt
import Derived.Laws.AppendOwn
import Derived.OneCell
import Derived.Test.YtaipokmbgcmciaaWWords
import Derived.Test.YtaipokmbgcmciaaWLast
import Derived.Test.YtaipokmbgcmciaaWTab
import Derived.Test.YtaipokmbgcmciaaWFour
import Derived.Test.YtaipokmbgcmciaaWQPut
import Derived.Test.YtaipokmbgcmciaaWApart
import Derived.Test.YtaipokmbgcmciaaWArr
import Derived.Test.YtaipokmbgcmciaaWZeros
import Derived.Test.YtaipokmbgcmciaaWFoot
import Derived.Test.YtaipokmbgcmciaaWKept
import Derived.Test.YtaipokmbgcmciaaWShare
import Derived.Test.YtaipokmbgcmciaaWN
import Derived.Test.YtaipokmbgcmciaaWFootNe
import Derived.Test.YtaipokmbgcmciaaWAt
import Derived.Test.YtaipokmbgcmciaaWEqStruct
import Derived.Test.YtaipokmbgcmciaaWRepsOne
import Derived.Test.YtaipokmbgcmciaaWInv
import Derived.Test.YtaipokmbgcmciaaWInvWords
import Derived.Test.YtaipokmbgcmciaaWGuard
import Derived.Test.YtaipokmbgcmciaaWNEv
import Derived.Test.YtaipokmbgcmciaaWMore
namespace Go.Proofs.Ytaipokmbgcmciaa.B
open Go.RowKit Go.Proofs.YtaipokmbgcmciaaW.PrintWords Go.Proofs.YtaipokmbgcmciaaW.PrintLast Go.Proofs.YtaipokmbgcmciaaW.PrintMore
set_option linter.unusedVariables false
set_option linter.unusedSimpArgs false
/-- append of one cell to a row of the call's own; what the elder slice reads, it reads still. -/
theorem run_append_keep {P : Program} (w : World) (base : Nat) (t ty e : TypeId) (i : TypeInfo) (z : Value) (bytes : Nat) (ht : P.underlying t = some (.slice e)) (hi : P.info? e = some i) (hz : i.zero = some z)
    (hsize : i.size = 1) (hby : i.bytes = bytes) (hzs : z.cells.size = 1) (v : Value) (n : Nat) (xs : List Value) (hown : w.ownsRow base e 1 v n xs) (a : Addr) (c : Nat) (y : Value)
    (hnews : ∀ j u, [y][j]? = some u → w.cell? (a.add j) = some u) (h1 : ∀ u ∈ [y], u.oneCell' = true) (h63 : n + 1 ≤ maxLen) (hbytes : (n + 1) * bytes ≤ 140737488355328) (hbase : base ≤ w.heap.size) :
    ∃ v' w', (Builtin.append_ #[t, t] ty #[v, .slice (some a) 1 c]).run P w = .ok v' w' ∧ w'.ownsRow base e 1 v' (n + 1) (xs ++ [y]) ∧ w.grownBy w' v.ownBlock ∧ (v'.ownBlock = v.ownBlock ∨ v'.ownBlock = some w.heap.size) ∧
      ∀ g j u, v.ownBlock = some g → xs[j]? = some u → w'.cell? ⟨g, j, none⟩ = some u := by
  obtain ⟨v', w', hr, h2, h3, _, h5⟩ := run_append_own_at (P := P) w base t ty e i z 1 bytes ht hi hz hsize hby hzs (by omega) v n xs hown a 1 c [y] (by simp) hnews h1 h63 hbytes hbase
  refine ⟨v', w', hr, h2, h3, h5, fun g j u hg hj => ?_⟩
  have hjl : j < xs.length := (List.getElem?_eq_some_iff.1 hj).1
  rcases h5 with h5 | h5
  · have := h2.cells (g := g) (h5.trans hg) j u (by rw [List.getElem?_append_left hjl]; exact hj)
    rwa [add_plain] at this
  · have hold := hown.cells (g := g) hg j u hj
    rw [add_plain] at hold
    rcases hown.2 with ⟨rfl, rfl⟩ | ⟨g', cap, cur, rfl, hbg, hgb, hnc, hcm, hcs, htake⟩
    · simp [Value.ownBlock] at hg
    obtain rfl : g' = g := by simpa [Value.ownBlock] using hg
    have hglt := lt_of_block hgb
    by_cases hroom : n + 1 ≤ cap
    · have hr2 := run_append_room (P := P) w t ty e i ht hi g' n cap cur hgb a 1 c [y] (by simp [hsize]) hnews h1 hroom (by simp [hsize]; omega)
      rw [hr2] at hr
      injection hr with e1 e2
      subst e1
      simp [Value.ownBlock] at h5
      omega
    · have holds : ∀ j u, xs[j]? = some u → w.cell? ((⟨g', 0, none⟩ : Addr).add j) = some u := hown.cells (g := g') rfl
      have hr2 := run_append_grow (P := P) w t ty e i z ht hi hz ⟨g', 0, none⟩ n cap xs (by rw [hsize]; exact hown.1) holds a 1 c [y] (by simp [hsize]) hnews (by omega) (by unfold maxLen at h63; omega) (growslice_fits (by omega) (by rw [hby]; exact hbytes))
      rw [hr2] at hr
      injection hr with e1 e2
      subst e2
      exact ((Below.refl w.heap.size w).drew.alloc (Nat.le_refl _) _).cell (p := ⟨g', j, none⟩) hglt |>.trans hold
theorem wpList_append_keep {P : Program} {w : World} {ops : Array Oper} {rest : List Oper} {o : Oper} {a : Act} {Q : Exit → Act → World → Prop} (hgd : o.guard = none) (s x : Operand) (t : TypeId)
    (ho : o.op = .call { callee := .builtin .append, args := #[s, x], argTypes := #[t, t] }) (base : Nat) (e : TypeId) (i : TypeInfo) (z : Value) (bytes : Nat) (ht : P.underlying t = some (.slice e)) (hi : P.info? e = some i) (hz : i.zero = some z)
    (hsize : i.size = 1) (hby : i.bytes = bytes) (hzs : z.cells.size = 1) (v : Value) (n : Nat) (xs : List Value) (hs : a.eval s = v) (hown : w.ownsRow base e 1 v n xs) (ad : Addr) (c : Nat) (y : Value) (hx : a.eval x = .slice (some ad) 1 c)
    (hnews : ∀ j u, [y][j]? = some u → w.cell? (ad.add j) = some u) (h1 : ∀ u ∈ [y], u.oneCell' = true) (h63 : n + 1 ≤ maxLen) (hbytes : (n + 1) * bytes ≤ 140737488355328) (hbase : base ≤ w.heap.size)
    (h : ∀ v' w', w'.ownsRow base e 1 v' (n + 1) (xs ++ [y]) → w.grownBy w' v.ownBlock → (v'.ownBlock = v.ownBlock ∨ v'.ownBlock = some w.heap.size) → (∀ g j u, v.ownBlock = some g → xs[j]? = some u → w'.cell? ⟨g, j, none⟩ = some u) → wpList P ops Q rest (a.put o.dst v') w') :
    wpList P ops Q (o :: rest) a w := by
  refine wpList_plain hgd fun K hK => ?_
  obtain ⟨v', w', hr, h2, h3, h4, h5⟩ := run_append_keep (P := P) w base t o.type e i z bytes ht hi hz hsize hby hzs v n xs hown ad c y hnews h1 h63 hbytes hbase
  unfold Oper.wp execOp
  simp only [ho, resolve, invoke, builtin, Sem.run_bind, Sem.run_pure, Result.andThen_ok, List.map_toArray, List.map_cons, List.map_nil, hs, hx, hr]
  exact hK _ _ (h v' w' h2 h3 h4 h5)

end Go.Proofs.Ytaipokmbgcmciaa.B
