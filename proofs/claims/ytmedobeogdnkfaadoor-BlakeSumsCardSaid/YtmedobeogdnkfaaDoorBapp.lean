/- append of bytes that came in onto a slice of the call's own, nil, empty or not. -/
import Derived.Test.YtmedobeogdnkfaaDoorBawake
import Derived.Maps.AppendAt
namespace Go.Proofs.YtmedobeogdnkfaaDoor
open Go.RowKit

theorem run_app_nil {P : Program} (w : World) (base : Nat) (t ty e : TypeId) (i : TypeInfo) (size : Nat) (ht : P.underlying t = some (.slice e)) (hi : P.info? e = some i)
    (v : Value) (n : Nat) (xs : List Value) (hown : w.ownsRow base e size v n xs) (c : Nat) : (Builtin.append_ #[t, t] ty #[v, .slice none 0 c]).run P w = .ok v w := by
  rcases hown.2 with ⟨rfl, _⟩ | ⟨g, cap, cur, rfl, _, _, hnc, _⟩
  · simp [Builtin.append_, run_underlying ht, sizeOf, typeInfo, hi, Builtin.lenOf, Builtin.firstCells]
  · simp [Builtin.append_, run_underlying ht, sizeOf, typeInfo, hi, Builtin.lenOf, Builtin.firstCells, hnc, storeCells]

/-- The run of 'append(v, ys...)': v owns the bytes xs, the source reads as ys. -/
theorem run_app (w : World) (base : Nat) (ty : TypeId) (v : Value) (n : Nat) (xs : List Int) (hown : w.ownsRow base 5 1 v n (xs.map (Value.int .u8)))
    (A : Option Addr) (m c : Nat) (ys : List Int) (hr : RdS w A m c ys) (hb : n + m ≤ 1000000000) (hbase : base ≤ w.heap.size) :
    ∃ v' w', (Builtin.append_ #[22, 22] ty #[v, .slice A m c]).run Tryd.prog w = .ok v' w' ∧ w'.ownsRow base 5 1 v' (n + m) ((xs ++ ys).map (Value.int .u8)) ∧ w.grownBy w' v.ownBlock := by
  obtain ⟨i0, hi, hz0, hz1, hz2⟩ := info_parts Tryd.infoU8
  have hl := hr.1
  rcases A with _ | ad
  · have hm : m = 0 := by
      rcases Nat.eq_zero_or_pos m with h0 | h0
      · exact h0
      · obtain ⟨_, h, _⟩ := hr.2.2 h0; cases h
    subst hm
    obtain rfl : ys = [] := List.eq_nil_of_length_eq_zero hl
    exact ⟨v, w, run_app_nil w base 22 ty 5 i0 1 Tryd.underlying22 hi v n _ hown c, by simpa using hown, World.grownBy.refl w _⟩
  · have hcells : ∀ j u, (ys.map (Value.int .u8))[j]? = some u → w.cell? (ad.add j) = some u := by
      intro j u hu
      have hm : 0 < m := by
        have := (List.getElem?_eq_some_iff.1 hu).1
        rw [List.length_map] at this
        omega
      obtain ⟨ad', e, _, hc⟩ := hr.2.2 hm
      injection e with e
      subst e
      exact hc j u hu
    obtain ⟨v', w', hrun, h2, h3, _, _⟩ := run_append_own_at (P := Tryd.prog) w base 22 ty 5 i0 (.int .u8 0) 1 1 Tryd.underlying22 hi hz0 hz1 hz2 rfl (by decide) v n (xs.map (Value.int .u8)) hown ad m c (ys.map (Value.int .u8)) (by rw [List.length_map]; omega) hcells (ints_oneCell _ _) (by unfold maxLen; omega) (by omega) hbase
    exact ⟨v', w', hrun, by rw [List.map_append]; exact h2, h3⟩

theorem wpList_app {ops : Array Oper} {rest : List Oper} {o : Oper} {a : Act} {w : World} {Q : Exit → Act → World → Prop} (hgd : o.guard = none) (s x : Operand)
    (ho : o.op = .call { callee := .builtin .append, args := #[s, x], argTypes := #[22, 22] })
    (base : Nat) (v : Value) (n : Nat) (xs : List Int) (hs : a.eval s = v) (hown : w.ownsRow base 5 1 v n (xs.map (Value.int .u8)))
    (A : Option Addr) (m c : Nat) (ys : List Int) (hx : a.eval x = .slice A m c) (hr : RdS w A m c ys) (hb : n + m ≤ 1000000000) (hbase : base ≤ w.heap.size)
    (h : ∀ v' w', w'.ownsRow base 5 1 v' (n + m) ((xs ++ ys).map (Value.int .u8)) → w.grownBy w' v.ownBlock → wpList Tryd.prog ops Q rest (a.put o.dst v') w') : wpList Tryd.prog ops Q (o :: rest) a w := by
  refine wpList_plain hgd fun K hK => ?_
  obtain ⟨v', w', hrun, h2, h3⟩ := run_app w base o.type v n xs hown A m c ys hr hb hbase
  unfold Oper.wp execOp
  simp only [ho, resolve, invoke, builtin, Sem.run_bind, Sem.run_pure, Result.andThen_ok, List.map_toArray, List.map_cons, List.map_nil, hs, hx, hrun]
  exact hK _ _ (h v' w' h2 h3)
/-- The same at an operation with a guard that says yes. -/
theorem wpList_app_g {ops : Array Oper} {rest : List Oper} {o : Oper} {a : Act} {w : World} {Q : Exit → Act → World → Prop} (hgd : Region.wanted o (yielded ops a.tmps) = true) (s x : Operand)
    (ho : o.op = .call { callee := .builtin .append, args := #[s, x], argTypes := #[22, 22] })
    (base : Nat) (v : Value) (n : Nat) (xs : List Int) (hs : a.eval s = v) (hown : w.ownsRow base 5 1 v n (xs.map (Value.int .u8)))
    (A : Option Addr) (m c : Nat) (ys : List Int) (hx : a.eval x = .slice A m c) (hr : RdS w A m c ys) (hb : n + m ≤ 1000000000) (hbase : base ≤ w.heap.size)
    (h : ∀ v' w', w'.ownsRow base 5 1 v' (n + m) ((xs ++ ys).map (Value.int .u8)) → w.grownBy w' v.ownBlock → wpList Tryd.prog ops Q rest (a.put o.dst v') w') : wpList Tryd.prog ops Q (o :: rest) a w := by
  refine wpList_step fun K hK => ?_
  rw [if_pos hgd]
  obtain ⟨v', w', hrun, h2, h3⟩ := run_app w base o.type v n xs hown A m c ys hr hb hbase
  unfold Oper.wp execOp
  simp only [ho, resolve, invoke, builtin, Sem.run_bind, Sem.run_pure, Result.andThen_ok, List.map_toArray, List.map_cons, List.map_nil, hs, hx, hrun]
  exact hK _ _ (h v' w' h2 h3)
/-- A slice of the call's own, as a slice that reads. -/
theorem RdS.own {w : World} {base : Nat} {v : Value} {n : Nat} {xs : List Int} (h : w.ownsRow base 5 1 v n (xs.map (Value.int .u8))) : ∃ A c, v = .slice A n c ∧ RdS w A n c xs := by
  have hl : xs.length = n := by have := h.1; simpa using this
  rcases h.2 with ⟨rfl, rfl⟩ | ⟨g, cap, cur, rfl, hb, hg, hnc, hcm, hcs, htake⟩
  · exact ⟨none, 0, rfl, hl, by omega, fun h => absurd h (by omega)⟩
  · exact ⟨some ⟨g, 0, none⟩, cap, rfl, hl, hnc, fun _ => ⟨_, rfl, (Array.getElem?_eq_some_iff.1 hg).1, h.cells (g := g) rfl⟩⟩
/-- An empty slice that was just made. -/
theorem own_empty (w : World) (base : Nat) (h : base ≤ w.heap.size) : (w.alloc (.cells #[] 5)).ownsRow base 5 1 (.slice (some ⟨w.heap.size, 0, none⟩) 0 0) 0 (([] : List Int).map (Value.int .u8)) :=
  World.ownsRow_made w #[] 0 h (by unfold maxLen; omega) rfl
end Go.Proofs.YtmedobeogdnkfaaDoor
