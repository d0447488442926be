/- From what the rows list of the program's three tables to what the walks ask of them ('Tabs'); a world for the witness. -/
import Derived.Test.YtmedobeogdnkfaaDoorBkey
import Derived.ProofKit
import Derived.OpenShut
import Derived.Deep.DeepHandedRow
import Derived.Lib.LaidTab
import Derived.Stop.LaidErr
namespace Go.Proofs.YtmedobeogdnkfaaDoor
open Go.ChangeShapes Go.WideShapes Go.ChangeAt Go.RowKit

theorem own : ownKnob Tryd.prog.godebug = none := by kernel_rfl
theorem g_iv : Tryd.prog.globalNamed "salchow/blake.iv" = some 0 := by kernel_rfl
theorem g_sigma : Tryd.prog.globalNamed "salchow/blake.sigma" = some 1 := by kernel_rfl
theorem g_lanes : Tryd.prog.globalNamed "salchow/blake.lanes" = some 2 := by kernel_rfl
theorem gt_iv : (Tryd.prog.globals[0]?).map (·.type) = some 47 := by kernel_rfl
theorem gt_sigma : (Tryd.prog.globals[1]?).map (·.type) = some 62 := by kernel_rfl
theorem gt_lanes : (Tryd.prog.globals[2]?).map (·.type) = some 64 := by kernel_rfl

/-- An array of arrays of integers that reads as a table of rows holds the rows' numbers. -/
theorem tab2_at {H : Type} {enc : TypeId × Value → H} {P : Program} {w : World} {base : Nat} {sp : Nat → Bool} {held : Bool} {fuel : Nat} {t e2 e : TypeId} {n m : Nat} {k : IntKind} {cs : List Value} {rows : List (List Int)} {p : List MemPlace}
    (ht : P.underlying t = some (.array n e2)) (he2 : P.underlying e2 = some (.array m e)) (he : P.underlying e = some (.int k)) (hce : P.cellsOf e = 1) (hce2 : P.cellsOf e2 = m)
    (h : DataW.trod enc P w base sp held fuel t cs = some (.agg (rows.map (Lib.tabData k)), p)) {i j : Nat} (hi : i < n) (hj : j < m) {z : Int} (hz : (rows.getD i [])[j]? = some z) : cs[i * m + j]? = some (.int k z) := by
  obtain ⟨xs, f, rfl, hx, _, hlen, hat⟩ := DataW.trod_array ht h
  have hxs : xs.map (·.1) = rows.map (Lib.tabData k) := by
    have := congrArg Prod.fst hx
    simp only [DataW.agg.injEq] at this
    exact this.symm
  have hxi : xs[i]? = some xs[i] := List.getElem?_eq_getElem (by omega)
  have hri : rows[i]? = some (rows.getD i []) := by
    have hl : rows.length = n := by have := congrArg List.length hxs; simp at this; omega
    rw [List.getD_eq_getElem?_getD, List.getElem?_eq_getElem (by omega)]
    rfl
  have h1 : xs[i].1 = Lib.tabData k (rows.getD i []) := by
    have := congrArg (·[i]?) hxs
    simp only [List.getElem?_map, hxi, hri, Option.map_some, Option.some.injEq] at this
    exact this
  have h2 := hat i hi
  rw [hce2, hxi] at h2
  have h3 : xs[i] = (Lib.tabData k (rows.getD i []), xs[i].2) := Prod.ext h1 rfl
  rw [h3] at h2
  have h4 := Lib.cells_of_tab he2 he hce hce2 h2
  have h5 := congrArg (·[j]?) h4
  simp only [List.getElem?_take, List.getElem?_drop, List.getElem?_map, hz, Option.map_some] at h5
  rw [if_pos hj] at h5
  exact h5

def sigRows : List (List Int) := [[0, 1, 2, 3, 4, 5, 6, 7, 8, 9, 10, 11, 12, 13, 14, 15], [14, 10, 4, 8, 9, 15, 13, 6, 1, 12, 0, 2, 11, 7, 5, 3], [11, 8, 12, 0, 5, 2, 15, 13, 10, 14, 3, 6, 7, 1, 9, 4], [7, 9, 3, 1, 13, 12, 11, 14, 2, 6, 5, 10, 4, 0, 15, 8], [9, 0, 5, 7, 2, 4, 10, 15, 14, 1, 11, 12, 6, 8, 3, 13], [2, 12, 6, 10, 0, 11, 8, 3, 4, 13, 7, 5, 15, 14, 1, 9], [12, 5, 1, 15, 14, 13, 4, 10, 0, 7, 6, 3, 9, 2, 8, 11], [13, 11, 7, 14, 12, 1, 3, 9, 5, 0, 15, 4, 8, 6, 2, 10], [6, 15, 14, 9, 11, 3, 0, 8, 12, 2, 13, 7, 1, 4, 10, 5], [10, 2, 8, 4, 7, 6, 1, 5, 15, 11, 9, 14, 3, 12, 13, 0]]
def lanRows : List (List Int) := [[0, 4, 8, 12], [1, 5, 9, 13], [2, 6, 10, 14], [3, 7, 11, 15], [0, 5, 10, 15], [1, 6, 11, 12], [2, 7, 8, 13], [3, 4, 9, 14]]
theorem sig_rows : ∀ r, r < 10 → ∀ j, j < 16 → (sigRows.getD r [])[j]? = some (sig r j : Int) := by decide
theorem lan_rows : ∀ r, r < 8 → ∀ j, j < 4 → (lanRows.getD r [])[j]? = some (lan r j : Int) := by decide

theorem sigCells_at (J : Nat) (v : Value) (h : sigCells[J]? = some v) : J / 16 < 10 ∧ v = .int .u8 (sig (J / 16) (J % 16)) := by
  have hl : J < 160 := (List.getElem?_eq_some_iff.1 h).1
  refine ⟨by omega, ?_⟩
  have e : sigCells[J]? = some (Value.int .u8 (sigL.getD J 0 : Nat)) := by
    rw [sigCells, List.getElem?_map, List.getD_eq_getElem?_getD, List.getElem?_eq_getElem (show J < sigL.length from hl)]
    rfl
  rw [e] at h
  injection h with h
  rw [← h, sig, show 16 * (J / 16) + J % 16 = J from by omega]
theorem lanCells_at (J : Nat) (v : Value) (h : lanCells[J]? = some v) : J / 4 < 8 ∧ v = .int .u8 (lan (J / 4) (J % 4)) := by
  have hl : J < 32 := (List.getElem?_eq_some_iff.1 h).1
  refine ⟨by omega, ?_⟩
  have e : lanCells[J]? = some (Value.int .u8 (lanL.getD J 0 : Nat)) := by
    rw [lanCells, List.getElem?_map, List.getD_eq_getElem?_getD, List.getElem?_eq_getElem (show J < lanL.length from hl)]
    rfl
  rw [e] at h
  injection h with h
  rw [← h, lan, show 4 * (J / 4) + J % 4 = J from by omega]

/-- The list of a row of this chapter gives what the walks ask. -/
theorem tabs_of_laid {W : World} (h : laidMet Tryd.prog [("salchow/blake.iv", Rows.laid_salchow_blake_iv), ("salchow/blake.sigma", Rows.laid_salchow_blake_sigma), ("salchow/blake.lanes", Rows.laid_salchow_blake_lanes)] W) : Tabs W := by
  have h1 : Lib.TabIs Tryd.prog W "salchow/blake.iv" .u32 ivL := Lib.tabIs_of_head g_iv gt_iv Tryd.underlying47 Tryd.underlying46 (by kernel_rfl) (by kernel_rfl) h
  have h' := h.tail
  have h'' := h'.tail
  obtain ⟨ps, ⟨g', t', cs, fuel, p, q, hg', ht', hvar, hd, _, _⟩, _⟩ := h'
  obtain rfl := Option.some.inj (g_sigma.symm.trans hg')
  obtain rfl := Option.some.inj (gt_sigma.symm.trans ht')
  obtain ⟨ps3, ⟨g3, t3, cs3, fuel3, p3, q3, hg3, ht3, hvar3, hd3, _, _⟩, _⟩ := h''
  obtain rfl := Option.some.inj (g_lanes.symm.trans hg3)
  obtain rfl := Option.some.inj (gt_lanes.symm.trans ht3)
  refine ⟨fun j hj => ?_, fun J v hv => ?_, fun J v hv => ?_, ?_⟩
  · exact h1.cell g_iv j hj
  · obtain ⟨h1', rfl⟩ := sigCells_at J v hv
    have := tab2_at (rows := sigRows) Tryd.underlying62 Tryd.underlying61 Tryd.underlying5 (by kernel_rfl) (by kernel_rfl) hd h1' (show J % 16 < 16 by omega) (sig_rows _ h1' _ (by omega))
    rw [World.var?_cell g_sigma hvar, Nat.zero_add, ← Array.getElem?_toList, ← this]
    congr 1; omega
  · obtain ⟨h1', rfl⟩ := lanCells_at J v hv
    have := tab2_at (rows := lanRows) Tryd.underlying64 Tryd.underlying63 Tryd.underlying5 (by kernel_rfl) (by kernel_rfl) hd3 h1' (show J % 4 < 4 by omega) (lan_rows _ h1' _ (by omega))
    rw [World.var?_cell g_lanes hvar3, Nat.zero_add, ← Array.getElem?_toList, ← this]
    congr 1; omega
  · have hc : W.cell? ⟨2, 0, none⟩ = some (.int .u8 (lan 0 0)) := by
      have := tab2_at (rows := lanRows) Tryd.underlying64 Tryd.underlying63 Tryd.underlying5 (by kernel_rfl) (by kernel_rfl) hd3 (show 0 < 8 by omega) (show 0 < 4 by omega) (lan_rows 0 (by omega) 0 (by omega))
      rw [World.var?_cell g_lanes hvar3, ← Array.getElem?_toList]
      exact this
    have := World.block_lt_of_cell? W _ hc
    exact this
/-- A slice of bytes that reads as data holds bytes. -/
theorem rdS_of_trod {H : Type} {enc : TypeId × Value → H} {W : World} {sp : Nat → Bool} {held : Bool} {A : Option Addr} {n c : Nat} {d : DataW H} {p : List MemPlace}
    (h : DataW.Trod enc Tryd.prog W 0 sp held 22 (.slice A n c) d p) : ∃ xs, RdS W A n c xs ∧ (∀ x ∈ xs, 0 ≤ x ∧ x < 256) := by
  obtain ⟨fuel, hf⟩ := h
  rcases open_ints Tryd.underlying22 Tryd.underlying5 (by kernel_rfl) hf with ⟨hcs, _⟩ | ⟨x, l, cp, zs, hcs, _, hl, hm, hz, _, hcell, hwz⟩
  · simp [Value.cells] at hcs
    obtain ⟨rfl, rfl, rfl⟩ := hcs
    exact ⟨[], RdS.nil _ _ _, by simp⟩
  · simp [Value.cells] at hcs
    obtain ⟨rfl, rfl, rfl⟩ := hcs
    have hzl : n ≤ zs.length := by rw [hz]; split <;> omega
    refine ⟨zs.take n, ⟨by simp; omega, hl, fun hn => ⟨x, rfl, ?_, fun j v hv => ?_⟩⟩, fun y hy => ?_⟩
    · exact W.block_lt_of_cell? _ (hcell 0 (by omega))
    · obtain ⟨z, hzj, rfl⟩ : ∃ z, (zs.take n)[j]? = some z ∧ Value.int .u8 z = v := by
        rw [List.getElem?_map] at hv
        cases hx : (zs.take n)[j]? with
        | none => rw [hx] at hv; cases hv
        | some z => rw [hx] at hv; exact ⟨z, rfl, by injection hv⟩
      have hj : j < n := by have := (List.getElem?_eq_some_iff.1 hzj).1; simp at this; omega
      rw [List.getElem?_take, if_pos hj] at hzj
      rw [hcell j (by omega), List.getD_eq_getElem?_getD, hzj]
      rfl
    · have := hwz y (List.mem_of_mem_take hy)
      simp [Lit.wf, IntKind.min, IntKind.max, IntKind.signed, IntKind.bits] at this
      omega
end Go.Proofs.YtmedobeogdnkfaaDoor
