/- A slice of slices of bytes that reads as data holds bytes. -/
import Derived.Test.YtmedobeogdnkfaaDoorBwrites
import Derived.Test.YtmedobeogdnkfaaDoorBlaid
import Derived.Deep.Matrix
namespace Go.Proofs.YtmedobeogdnkfaaDoor
open Go.ChangeShapes Go.WideShapes Go.ChangeAt Go.RowKit Go.Deep

theorem rdSS_of_trod {H : Type} {enc : TypeId × Value → H} {W : World} {held : Bool} {A : Option Addr} {n c : Nat} {d : DataW H} {p : List MemPlace}
    (h : DataW.Trod enc Tryd.prog W 0 (fun _ => true) held 39 (.slice A n c) d p) : ∃ xss, RdSS W A n c xss := by
  obtain ⟨fuel, hf⟩ := h
  rcases open_int_rows Tryd.underlying39 Tryd.underlying22 Tryd.underlying5 (by kernel_rfl) (by kernel_rfl) hf with ⟨hcs, _⟩ | ⟨a, len, cap, AA, L, C, Z, hcs, _, hl, hm, _, hat⟩
  · simp [Value.cells] at hcs
    obtain ⟨rfl, rfl, rfl⟩ := hcs
    exact ⟨[], rfl, Nat.le_refl _, fun h => absurd h (by omega)⟩
  · simp [Value.cells] at hcs
    obtain ⟨rfl, rfl, rfl⟩ := hcs
    refine ⟨(List.range n).map fun r => (AA r, L r, C r, (Z r).take (L r)), by simp, hl, fun hn => ⟨a, rfl, ?_, fun i B m d xs hx => ?_⟩⟩
    · have := W.block_lt_of_cell? _ (hat 0 (by omega)).1
      rwa [add_block] at this
    · rw [List.getElem?_map] at hx
      cases hi : (List.range n)[i]? with
      | none => rw [hi] at hx; cases hx
      | some r =>
        rw [hi] at hx
        have hin : i < n := by have := (List.getElem?_eq_some_iff.1 hi).1; simpa using this
        have hr : r = i := by have := (List.getElem?_eq_some_iff.1 hi).2; simpa using this.symm
        subst hr
        injection hx with hx
        injection hx with h1 hx
        injection hx with h2 hx
        injection hx with h3 h4
        subst h1 h2 h3 h4
        obtain ⟨e1, r1, r2, r3, r4, r5, r6⟩ := hat r (by omega)
        refine ⟨e1, by simp; omega, r1, fun hm => ?_⟩
        cases hA : AA r with
        | none => have := r5 hA; omega
        | some a' =>
          have hc := (r6 a' hA).2
          refine ⟨a', rfl, ?_, fun j v hv => ?_⟩
          · have := W.block_lt_of_cell? _ (hc 0 (by omega))
            rwa [add_block] at this
          · rw [List.getElem?_map] at hv
            cases hx : ((Z r).take (L r))[j]? with
            | none => rw [hx] at hv; cases hv
            | some z =>
              rw [hx] at hv
              have hj : j < L r := by have := (List.getElem?_eq_some_iff.1 hx).1; simp at this; omega
              rw [List.getElem?_take, if_pos hj] at hx
              rw [hc j (by omega), List.getD_eq_getElem?_getD, hx]
              injection hv with hv
              rw [← hv]
              rfl
end Go.Proofs.YtmedobeogdnkfaaDoor
