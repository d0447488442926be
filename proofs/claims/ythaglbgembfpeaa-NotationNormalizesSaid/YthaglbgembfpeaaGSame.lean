/- A list is the same as itself; what small says. No Go in it. -/
import Derived.Test.YthaglbgembfpeaaGChk2
import Derived.Test.YthaglbgembfpeaaP4
namespace Go.Proofs.Ythaglbgembfpeaa
open Go.RowKit Go.Proofs.Ythaglbgembfpeaa.P Go.Proofs.YthaglbgembfpeaaW.PrintWords Go.Proofs.YthaglbgembfpeaaW.PrintLast

/-- A list is the same as itself. -/
theorem same_self (l : List S49) (hl : l.length ≤ 1000) : ∃ K, salchowref19_Same.f K l l = some true := by
  have key : ∀ n i, l.length - i = n → i ≤ l.length → ∃ K, salchowref19_Same.l0 K l l i = some true := by
    intro n
    induction n with
    | zero => intro i h hi; exact ⟨1, by rw [salchowref19_Same.l0, if_neg (by omega)]⟩
    | succ n ih =>
      intro i h hi
      obtain ⟨K, hK⟩ := ih (i + 1) (by omega) (by omega)
      refine ⟨K + 1, ?_⟩
      rw [salchowref19_Same.l0, if_pos (by omega), if_pos (by omega), if_pos (by omega), if_neg (by simp), wS i (by omega)]
      exact hK
  obtain ⟨K, hK⟩ := key _ 0 rfl (by omega)
  exact ⟨K, by rw [salchowref19_Same.f, if_pos rfl]; exact hK⟩
/-- What small says. -/
theorem small_is (l : List S49) : ∃ K b, salchowlaw19_small.f K l = some b ∧ (b = true → l.length ≤ 60 ∧ ∀ x ∈ l, x.f0.size ≤ 100) := by
  by_cases h60 : (l.length : Int) > 60
  · exact ⟨0, false, by rw [salchowlaw19_small.f, if_pos h60], fun h => by cases h⟩
  · have key : ∀ n i, l.length - i = n → i ≤ l.length → ∃ K b, salchowlaw19_small.l0 K l i = some b ∧ (b = true → ∀ x ∈ l.drop i, x.f0.size ≤ 100) := by
      intro n
      induction n with
      | zero => intro i h hi; exact ⟨1, true, by rw [salchowlaw19_small.l0, if_neg (by omega)], fun _ x hx => by rw [List.drop_of_length_le (by omega)] at hx; cases hx⟩
      | succ n ih =>
        intro i h hi
        have lt : i < l.length := by omega
        by_cases hc : ((rd_T49 l i).f0.size : Int) > 100
        · exact ⟨1, false, by rw [salchowlaw19_small.l0, if_pos (by omega), if_pos (by omega), if_pos hc], fun h => by cases h⟩
        · obtain ⟨K, b, h1, h2⟩ := ih (i + 1) (by omega) (by omega)
          refine ⟨K + 1, b, by rw [salchowlaw19_small.l0, if_pos (by omega), if_pos (by omega), if_neg hc, wS i (by omega)]; exact h1, fun hb x hx => ?_⟩
          rw [rd_drop l i lt] at hx
          rcases List.mem_cons.1 hx with rfl | hx
          · omega
          · exact h2 hb x hx
    obtain ⟨K, b, h1, h2⟩ := key _ 0 rfl (by omega)
    exact ⟨K, b, by rw [salchowlaw19_small.f, if_neg h60]; exact h1, fun hb => ⟨by omega, by have := h2 hb; rwa [List.drop_zero] at this⟩⟩
end Go.Proofs.Ythaglbgembfpeaa
