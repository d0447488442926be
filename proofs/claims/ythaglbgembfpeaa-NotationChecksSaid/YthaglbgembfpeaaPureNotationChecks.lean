/- The plain law of NotationChecks. -/
import Derived.Test.YthaglbgembfpeaaP17
import Derived.Test.YthaglbgembfpeaaGChk2
namespace Go.Proofs.Ythaglbgembfpeaa.Pure
open Go.RowKit Go.Proofs.Ythaglbgembfpeaa Go.Proofs.Ythaglbgembfpeaa.P Go.Proofs.YthaglbgembfpeaaW.PrintWords Go.Proofs.YthaglbgembfpeaaW.PrintLast

theorem awake_true : salchowlaw19_awake.f 100 = some true := by decide +kernel
theorem NotationChecks (l : List S49) : ∃ k, salchowlaw19_NotationChecks.f k l = some true := by
  obtain ⟨K0, b, h0, hb⟩ := small_is l
  have aw : ∀ K, 100 ≤ K → salchowlaw19_awake.f K = some true := fun K h => up (f := fun k => salchowlaw19_awake.f k) (fun k => salchowlaw19_awake.mono k) awake_true h
  cases b with
  | false =>
    refine ⟨100 + K0, ?_⟩
    rw [salchowlaw19_NotationChecks.f, aw _ (by omega), Option.bind_some, if_pos rfl, up (f := fun k => salchowlaw19_small.f k l) (fun k => salchowlaw19_small.mono l k) h0 (K' := 100 + K0) (by omega), Option.bind_some, if_neg (by decide)]
  | true =>
    obtain ⟨hl, hz⟩ := hb rfl
    obtain ⟨K1, h1⟩ := p_check hl hz
    obtain ⟨K2, h2⟩ := r_check hl hz
    have hP : ∀ K, K1 ≤ K → notation_Print.f K l = (if checkS l = 0 then some (ofL (outTo l l.length), 0) else some (ofL [], checkS l)) := fun K hK => by
      rw [notation_Print.f, up (f := fun k => notation_Check.f k l) (fun k => notation_Check.mono l k) h1 hK, Option.bind_some]; rfl
    by_cases hc : checkS l = 0
    · obtain ⟨h30, hok⟩ := okItem_of hc
      obtain ⟨K3, h3⟩ := rprint_is h30 hok
      refine ⟨100 + K0 + K1 + K2 + K3, ?_⟩
      rw [salchowlaw19_NotationChecks.f, aw _ (by omega), Option.bind_some, if_pos rfl, up (f := fun k => salchowlaw19_small.f k l) (fun k => salchowlaw19_small.mono l k) h0 (K' := 100 + K0 + K1 + K2 + K3) (by omega), Option.bind_some, if_pos rfl,
        up (f := fun k => salchowref19_Check.f k l) (fun k => salchowref19_Check.mono l k) h2 (K' := 100 + K0 + K1 + K2 + K3) (by omega), Option.bind_some, hP _ (by omega), if_pos hc, Option.bind_some, if_pos hc,
        up (f := fun k => notation_Check.f k l) (fun k => notation_Check.mono l k) h1 (K' := 100 + K0 + K1 + K2 + K3) (by omega), Option.bind_some, if_pos hc, if_pos rfl,
        up (f := fun k => salchowref19_Print.f k l) (fun k => salchowref19_Print.mono l k) h3 (K' := 100 + K0 + K1 + K2 + K3) (by omega), Option.bind_some]
      simp
    · refine ⟨100 + K0 + K1 + K2, ?_⟩
      rw [salchowlaw19_NotationChecks.f, aw _ (by omega), Option.bind_some, if_pos rfl, up (f := fun k => salchowlaw19_small.f k l) (fun k => salchowlaw19_small.mono l k) h0 (K' := 100 + K0 + K1 + K2) (by omega), Option.bind_some, if_pos rfl,
        up (f := fun k => salchowref19_Check.f k l) (fun k => salchowref19_Check.mono l k) h2 (K' := 100 + K0 + K1 + K2) (by omega), Option.bind_some, hP _ (by omega), if_neg hc, Option.bind_some, if_neg hc,
        up (f := fun k => notation_Check.f k l) (fun k => notation_Check.mono l k) h1 (K' := 100 + K0 + K1 + K2) (by omega), Option.bind_some, if_pos rfl, if_pos rfl]
      show some ((ofL []).toList == ([] : List UInt8)) = some true
      decide +kernel
end Go.Proofs.Ythaglbgembfpeaa.Pure
