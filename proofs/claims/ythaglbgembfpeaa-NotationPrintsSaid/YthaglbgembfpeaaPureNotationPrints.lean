/- The plain law of NotationPrints. -/
import Derived.Test.YthaglbgembfpeaaP18
import Derived.Test.YthaglbgembfpeaaGRound2
namespace Go.Proofs.Ythaglbgembfpeaa.Pure
open Go.RowKit Go.Proofs.Ythaglbgembfpeaa Go.Proofs.Ythaglbgembfpeaa.P Go.Proofs.YthaglbgembfpeaaW.PrintWords Go.Proofs.YthaglbgembfpeaaW.PrintLast

theorem awake_true : salchowlaw19_awake.f 100 = some true := by decide +kernel
theorem last_of {l : List S49} (h : checkS l = 0) : l.length > 0 → (rd_T49 l ((l.length : Int) - 1)).f4 = false := fun hn => by
  unfold checkS at h
  by_cases hs : shapesS l = 0
  · rw [if_pos hs, if_pos hn] at h
    cases h4 : (rd_T49 l ((l.length : Int) - 1)).f4 with
    | false => rfl
    | true => rw [h4] at h; exact absurd h (by decide)
  · rw [if_neg hs] at h; exact absurd h hs
theorem NotationPrints (l : List S49) : ∃ k, salchowlaw19_NotationPrints.f k l = some true := by
  obtain ⟨K0, b, h0, hb⟩ := small_is l
  have aw : ∀ K, 100 ≤ K → salchowlaw19_awake.f K = some true := fun K h => up (f := fun k => salchowlaw19_awake.f k) (fun k => salchowlaw19_awake.mono k) awake_true h
  cases b with
  | false =>
    refine ⟨100 + K0, ?_⟩
    rw [salchowlaw19_NotationPrints.f, aw _ (by omega), Option.bind_some, if_pos rfl, up (f := fun k => salchowlaw19_small.f k l) (fun k => salchowlaw19_small.mono l k) h0 (K' := 100 + K0) (by omega), Option.bind_some, if_neg (by decide)]
  | true =>
    obtain ⟨hl, hz⟩ := hb rfl
    obtain ⟨K1, h1⟩ := p_check hl hz
    have hP : ∀ K, K1 ≤ K → notation_Print.f K l = (if checkS l = 0 then some (ofL (outTo l l.length), 0) else some (ofL [], checkS l)) := fun K hK => by
      rw [notation_Print.f, up (f := fun k => notation_Check.f k l) (fun k => notation_Check.mono l k) h1 hK, Option.bind_some]; rfl
    by_cases hc : checkS l = 0
    · obtain ⟨h30, hok⟩ := okItem_of hc
      have hlen := outTo_len hok l.length (Nat.le_refl _)
      have hsz : (ofL (outTo l l.length)).size ≤ 1500 := by rw [ofL_size]; omega
      obtain ⟨K2, h2⟩ := parse_is hsz
      rw [round_trip h30 hok (last_of hc)] at h2
      obtain ⟨K3, h3⟩ := same_self l (by omega)
      refine ⟨100 + K0 + K1 + K2 + K3, ?_⟩
      rw [salchowlaw19_NotationPrints.f, aw _ (by omega), Option.bind_some, if_pos rfl, up (f := fun k => salchowlaw19_small.f k l) (fun k => salchowlaw19_small.mono l k) h0 (K' := 100 + K0 + K1 + K2 + K3) (by omega), Option.bind_some, if_pos rfl,
        hP _ (by omega), if_pos hc, Option.bind_some, if_pos rfl, up (f := fun k => notation_Parse.f k _) (fun k => notation_Parse.mono _ k) h2 (K' := 100 + K0 + K1 + K2 + K3) (by omega), Option.bind_some, if_pos (by rfl),
        up (f := fun k => salchowref19_Same.f k _ _) (fun k => salchowref19_Same.mono _ _ k) h3 (K' := 100 + K0 + K1 + K2 + K3) (by omega), Option.bind_some]
    · refine ⟨100 + K0 + K1, ?_⟩
      rw [salchowlaw19_NotationPrints.f, aw _ (by omega), Option.bind_some, if_pos rfl, up (f := fun k => salchowlaw19_small.f k l) (fun k => salchowlaw19_small.mono l k) h0 (K' := 100 + K0 + K1) (by omega), Option.bind_some, if_pos rfl,
        hP _ (by omega), if_neg hc, Option.bind_some, if_neg hc, up (f := fun k => notation_Check.f k l) (fun k => notation_Check.mono l k) h1 (K' := 100 + K0 + K1) (by omega), Option.bind_some]
      simp
end Go.Proofs.Ythaglbgembfpeaa.Pure
