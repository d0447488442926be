/- The plain law of NotationParses. -/
import Derived.Test.YthaglbgembfpeaaP15
import Derived.Test.YthaglbgembfpeaaGPar3
namespace Go.Proofs.Ythaglbgembfpeaa.Pure
open Go.RowKit Go.Proofs.Ythaglbgembfpeaa Go.Proofs.Ythaglbgembfpeaa.P Go.Proofs.YthaglbgembfpeaaW.PrintWords Go.Proofs.YthaglbgembfpeaaW.PrintLast

theorem awake_true : salchowlaw19_awake.f 100 = some true := by decide +kernel
theorem awake_from {K : Nat} (h : 100 ≤ K) : salchowlaw19_awake.f K = some true := up (f := fun k => salchowlaw19_awake.f k) (fun k => salchowlaw19_awake.mono k) awake_true h
theorem NotationParses : salchowlaw19_NotationParses.Pure := by
  intro s _
  by_cases hb : (s.size : Int) > 1500
  · exact ⟨100, by rw [salchowlaw19_NotationParses.f, awake_true, Option.bind_some, if_pos rfl, if_pos hb]⟩
  · have hs : s.size ≤ 1500 := by omega
    obtain ⟨K1, h1⟩ := parse_is hs
    obtain ⟨K2, h2⟩ := refparse_is hs
    obtain ⟨K3, h3⟩ := same_self (parseS (s.size + 1) s [] 0 false).1 (by have := parseS_len s (s.size + 1) 0 false [] (by omega) (by simp); omega)
    have e1 := up (f := fun k => notation_Parse.f k s) (fun k => notation_Parse.mono s k) h1 (K' := 100 + K1 + K2 + K3) (by omega)
    have e2 := up (f := fun k => salchowref19_Parse.f k s) (fun k => salchowref19_Parse.mono s k) h2 (K' := 100 + K1 + K2 + K3) (by omega)
    have e3 := up (f := fun k => salchowref19_Same.f k _ _) (fun k => salchowref19_Same.mono _ _ k) h3 (K' := 100 + K1 + K2 + K3) (by omega)
    refine ⟨100 + K1 + K2 + K3, ?_⟩
    rw [salchowlaw19_NotationParses.f, awake_from (by omega), Option.bind_some, if_pos rfl, if_neg hb, e1, Option.bind_some, e2, Option.bind_some, if_pos (by simp), e3, Option.bind_some]
end Go.Proofs.Ythaglbgembfpeaa.Pure
