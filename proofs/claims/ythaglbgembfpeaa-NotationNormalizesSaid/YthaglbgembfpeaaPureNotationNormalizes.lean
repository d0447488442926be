/- The plain law of NotationNormalizes. -/
import Derived.Test.YthaglbgembfpeaaP20
import Derived.Test.YthaglbgembfpeaaGGood
import Derived.Test.YthaglbgembfpeaaGSame
namespace Go.Proofs.Ythaglbgembfpeaa.Pure
open Go.RowKit Go.Proofs.Ythaglbgembfpeaa Go.Proofs.Ythaglbgembfpeaa.P Go.Proofs.YthaglbgembfpeaaW.PrintWords Go.Proofs.YthaglbgembfpeaaW.PrintLast

theorem awake_true : salchowlaw19_awake.f 100 = some true := by decide +kernel
theorem NotationNormalizes : salchowlaw19_NotationNormalizes.Pure := by
  intro s _
  have aw : ∀ K, 100 ≤ K → salchowlaw19_awake.f K = some true := fun K h => up (f := fun k => salchowlaw19_awake.f k) (fun k => salchowlaw19_awake.mono k) awake_true h
  by_cases hb : (s.size : Int) > 1500
  · exact ⟨100, by rw [salchowlaw19_NotationNormalizes.f, awake_true, Option.bind_some, if_pos rfl, if_pos hb]⟩
  · have hs : s.size ≤ 1500 := by omega
    obtain ⟨K1, h1⟩ := parse_is hs
    obtain ⟨R, hR⟩ : ∃ R, R = parseS (s.size + 1) s [] 0 false := ⟨_, rfl⟩
    rw [← hR] at h1
    obtain ⟨l, c, e⟩ := R
    by_cases hc : c = 0
    · subst hc
      obtain ⟨he, hl, hok, hj, hlen⟩ := parse_good (s := s) (s.size + 1) 0 false [] l 0 e (by omega) (by omega) (by simp) (fun q hq => by simp at hq) rfl (.inl (by simp [lenU, outTo])) hR.symm rfl
      subst he
      have hck := check_of hl hok hj
      have hlast : l.length > 0 → (rd_T49 l ((l.length : Int) - 1)).f4 = false := fun h => by unfold lastJ at hj; rwa [if_pos h] at hj
      have hz : ∀ x ∈ l, x.f0.size ≤ 100 := fun x hx => by
        obtain ⟨q, hq, rfl⟩ := List.getElem_of_mem hx
        have := hok q hq
        rw [rd_T49, Int.toNat_natCast, List.getD_eq_getElem?_getD, List.getElem?_eq_getElem hq] at this
        have := codeB_size this.1
        show (l[q]).f0.size ≤ 100
        have e : (some l[q]).getD z49 = l[q] := rfl
        rw [e] at this
        omega
      obtain ⟨K2, h2⟩ := p_check (l := l) (by omega) hz
      rw [hck] at h2
      have hlen2 := outTo_len hok l.length (Nat.le_refl _)
      obtain ⟨T, hT⟩ : ∃ T, T = ofL (outTo l l.length) := ⟨_, rfl⟩
      have hTs : T.size = lenU l := by rw [hT, ofL_size]; rfl
      have hP : ∀ K, K2 ≤ K → notation_Print.f K l = some (T, 0) := fun K hK => by
        rw [notation_Print.f, up (f := fun k => notation_Check.f k l) (fun k => notation_Check.mono l k) h2 hK, Option.bind_some, hT]; rfl
      obtain ⟨K3, h3⟩ := parse_is (s := T) (by rw [hTs]; omega)
      have hrt := round_trip hl hok hlast
      rw [← hT] at hrt
      rw [hrt] at h3
      obtain ⟨K4, h4⟩ := same_self l (by omega)
      obtain ⟨K, hK⟩ : ∃ K, K = 100 + K1 + K2 + K3 + K4 := ⟨_, rfl⟩
      have e1 := up (f := fun k => notation_Parse.f k s) (fun k => notation_Parse.mono s k) h1 (K' := K) (by omega)
      have e3 := up (f := fun k => notation_Parse.f k T) (fun k => notation_Parse.mono T k) h3 (K' := K) (by omega)
      have e4 := up (f := fun k => salchowref19_Same.f k _ _) (fun k => salchowref19_Same.mono _ _ k) h4 (K' := K) (by omega)
      have n1 : notation_Normalize.f K s = some (T, 0, 0) := by rw [notation_Normalize.f, e1, Option.bind_some, if_pos rfl, hP K (by omega), Option.bind_some]
      have n2 : notation_Normalize.f K T = some (T, 0, 0) := by rw [notation_Normalize.f, e3, Option.bind_some, if_pos rfl, hP K (by omega), Option.bind_some]
      refine ⟨K, ?_⟩
      rw [salchowlaw19_NotationNormalizes.f, aw _ (by omega), Option.bind_some, if_pos rfl, if_neg hb, n1, Option.bind_some, e1, Option.bind_some, if_pos rfl, n2, Option.bind_some, e3, Option.bind_some, if_pos (by rfl), if_pos (by rw [hTs]; omega), if_pos (by rfl), if_pos rfl, if_pos (by rfl), e4, Option.bind_some]
    · obtain ⟨K, hK⟩ : ∃ K, K = 100 + K1 := ⟨_, rfl⟩
      have e1 := up (f := fun k => notation_Parse.f k s) (fun k => notation_Parse.mono s k) h1 (K' := K) (by omega)
      have n1 : notation_Normalize.f K s = some (⟨#[]⟩, c, e) := by rw [notation_Normalize.f, e1, Option.bind_some, if_neg hc]
      refine ⟨K, ?_⟩
      rw [salchowlaw19_NotationNormalizes.f, aw _ (by omega), Option.bind_some, if_pos rfl, if_neg hb, n1, Option.bind_some, e1, Option.bind_some, if_neg hc, if_pos (by simp)]
      show some ((⟨#[]⟩ : ByteArray).toList == ([] : List UInt8)) = some true
      decide +kernel
end Go.Proofs.Ythaglbgembfpeaa.Pure
