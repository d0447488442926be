/- The plain law of Check and Print: both sides come to shapesS, checkS, outTo. No Go in it. -/
import Derived.Test.YthaglbgembfpeaaGPrint
import Derived.Test.YthaglbgembfpeaaGPar1
namespace Go.Proofs.Ythaglbgembfpeaa
open Go.RowKit Go.Proofs.Ythaglbgembfpeaa.P Go.Proofs.YthaglbgembfpeaaW.PrintWords Go.Proofs.YthaglbgembfpeaaW.PrintLast

def codesOk (l : List S49) : Bool := l.all fun x => codeB x.f0
def downB (x : S49) : Bool := decide (0 ≤ x.f1 ∧ x.f1 ≤ 9)
def shapesS (l : List S49) : Int := if l.length > 30 then 6 else if codesOk l = true then (if l.all downB = true then 0 else 5) else 3
def checkS (l : List S49) : Int := if shapesS l = 0 then (if l.length > 0 then (if (rd_T49 l ((l.length : Int) - 1)).f4 = true then 15 else 0) else 0) else shapesS l
theorem wP (n : Nat) (h0 : 1 ≤ n) (h : n ≤ 100000) : wrap64 ((n : Int) - 1) = (n : Int) - 1 := by unfold wrap64; omega
theorem rd_drop (l : List S49) (i : Nat) (h : i < l.length) : l.drop i = rd_T49 l i :: l.drop (i + 1) := by
  rw [List.drop_eq_getElem_cons h]
  congr 1
  rw [rd_T49, Int.toNat_natCast, List.getD_eq_getElem?_getD, List.getElem?_eq_getElem h]
  rfl
theorem rd_mem (l : List S49) (i : Nat) (h : i < l.length) : rd_T49 l i ∈ l := by
  have := rd_drop l i h
  exact List.mem_of_mem_drop (this ▸ List.mem_cons_self)

section
variable {l : List S49} (hl : l.length ≤ 60) (hz : ∀ x ∈ l, x.f0.size ≤ 100)
include hl hz
theorem p49 : ∀ n i, l.length - i = n → i ≤ l.length → ∃ K r, api_Item_58_at49.l0 K l (l.length : Int) i = some r ∧ decide (r ≥ 0) = !((l.drop i).all fun x => codeB x.f0) := by
  intro n
  induction n with
  | zero =>
    intro i h hi
    exact ⟨1, -1, by rw [api_Item_58_at49.l0, if_neg (by omega)], by rw [List.drop_of_length_le (by omega)]; rfl⟩
  | succ n ih =>
    intro i h hi
    have lt : i < l.length := by omega
    have hc : notation_check_1.f (rd_T49 l i).f0 (rd_T49 l i).f1 (rd_T49 l i).f2 (rd_T49 l i).f3 (rd_T49 l i).f4 = some (!codeB (rd_T49 l i).f0) := by
      unfold notation_check_1.f ident_Code.f
      rw [if_pos (by have := hz _ (rd_mem l i lt); omega), Option.bind_some]
    rw [rd_drop l i lt, List.all_cons]
    by_cases hcb : codeB (rd_T49 l i).f0 = true
    · obtain ⟨K, r, h1, h2⟩ := ih (i + 1) (by omega) (by omega)
      refine ⟨K + 1, r, ?_, by rw [h2, hcb, Bool.true_and]⟩
      rw [api_Item_58_at49.l0, if_pos (by omega), if_pos (by omega), if_pos (by omega), hc, Option.bind_some, if_neg (by rw [hcb]; decide), wS i (by omega)]
      exact h1
    · have hcb' : codeB (rd_T49 l i).f0 = false := by simpa using hcb
      refine ⟨1, i, ?_, by rw [hcb', Bool.false_and, decide_eq_true (by omega)]; rfl⟩
      rw [api_Item_58_at49.l0, if_pos (by omega), if_pos (by omega), if_pos (by omega), hc, Option.bind_some, if_pos (by rw [hcb']; rfl)]
omit hz in
theorem p50 : ∀ n i, l.length - i = n → i ≤ l.length → ∃ K r, api_Item_58_at50.l0 K l (l.length : Int) i = some r ∧ decide (r ≥ 0) = !((l.drop i).all downB) := by
  intro n
  induction n with
  | zero =>
    intro i h hi
    exact ⟨1, -1, by rw [api_Item_58_at50.l0, if_neg (by omega)], by rw [List.drop_of_length_le (by omega)]; rfl⟩
  | succ n ih =>
    intro i h hi
    have lt : i < l.length := by omega
    have hc : notation_check_2.f (rd_T49 l i).f0 (rd_T49 l i).f1 (rd_T49 l i).f2 (rd_T49 l i).f3 (rd_T49 l i).f4 = some (!downB (rd_T49 l i)) := by
      unfold notation_check_2.f downB
      split
      · rw [decide_eq_false (by omega)]; rfl
      · rw [Option.some.injEq, Bool.eq_iff_iff]; simp; omega
    rw [rd_drop l i lt, List.all_cons]
    by_cases hcb : downB (rd_T49 l i) = true
    · obtain ⟨K, r, h1, h2⟩ := ih (i + 1) (by omega) (by omega)
      refine ⟨K + 1, r, ?_, by rw [h2, hcb, Bool.true_and]⟩
      rw [api_Item_58_at50.l0, if_pos (by omega), if_pos (by omega), if_pos (by omega), hc, Option.bind_some, if_neg (by rw [hcb]; decide), wS i (by omega)]
      exact h1
    · have hcb' : downB (rd_T49 l i) = false := by simpa using hcb
      refine ⟨1, i, ?_, by rw [hcb', Bool.false_and, decide_eq_true (by omega)]; rfl⟩
      rw [api_Item_58_at50.l0, if_pos (by omega), if_pos (by omega), if_pos (by omega), hc, Option.bind_some, if_pos (by rw [hcb']; rfl)]
theorem p_shapes : ∃ K, notation_check.f K l = some (shapesS l) := by
  unfold shapesS
  by_cases h30 : l.length > 30
  · exact ⟨0, by rw [notation_check.f, if_pos (by omega), if_pos h30]⟩
  · obtain ⟨K1, r1, h1, e1⟩ := p49 hl hz _ 0 rfl (by omega)
    obtain ⟨K2, r2, h2, e2⟩ := p50 hl _ 0 rfl (by omega)
    rw [List.drop_zero] at e1 e2
    have g1 : api_Item_48_at49.f (K1 + K2) l () = some (!codesOk l) := by
      unfold api_Item_48_at49.f api_Item_58_at49.f
      rw [up (f := fun k => api_Item_58_at49.l0 k l (l.length : Int) 0) (fun k => api_Item_58_at49.mono_l k _ _ _) h1 (by omega), Option.bind_some, e1]; rfl
    have g2 : api_Item_48_at50.f (K1 + K2) l () = some (!l.all downB) := by
      unfold api_Item_48_at50.f api_Item_58_at50.f
      rw [up (f := fun k => api_Item_58_at50.l0 k l (l.length : Int) 0) (fun k => api_Item_58_at50.mono_l k _ _ _) h2 (by omega), Option.bind_some, e2]
    refine ⟨K1 + K2, ?_⟩
    rw [notation_check.f, if_neg (by omega), if_neg h30, g1, Option.bind_some]
    cases hc : codesOk l with
    | false => rfl
    | true =>
      rw [if_neg (by decide), g2, Option.bind_some]
      cases hd : l.all downB <;> rfl
theorem p_check : ∃ K, notation_Check.f K l = some (checkS l) := by
  obtain ⟨K, hK⟩ := p_shapes hl hz
  refine ⟨K, ?_⟩
  unfold checkS
  rw [notation_Check.f, hK, Option.bind_some]
  by_cases h0 : shapesS l = 0
  · rw [if_pos h0, if_pos h0]
    by_cases hn : l.length > 0
    · rw [if_pos (by omega), if_pos hn, wP _ hn (by omega), if_pos (by omega), if_pos (by omega)]; split <;> rfl
    · rw [if_neg (by omega), if_neg hn]
  · rw [if_neg h0, if_neg h0]
end
end Go.Proofs.Ythaglbgembfpeaa
