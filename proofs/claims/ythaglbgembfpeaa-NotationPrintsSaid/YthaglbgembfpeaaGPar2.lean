/- The plain law of the reference's Parse: it comes to parseS, too. No Go in it. -/
import Derived.Test.YthaglbgembfpeaaGPar1
import Derived.Test.YthaglbgembfpeaaP7
namespace Go.Proofs.Ythaglbgembfpeaa
open Go.RowKit Go.Proofs.Ythaglbgembfpeaa.P Go.Proofs.YthaglbgembfpeaaW.PrintWords Go.Proofs.YthaglbgembfpeaaW.PrintLast

theorem up {α : Type} {f : Nat → Option α} (h : ∀ k, LeO (f k) (f (k + 1))) {r : α} {K : Nat} (hK : f K = some r) : ∀ {K'}, K ≤ K' → f K' = some r := by
  intro K' hle
  induction K' with
  | zero => obtain rfl : K = 0 := by omega
            exact hK
  | succ n ih =>
    rcases Nat.lt_or_ge K (n + 1) with h1 | h1
    · exact h n r (ih (by omega))
    · obtain rfl : K = n + 1 := by omega
      exact hK

theorem rletter (b : Int) : salchowref19_letter.f b = some (letB b) := by
  unfold salchowref19_letter.f letB
  repeat' split
  all_goals (rw [Option.some.injEq, Bool.eq_iff_iff]; simp only [Bool.or_eq_true, decide_eq_true_eq, true_iff, Bool.false_eq_true, false_iff]; omega)
theorem rwithin (b lo hi : Int) : salchowref04_within.f b lo hi = some (decide (lo ≤ b ∧ b ≤ hi)) := by
  unfold salchowref04_within.f
  split
  · rename_i h
    rw [Option.some.injEq, decide_eq_decide]; omega
  · rename_i h
    rw [Option.some.injEq, eq_comm, decide_eq_false_iff_not]; omega
theorem rdigit (b : Int) : salchowref04_Digit.f b = some (digI b) := by
  unfold salchowref04_Digit.f digI
  rw [rwithin]; rfl
theorem bytes_drop (s : ByteArray) (i : Nat) (h : i < s.size) : (bytesOf s).drop i = bt s i :: (bytesOf s).drop (i + 1) := by
  have hl : i < (bytesOf s).length := by rw [bytesOf_length]; exact h
  rw [List.drop_eq_getElem_cons hl]
  congr 1
  have := rd_bytesOf s i
  rw [← this, rd, Int.toNat_natCast, List.getD_eq_getElem?_getD, List.getElem?_eq_getElem hl]
  rfl

section
variable {s : ByteArray} (hs : s.size ≤ 1500)
include hs
theorem r_code_l : ∀ n i x, s.size - i = n → i ≤ s.size → ∃ K, salchowref04_Code.l0 K s x i = some (((bytesOf s).drop i).all (fun b => ltrB b || digI b) && (x || ((bytesOf s).drop i).any ltrB)) := by
  intro n
  induction n with
  | zero =>
    intro i x h hi
    refine ⟨1, ?_⟩
    rw [salchowref04_Code.l0, if_neg (by omega), List.drop_of_length_le (by rw [bytesOf_length]; omega)]
    simp
  | succ n ih =>
    intro i x h hi
    have lt : i < s.size := by omega
    rw [bytes_drop s i lt, List.all_cons, List.any_cons]
    by_cases h1 : ltrB (bt s i) = true
    · obtain ⟨K, hK⟩ := ih (i + 1) true (by omega) (by omega)
      refine ⟨K + 1, ?_⟩
      have w : salchowref04_Code.l0 (K + 1) s x i = salchowref04_Code.l0 K s true (wrap64 ((i : Int) + 1)) := by
        rw [salchowref04_Code.l0, if_pos (by omega), if_pos (by omega), rwithin, Option.bind_some]
        by_cases a : (65 : Int) ≤ bt s i ∧ bt s i ≤ 90
        · rw [if_pos (decide_eq_true a)]; split <;> rfl
        · have b : (97 : Int) ≤ bt s i ∧ bt s i ≤ 122 := by
            simp only [ltrB, Bool.or_eq_true, decide_eq_true_eq] at h1
            rcases h1 with h1 | h1
            · exact absurd h1 a
            · exact h1
          rw [if_neg (by simpa using a), rwithin, Option.bind_some, if_pos (decide_eq_true b), decide_eq_true b]; split <;> rfl
      rw [w, wS i (by omega), hK, h1]
      simp
    · have na : ¬ ((65 : Int) ≤ bt s i ∧ bt s i ≤ 90) := fun a => h1 (by simp only [ltrB, decide_eq_true a, Bool.true_or])
      have nb : ¬ ((97 : Int) ≤ bt s i ∧ bt s i ≤ 122) := fun a => h1 (by simp only [ltrB, decide_eq_true a, Bool.or_true])
      have h1' : ltrB (bt s i) = false := by simpa using h1
      by_cases h2 : digI (bt s i) = true
      · obtain ⟨K, hK⟩ := ih (i + 1) x (by omega) (by omega)
        refine ⟨K + 1, ?_⟩
        have w : salchowref04_Code.l0 (K + 1) s x i = salchowref04_Code.l0 K s x (wrap64 ((i : Int) + 1)) := by
          rw [salchowref04_Code.l0, if_pos (by omega), if_pos (by omega), rwithin, Option.bind_some, if_neg (by simpa using na), rwithin, Option.bind_some, if_neg (by simpa using nb), rdigit, Option.bind_some, if_pos h2, decide_eq_false nb]
          cases x <;> rfl
        rw [w, wS i (by omega), hK, h1', h2]
        simp
      · refine ⟨1, ?_⟩
        have h2' : digI (bt s i) = false := by simpa using h2
        rw [salchowref04_Code.l0, if_pos (by omega), if_pos (by omega), rwithin, Option.bind_some, if_neg (by simpa using na), rwithin, Option.bind_some, if_neg (by simpa using nb), rdigit, Option.bind_some, if_neg h2, h1', h2']
        simp
theorem r_code : ∃ K, salchowref04_Code.f K s = some (codeB s) := by
  by_cases h1 : s.size < 1
  · refine ⟨1, ?_⟩
    rw [salchowref04_Code.f, if_pos (by omega), salchowref04_Code.j0, if_pos rfl]
    simp [codeB, evB]; omega
  · by_cases h8 : s.size > 8
    · refine ⟨1, ?_⟩
      rw [salchowref04_Code.f, if_neg (by omega), salchowref04_Code.j0, if_pos (by simp; omega)]
      have : decide ((s.size : Int) ≤ 8) = false := decide_eq_false (by omega)
      simp only [codeB, evB, this, Bool.false_and, Bool.and_false]
    · obtain ⟨K, hK⟩ := r_code_l hs _ 0 false rfl (by omega)
      refine ⟨K + 1, ?_⟩
      rw [salchowref04_Code.f, if_neg (by omega), salchowref04_Code.j0, if_neg (by simp; omega)]
      rw [show ((0 : Nat) : Int) = 0 from rfl] at hK
      rw [hK]
      have a1 : decide (1 ≤ s.size) = true := decide_eq_true (by omega)
      have a2 : decide ((s.size : Int) ≤ 8) = true := decide_eq_true (by omega)
      simp only [codeB, evB, a1, a2, Bool.true_and, List.drop_zero, Bool.false_or]

/-- What the reference's item gives. -/
def irT (s : ByteArray) : IR → ByteArray × Int × Bool × Bool × Bool × Int × Int × Int
  | .err c e => (⟨#[]⟩, 0, false, false, false, 0, c, (e : Int))
  | .ok code d r v e => if e < s.size ∧ bt s e = 43 then (code, d, r, v, true, ((e + 1 : Nat) : Int), 0, 0) else (code, d, r, v, false, (e : Int), 0, 0)
theorem r_tail (code : ByteArray) : ∀ n i d r v, s.size - i = n → i ≤ s.size → 0 ≤ d → d ≤ 9 → ∃ K, salchowref19_item.l1 K s i code d r v false = some (irT s (match tailS s i d r v with
    | .err c e => .err c e
    | .stop e d' r' v' => .ok code d' r' v' e)) := by
  intro n
  induction n with
  | zero =>
    intro i d r v h hi h0 h9
    rw [tailS, dif_neg (by omega)]
    refine ⟨1, ?_⟩
    rw [salchowref19_item.l1, if_neg (by omega)]
    show _ = some (if i < s.size ∧ bt s i = 43 then _ else _)
    rw [if_neg (by omega)]
  | succ n ih =>
    intro i d r v h hi h0 h9
    have lt : (i : Int) < (s.size : Int) := by omega
    have ge : 0 ≤ (i : Int) := by omega
    rw [tailS, dif_pos (by omega)]
    by_cases b1 : bt s i = 60
    · rw [if_pos b1]
      by_cases e9 : d = 9
      · rw [if_pos e9]
        exact ⟨1, by rw [salchowref19_item.l1, if_pos lt, if_pos ge, if_pos b1, if_pos e9]; rfl⟩
      · rw [if_neg e9]
        obtain ⟨K, hK⟩ := ih (i + 1) (d + 1) r v (by omega) (by omega) (by omega) (by omega)
        exact ⟨K + 1, by rw [salchowref19_item.l1, if_pos lt, if_pos ge, if_pos b1, if_neg e9, wS i (by omega), wD d h0 (by omega)]; exact hK⟩
    · rw [if_neg b1]
      by_cases b2 : bt s i = 63
      · rw [if_pos b2]
        cases r with
        | true => exact ⟨1, by rw [salchowref19_item.l1, if_pos lt, if_pos ge, if_neg b1, if_pos b2, if_pos rfl]; rfl⟩
        | false =>
          obtain ⟨K, hK⟩ := ih (i + 1) d true v (by omega) (by omega) h0 h9
          exact ⟨K + 1, by rw [salchowref19_item.l1, if_pos lt, if_pos ge, if_neg b1, if_pos b2, if_neg (by decide), wS i (by omega)]; exact hK⟩
      · rw [if_neg b2]
        by_cases b3 : bt s i = 42
        · rw [if_pos b3]
          cases v with
          | true => exact ⟨1, by rw [salchowref19_item.l1, if_pos lt, if_pos ge, if_neg b1, if_neg b2, if_pos b3, if_pos rfl]; rfl⟩
          | false =>
            obtain ⟨K, hK⟩ := ih (i + 1) d r true (by omega) (by omega) h0 h9
            exact ⟨K + 1, by rw [salchowref19_item.l1, if_pos lt, if_pos ge, if_neg b1, if_neg b2, if_pos b3, if_neg (by decide), wS i (by omega)]; exact hK⟩
        · rw [if_neg b3]
          refine ⟨1, ?_⟩
          rw [salchowref19_item.l1, if_pos lt, if_pos ge, if_neg b1, if_neg b2, if_neg b3]
          show _ = some (if i < s.size ∧ bt s i = 43 then _ else _)
          by_cases b4 : bt s i = 43
          · rw [if_pos b4, if_pos ⟨by omega, b4⟩, wS i (by omega)]
          · rw [if_neg b4, if_neg (fun h => b4 h.2)]
theorem r_item (a before : Nat) (ha : a ≤ s.size) : ∃ K, salchowref19_item.f K s a before = some (irT s (itemS s a before)) := by
  have tw : ∀ n i, s.size - i = n → i ≤ s.size → ∀ K R, salchowref19_item.j1 K s a before (endL s i : Nat) = some R → ∃ K, salchowref19_item.l0 K s a before i = some R := by
    intro n
    induction n with
    | zero =>
      intro i h hi K R hK
      rw [endL, dif_neg (by omega)] at hK
      exact ⟨K + 1, by rw [salchowref19_item.l0, if_neg (by omega)]; exact hK⟩
    | succ n ih =>
      intro i h hi K R hK
      rw [endL, dif_pos (by omega)] at hK
      by_cases hb : letB (bt s i) = true
      · rw [if_pos hb] at hK
        obtain ⟨K', hK'⟩ := ih (i + 1) (by omega) (by omega) K R hK
        exact ⟨K' + 1, by rw [salchowref19_item.l0, if_pos (by omega), if_pos (by omega), rletter, Option.bind_some, if_pos hb, wS i (by omega)]; exact hK'⟩
      · rw [if_neg hb] at hK
        exact ⟨K + 1, by rw [salchowref19_item.l0, if_pos (by omega), if_pos (by omega), rletter, Option.bind_some, if_neg hb]; exact hK⟩
  have hbd := endL_bd s _ a rfl ha
  unfold itemS
  by_cases he : endL s a = a
  · rw [if_pos he]
    exact tw _ a rfl ha 1 _ (by rw [salchowref19_item.j1, if_pos (by omega)]; rfl)
  · rw [if_neg he]
    by_cases h30 : before = 30
    · rw [if_pos h30]
      exact tw _ a rfl ha 1 _ (by rw [salchowref19_item.j1, if_neg (by omega), if_pos (by omega)]; rfl)
    · rw [if_neg h30]
      obtain ⟨K1, h1⟩ := r_code (s := s.extract a (endL s a)) (by rw [ByteArray.size_extract]; omega)
      have j1 : ∀ K, K1 ≤ K → salchowref19_item.j1 (K + 1) s a before (endL s a : Nat) = (if codeB (s.extract a (endL s a)) = true then salchowref19_item.l1 K s (endL s a : Nat) (s.extract a (endL s a)) 0 false false false else some (⟨#[]⟩, 0, false, false, false, 0, 3, (a : Int))) := fun K hK => by
        rw [salchowref19_item.j1, if_neg (by omega), if_neg (by omega), if_pos (by omega), if_pos (by omega), if_pos (by omega), Int.toNat_natCast, Int.toNat_natCast, up (f := fun k => salchowref04_Code.f k (s.extract a (endL s a))) (fun k => salchowref04_Code.mono _ k) h1 hK, Option.bind_some]
      by_cases hc : codeB (s.extract a (endL s a)) = true
      · rw [if_pos hc]
        obtain ⟨K2, h2⟩ := r_tail hs (s.extract a (endL s a)) _ (endL s a) 0 false false rfl hbd.2.1 (by omega) (by omega)
        refine tw _ a rfl ha (max K1 K2 + 1) _ ?_
        rw [j1 _ (by omega), if_pos hc]
        exact up (f := fun k => salchowref19_item.l1 k s (endL s a : Nat) (s.extract a (endL s a)) 0 false false false) (fun k => (salchowref19_item.mono_l k).2.1 _ _ _ _ _ _ _) h2 (by omega)
      · rw [if_neg hc]
        exact tw _ a rfl ha (K1 + 1) _ (by rw [j1 _ (Nat.le_refl _), if_neg hc]; rfl)
end
end Go.Proofs.Ythaglbgembfpeaa
