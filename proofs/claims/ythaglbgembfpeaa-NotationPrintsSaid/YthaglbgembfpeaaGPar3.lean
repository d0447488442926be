/- The reference's Parse comes to parseS; a list is the same as itself. -/
import Derived.Test.YthaglbgembfpeaaGPar2
namespace Go.Proofs.Ythaglbgembfpeaa
open Go.RowKit Go.Proofs.Ythaglbgembfpeaa.P Go.Proofs.YthaglbgembfpeaaW.PrintWords Go.Proofs.YthaglbgembfpeaaW.PrintLast

theorem itemS_err {s : ByteArray} {a b e : Nat} {c : Int} (h : itemS s a b = .err c e) : c = 2 ∨ c = 3 ∨ c = 4 ∨ c = 6 := by
  have ht : ∀ n i d r v c e, s.size - i = n → tailS s i d r v = .err c e → c = 4 ∨ c = 6 := by
    intro n
    induction n with
    | zero => intro i d r v c e h ht; rw [tailS, dif_neg (by omega)] at ht; cases ht
    | succ n ih =>
      intro i d r v c e h ht
      rw [tailS, dif_pos (by omega)] at ht
      split at ht
      · split at ht
        · injection ht with ht _; exact .inr ht.symm
        · exact ih _ _ _ _ _ _ (by omega) ht
      · split at ht
        · split at ht
          · injection ht with ht _; exact .inl ht.symm
          · exact ih _ _ _ _ _ _ (by omega) ht
        · split at ht
          · split at ht
            · injection ht with ht _; exact .inl ht.symm
            · exact ih _ _ _ _ _ _ (by omega) ht
          · cases ht
  unfold itemS at h
  split at h
  · injection h with h _; exact .inl h.symm
  · split at h
    · injection h with h _; exact .inr (.inr (.inr h.symm))
    · split at h
      · split at h
        · rename_i heq
          injection h with h _
          rcases ht _ _ _ _ _ _ _ rfl heq with h' | h'
          · exact .inr (.inr (.inl (h ▸ h')))
          · exact .inr (.inr (.inr (h ▸ h')))
        · cases h
      · injection h with h _; exact .inr (.inl h.symm)
theorem itemS_ok {s : ByteArray} {a b e : Nat} {code : ByteArray} {d : Int} {r v : Bool} (ha : a ≤ s.size) (h : itemS s a b = .ok code d r v e) : a < e ∧ e ≤ s.size ∧ b ≠ 30 := by
  unfold itemS at h
  split at h
  · cases h
  · rename_i hne
    split at h
    · cases h
    · rename_i h30
      split at h
      · have hbd := endL_bd s _ a rfl ha
        have hd := tailS_bd s _ (endL s a) 0 false false rfl hbd.2.1 (by omega) (by omega)
        split at h
        · cases h
        · rename_i heq
          injection h with _ _ _ _ h
          subst h
          rw [heq] at hd
          exact ⟨by omega, hd.2.1, h30⟩
      · cases h

section
variable {s : ByteArray} (hs : s.size ≤ 1500)
include hs
theorem r_top (l : List S49) (R : List S49 × Int × Int) : ∀ n i, s.size - i = n → i ≤ s.size → ∀ K, salchowref19_Parse.j2 K s l (skipB s i : Nat) = some R → ∃ K', salchowref19_Parse.l1 K' s l i = some R := by
  intro n
  induction n with
  | zero =>
    intro i h hi K hK
    rw [skipB, dif_neg (by omega)] at hK
    exact ⟨K + 1, by rw [salchowref19_Parse.l1, if_neg (by omega)]; exact hK⟩
  | succ n ih =>
    intro i h hi K hK
    rw [skipB, dif_pos (by omega)] at hK
    by_cases hb : bt s i = 32
    · rw [if_pos hb] at hK
      obtain ⟨K', hK'⟩ := ih (i + 1) (by omega) (by omega) K hK
      exact ⟨K' + 1, by rw [salchowref19_Parse.l1, if_pos (by omega), if_pos (by omega), if_pos hb, wS i (by omega)]; exact hK'⟩
    · rw [if_neg hb] at hK
      exact ⟨K + 1, by rw [salchowref19_Parse.l1, if_pos (by omega), if_pos (by omega), if_neg hb]; exact hK⟩
theorem r_step (l : List S49) (a : Nat) (ha : a ≤ s.size) (hl : l.length ≤ 30) (fuel : Nat)
    (ih : l.length ≤ 29 → ∀ e, a < e → e < s.size → ∀ x, (∃ K, salchowref19_Parse.l0 K s (l ++ [x]) ((e + 1 : Nat) : Int) = some (parseS fuel s (l ++ [x]) (e + 1) false)) ∧ (∃ K, salchowref19_Parse.l2 K s (l ++ [x]) ((e + 1 : Nat) : Int) true = some (parseS fuel s (l ++ [x]) (e + 1) true))) :
    ∃ K, salchowref19_Parse.l2 K s l a true = some (match itemS s a l.length with
      | .err c e => ([], c, (e : Int))
      | .ok code d r v e =>
        if e < s.size then (if bt s e = 43 then parseS fuel s (l ++ [⟨code, d, r, v, true⟩]) (e + 1) true
          else if bt s e = 32 then parseS fuel s (l ++ [⟨code, d, r, v, false⟩]) (e + 1) false else ([], 2, (e : Int)))
        else (l ++ [⟨code, d, r, v, false⟩], 0, 0)) := by
  obtain ⟨K1, h1⟩ := r_item hs a l.length ha
  have one : ∀ K, K1 ≤ K → salchowref19_Parse.l2 (K + 1) s l a true = (let bt188 := irT s (itemS s a l.length); if bt188.2.2.2.2.2.2.1 = 0 then (if l.length < 4398046511104 then (salchowref19_Parse.l2 K s (l ++ [(⟨bt188.1, bt188.2.1, bt188.2.2.1, bt188.2.2.2.1, bt188.2.2.2.2.1⟩ : S49)]) bt188.2.2.2.2.2.1 bt188.2.2.2.2.1) else (none)) else (some (([] : List (S49)), bt188.2.2.2.2.2.2.1, bt188.2.2.2.2.2.2.2))) := fun K hK => by
    rw [salchowref19_Parse.l2, if_pos rfl, up (f := fun k => salchowref19_item.f k s a l.length) (fun k => salchowref19_item.mono _ _ _ k) h1 hK, Option.bind_some]
  cases hI : itemS s a l.length with
  | err c e =>
    rw [hI] at one
    have hc := itemS_err hI
    refine ⟨K1 + 1, ?_⟩
    rw [one _ (Nat.le_refl _)]
    show (if c = 0 then _ else some (([] : List S49), c, (e : Int))) = _
    rw [if_neg (by omega)]
  | ok code d r v e =>
    rw [hI] at one
    obtain ⟨hae, hes, h30⟩ := itemS_ok ha hI
    have up2 : ∀ {l' : List S49} {i : Int} {j : Bool} {R K K'}, salchowref19_Parse.l2 K s l' i j = some R → K ≤ K' → salchowref19_Parse.l2 K' s l' i j = some R := fun {l' i j R K K'} h hle =>
      up (f := fun k => salchowref19_Parse.l2 k s l' i j) (fun k => (salchowref19_Parse.mono_l k).2.2.1 _ _ _ _) h hle
    have goJ : e < s.size ∧ bt s e = 43 → ∀ K, K1 ≤ K → salchowref19_Parse.l2 (K + 1) s l a true = salchowref19_Parse.l2 K s (l ++ [⟨code, d, r, v, true⟩]) ((e + 1 : Nat) : Int) true := fun hj K hK => by
      rw [one K hK]
      simp only [irT, if_pos hj]
      rw [if_pos trivial, if_pos (by omega)]
    have goN : ¬ (e < s.size ∧ bt s e = 43) → ∀ K, K1 ≤ K → salchowref19_Parse.l2 (K + 1) s l a true = salchowref19_Parse.l2 K s (l ++ [⟨code, d, r, v, false⟩]) (e : Int) false := fun hj K hK => by
      rw [one K hK]
      simp only [irT, if_neg hj]
      rw [if_pos trivial, if_pos (by omega)]
    show ∃ K, _ = some (if e < s.size then _ else _)
    by_cases lt : e < s.size
    · rw [if_pos lt]
      have IH := ih (by omega) e hae lt
      by_cases b43 : bt s e = 43
      · rw [if_pos b43]
        obtain ⟨K2, h2⟩ := (IH ⟨code, d, r, v, true⟩).2
        exact ⟨max K1 K2 + 1, by rw [goJ ⟨lt, b43⟩ _ (by omega)]; exact up2 h2 (by omega)⟩
      · rw [if_neg b43]
        by_cases b32 : bt s e = 32
        · rw [if_pos b32]
          obtain ⟨K2, h2⟩ := (IH ⟨code, d, r, v, false⟩).1
          obtain ⟨K3, rfl⟩ : ∃ K3, K2 = K3 + 1 := by
            cases K2 with
            | zero => simp [salchowref19_Parse.l0] at h2
            | succ n => exact ⟨n, rfl⟩
          rw [salchowref19_Parse.l0] at h2
          have h3 : salchowref19_Parse.l2 (K3 + 3) s (l ++ [⟨code, d, r, v, false⟩]) (e : Int) false = some (parseS fuel s (l ++ [⟨code, d, r, v, false⟩]) (e + 1) false) := by
            rw [salchowref19_Parse.l2, if_neg (by decide), if_pos (by omega), if_pos (by omega), if_pos b32, salchowref19_Parse.l0, salchowref19_Parse.l1, if_pos (by omega), if_pos (by omega), if_pos b32, wS e (by omega)]
            exact h2
          exact ⟨max K1 (K3 + 3) + 1, by rw [goN (fun h => b43 h.2) _ (by omega)]; exact up2 h3 (by omega)⟩
        · rw [if_neg b32]
          have h3 : salchowref19_Parse.l2 1 s (l ++ [⟨code, d, r, v, false⟩]) (e : Int) false = some ([], 2, (e : Int)) := by
            rw [salchowref19_Parse.l2, if_neg (by decide), if_pos (by omega), if_pos (by omega), if_neg b32]
          exact ⟨max K1 1 + 1, by rw [goN (fun h => b43 h.2) _ (by omega)]; exact up2 h3 (by omega)⟩
    · rw [if_neg lt]
      have h3 : salchowref19_Parse.l2 4 s (l ++ [⟨code, d, r, v, false⟩]) (e : Int) false = some (l ++ [⟨code, d, r, v, false⟩], 0, 0) := by
        rw [salchowref19_Parse.l2, if_neg (by decide), if_neg (by omega), salchowref19_Parse.l0, salchowref19_Parse.l1, if_neg (by omega), salchowref19_Parse.j2, if_pos (by omega)]
      exact ⟨max K1 4 + 1, by rw [goN (fun h => lt h.1) _ (by omega)]; exact up2 h3 (by omega)⟩
theorem r_main : ∀ fuel i (l : List S49), s.size - i < fuel → i ≤ s.size → l.length ≤ 30 → (∃ K, salchowref19_Parse.l0 K s l i = some (parseS fuel s l i false)) ∧ (∃ K, salchowref19_Parse.l2 K s l i true = some (parseS fuel s l i true)) := by
  intro fuel
  induction fuel with
  | zero => intro i l h; omega
  | succ fuel IH =>
    intro i l h hi hl
    have hsk := skipB_bd s _ i rfl hi
    have ih : ∀ a, i ≤ a → l.length ≤ 29 → ∀ e, a < e → e < s.size → ∀ x, (∃ K, salchowref19_Parse.l0 K s (l ++ [x]) ((e + 1 : Nat) : Int) = some (parseS fuel s (l ++ [x]) (e + 1) false)) ∧ (∃ K, salchowref19_Parse.l2 K s (l ++ [x]) ((e + 1 : Nat) : Int) true = some (parseS fuel s (l ++ [x]) (e + 1) true)) := fun a ha hl e h1 h2 x =>
      IH (e + 1) (l ++ [x]) (by omega) (by omega) (by rw [List.length_append]; simp; omega)
    unfold parseS
    constructor
    · have tw : ∀ R K, salchowref19_Parse.j2 K s l (skipB s i : Nat) = some R → ∃ K, salchowref19_Parse.l0 K s l i = some R := fun R K hK => by
        obtain ⟨K1, h1⟩ := r_top hs l R _ i rfl hi K hK
        exact ⟨K1 + 1, by rw [salchowref19_Parse.l0]; exact h1⟩
      by_cases e : skipB s i = s.size
      · rw [if_pos ⟨rfl, e⟩]
        exact tw _ 1 (by rw [salchowref19_Parse.j2, if_pos (by omega)])
      · rw [if_neg (fun h => e h.2), if_neg (by decide)]
        obtain ⟨K, hK⟩ := r_step hs l (skipB s i) hsk.2.1 hl fuel (ih _ hsk.1)
        exact tw _ (K + 1) (by rw [salchowref19_Parse.j2, if_neg (by omega)]; exact hK)
    · rw [if_neg (by simp), if_pos rfl]
      exact r_step hs l i hi hl fuel (ih i (Nat.le_refl _))
theorem refparse_is : ∃ K, salchowref19_Parse.f K s = some (parseS (s.size + 1) s [] 0 false) := (r_main hs (s.size + 1) 0 [] (by omega) (by omega) (by simp)).1
end
/-- A list is the same as itself. -/
theorem same_self (l : List S49) (hl : l.length ≤ 1000) : ∃ K, salchowref19_Same.f K l l = some true := by
  have key : ∀ n i, l.length - i = n → i ≤ l.length → ∃ K, salchowref19_Same.l0 K l l i = some true := by
    intro n
    induction n with
    | zero => intro i h hi; exact ⟨1, by rw [salchowref19_Same.l0, if_neg (by omega)]⟩
    | succ n ih =>
      intro i h hi
      obtain ⟨K, hK⟩ := ih (i + 1) (by omega) (by omega)
      refine ⟨K + 1, ?_⟩
      rw [salchowref19_Same.l0, if_pos (by omega), if_pos (by omega), if_pos (by omega), if_neg (by simp), wS i (by omega)]
      exact hK
  obtain ⟨K, hK⟩ := key _ 0 rfl (by omega)
  exact ⟨K, by rw [salchowref19_Same.f, if_pos rfl]; exact hK⟩
theorem parseS_len (s : ByteArray) : ∀ fuel i j (l : List S49), i ≤ s.size → l.length ≤ 30 → (parseS fuel s l i j).1.length ≤ 30 := by
  intro fuel
  induction fuel with
  | zero => intro i j l _ _; simp [parseS]
  | succ fuel ih =>
    intro i j l hi hl
    unfold parseS
    split
    · exact hl
    · have ha : (if j = true then i else skipB s i) ≤ s.size := by split; exact hi; exact (skipB_bd s _ i rfl hi).2.1
      cases hI : itemS s (if j = true then i else skipB s i) l.length with
      | err c e => simp
      | ok code d r v e =>
        obtain ⟨_, _, h30⟩ := itemS_ok ha hI
        have h1 : ∀ x : S49, (l ++ [x]).length ≤ 30 := fun x => by rw [List.length_append]; simp; omega
        show (if e < s.size then _ else _ : List S49 × Int × Int).1.length ≤ 30
        split
        · split
          · exact ih _ _ _ (by omega) (h1 _)
          · split
            · exact ih _ _ _ (by omega) (h1 _)
            · simp
        · exact h1 _
end Go.Proofs.Ythaglbgembfpeaa
