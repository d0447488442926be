/- What Parse returns is proper, and its canonical text is not longer than what was read. No Go in it. -/
import Derived.Test.YthaglbgembfpeaaGRound2
namespace Go.Proofs.Ythaglbgembfpeaa
open Go.RowKit Go.Proofs.Ythaglbgembfpeaa.P Go.Proofs.YthaglbgembfpeaaW.PrintWords Go.Proofs.YthaglbgembfpeaaW.PrintLast

theorem rd_left (l : List S49) (x : S49) {i : Nat} (h : i < l.length) : rd_T49 (l ++ [x]) i = rd_T49 l i := by
  rw [rd_T49, rd_T49, Int.toNat_natCast, List.getD_eq_getElem?_getD, List.getD_eq_getElem?_getD, List.getElem?_append_left h]
theorem rd_new (l : List S49) (x : S49) : rd_T49 (l ++ [x]) l.length = x := by
  rw [rd_T49, Int.toNat_natCast, List.getD_eq_getElem?_getD, List.getElem?_append_right (Nat.le_refl _), Nat.sub_self]; rfl
theorem outTo_left (l : List S49) (x : S49) : ∀ i, i ≤ l.length → outTo (l ++ [x]) i = outTo l i
  | 0, _ => rfl
  | i + 1, h => by
    simp only [outTo]
    rw [outTo_left l x i (by omega), rd_left l x (by omega)]
    congr 2
    unfold sepU
    rcases Nat.eq_zero_or_pos i with h0 | h0
    · rw [if_neg (by omega), if_neg (by omega)]
    · rw [show ((i : Int) - 1) = ((i - 1 : Nat) : Int) by omega, rd_left l x (by omega)]
def lenU (l : List S49) : Nat := (outTo l l.length).length
/-- l ends in a joined item. -/
def lastJ (l : List S49) : Bool := if 0 < l.length then (rd_T49 l ((l.length : Int) - 1)).f4 else false
theorem lastJ_snoc (l : List S49) (x : S49) : lastJ (l ++ [x]) = x.f4 := by
  unfold lastJ
  rw [if_pos (by simp), List.length_append, show (((l.length + [x].length : Nat) : Int) - 1) = (l.length : Int) by simp, rd_new]
theorem lenU_snoc (l : List S49) (x : S49) : lenU (l ++ [x]) = lenU l + (if 0 < l.length ∧ lastJ l = false then 1 else 0) + (itemU x).length := by
  unfold lenU
  rw [show (l ++ [x]).length = l.length + 1 by simp]
  simp only [outTo, List.length_append]
  rw [outTo_left l x _ (Nat.le_refl _), rd_new]
  congr 2
  unfold sepU lastJ
  rcases Nat.eq_zero_or_pos l.length with h0 | h0
  · rw [if_neg (by omega), if_neg (by omega)]; rfl
  · rw [show ((l.length : Int) - 1) = ((l.length - 1 : Nat) : Int) by omega, rd_left l x (by omega), if_pos h0]
    by_cases hj : (rd_T49 l ((l.length - 1 : Nat) : Int)).f4 = false
    · rw [if_pos ⟨h0, hj⟩, if_pos ⟨h0, hj⟩]; rfl
    · rw [if_neg (fun h => hj h.2), if_neg (fun h => hj h.2)]; rfl
theorem itemU_length (x : S49) : (itemU x).length = x.f0.size + x.f1.toNat + (if x.f2 = true then 1 else 0) + (if x.f3 = true then 1 else 0) + (if x.f4 = true then 1 else 0) := by
  have h3 : x.f0.data.toList.length = x.f0.size := by rw [Array.length_toList]; rfl
  simp only [itemU, List.length_append, List.length_replicate, h3]
  cases x.f2 <;> cases x.f3 <;> cases x.f4 <;> rfl
theorem tail_len (s : ByteArray) : ∀ n i d r v, s.size - i = n → i ≤ s.size → ∀ e d' r' v', tailS s i d r v = .stop e d' r' v' → (e : Int) + d + (if r = true then 1 else 0) + (if v = true then 1 else 0) = i + d' + (if r' = true then 1 else 0) + (if v' = true then 1 else 0) := by
  intro n
  induction n with
  | zero => intro i d r v h hi e d' r' v' ht; rw [tailS, dif_neg (by omega)] at ht; injection ht with h1 h2 h3 h4; subst h1 h2 h3 h4; rfl
  | succ n ih =>
    intro i d r v h hi e d' r' v' ht
    rw [tailS, dif_pos (by omega)] at ht
    split at ht
    · split at ht
      · cases ht
      · have := ih _ _ _ _ (by omega) (by omega) _ _ _ _ ht; omega
    · split at ht
      · split at ht
        · cases ht
        · rename_i hr
          have := ih _ _ _ _ (by omega) (by omega) _ _ _ _ ht
          have hr' : r = false := by simpa using hr
          subst hr'
          simp at this ⊢; omega
      · split at ht
        · split at ht
          · cases ht
          · rename_i hv
            have := ih _ _ _ _ (by omega) (by omega) _ _ _ _ ht
            have hv' : v = false := by simpa using hv
            subst hv'
            simp at this ⊢; omega
        · injection ht with h1 h2 h3 h4; subst h1 h2 h3 h4; rfl
theorem item_good {s : ByteArray} {a b e : Nat} {code : ByteArray} {d : Int} {r v : Bool} (ha : a ≤ s.size) (h : itemS s a b = .ok code d r v e) :
    codeB code = true ∧ 0 ≤ d ∧ d ≤ 9 ∧ (e : Int) = a + code.size + d + (if r = true then 1 else 0) + (if v = true then 1 else 0) := by
  unfold itemS at h
  split at h
  · cases h
  · split at h
    · cases h
    · split at h
      · rename_i hc
        have hbd := endL_bd s _ a rfl ha
        have hd := tailS_bd s _ (endL s a) 0 false false rfl hbd.2.1 (by omega) (by omega)
        split at h
        · cases h
        · rename_i heq
          have hl := tail_len s _ (endL s a) 0 false false rfl hbd.2.1 _ _ _ _ heq
          injection h with h1 h2 h3 h4 h5
          subst h1 h2 h3 h4 h5
          rw [heq] at hd
          refine ⟨hc, hd.2.2.1, hd.2.2.2.1, ?_⟩
          rw [ByteArray.size_extract]
          simp at hl
          omega
      · cases h
theorem parse_good {s : ByteArray} : ∀ fuel i j (l0 l : List S49) c e, s.size - i < fuel → i ≤ s.size → l0.length ≤ 30 → (∀ q : Nat, q < l0.length → okItem (rd_T49 l0 q)) → lastJ l0 = j → lenU l0 + (if 0 < l0.length ∧ lastJ l0 = false then 1 else 0) ≤ i ∨ (i = s.size ∧ lenU l0 ≤ i ∧ lastJ l0 = false) →
    parseS fuel s l0 i j = (l, c, e) → c = 0 → e = 0 ∧ l.length ≤ 30 ∧ (∀ q : Nat, q < l.length → okItem (rd_T49 l q)) ∧ lastJ l = false ∧ lenU l ≤ s.size := by
  intro fuel
  induction fuel with
  | zero => intro i j l0 l c e h; omega
  | succ fuel ih =>
    intro i j l0 l c e hf hi hl hok hj hlen hp hc
    have hle : lenU l0 ≤ i := by rcases hlen with h | h <;> omega
    unfold parseS at hp
    by_cases htop : j = false ∧ skipB s i = s.size
    · rw [if_pos htop] at hp
      injection hp with h1 h2
      injection h2 with h2 h3
      subst h1 h3
      exact ⟨rfl, hl, hok, by rw [hj]; exact htop.1, by omega⟩
    · rw [if_neg htop] at hp
      have hsk := skipB_bd s _ i rfl hi
      obtain ⟨a, ha⟩ : ∃ a, a = (if j = true then i else skipB s i) := ⟨_, rfl⟩
      have hia : i ≤ a := by rw [ha]; split; exact Nat.le_refl _; exact hsk.1
      have has : a ≤ s.size := by rw [ha]; split; exact hi; exact hsk.2.1
      rw [← ha] at hp
      cases hI : itemS s a l0.length with
      | err c' e' =>
        rw [hI] at hp
        injection hp with h1 h2
        injection h2 with h2 h3
        have := itemS_err hI
        omega
      | ok code d r v e' =>
        rw [hI] at hp
        obtain ⟨g1, g2, g3, g4⟩ := item_good has hI
        obtain ⟨hae, hes, h30⟩ := itemS_ok has hI
        have hlt0 : lenU l0 + (if 0 < l0.length ∧ lastJ l0 = false then 1 else 0) ≤ i := by
          rcases hlen with h | h
          · exact h
          · omega
        have new : ∀ b, (l0 ++ [(⟨code, d, r, v, b⟩ : S49)]).length ≤ 30 ∧ (∀ q : Nat, q < (l0 ++ [(⟨code, d, r, v, b⟩ : S49)]).length → okItem (rd_T49 (l0 ++ [(⟨code, d, r, v, b⟩ : S49)]) q)) ∧ lastJ (l0 ++ [(⟨code, d, r, v, b⟩ : S49)]) = b ∧ lenU (l0 ++ [(⟨code, d, r, v, b⟩ : S49)]) ≤ e' + (if b = true then 1 else 0) := fun b => by
          refine ⟨by rw [List.length_append]; simp; omega, fun q hq => ?_, lastJ_snoc _ _, ?_⟩
          · rw [List.length_append] at hq
            simp at hq
            by_cases e1 : q = l0.length
            · rw [e1, rd_new]; exact ⟨g1, g2, g3⟩
            · rw [rd_left _ _ (by omega)]; exact hok q (by omega)
          · rw [lenU_snoc, itemU_length]
            show _ + _ + (code.size + d.toNat + (if r = true then 1 else 0) + (if v = true then 1 else 0) + (if b = true then 1 else 0)) ≤ _
            cases r <;> cases v <;> cases b <;> simp at g4 ⊢ <;> omega
        have hp' : (if e' < s.size then (if bt s e' = 43 then parseS fuel s (l0 ++ [⟨code, d, r, v, true⟩]) (e' + 1) true else if bt s e' = 32 then parseS fuel s (l0 ++ [⟨code, d, r, v, false⟩]) (e' + 1) false else ([], 2, (e' : Int))) else (l0 ++ [⟨code, d, r, v, false⟩], 0, 0)) = (l, c, e) := hp
        by_cases lt : e' < s.size
        · rw [if_pos lt] at hp'
          by_cases b43 : bt s e' = 43
          · rw [if_pos b43] at hp'
            obtain ⟨n1, n2, n3, n4⟩ := new true
            exact ih (e' + 1) true _ l c e (by omega) (by omega) n1 n2 n3 (.inl (by rw [if_neg (fun h => by rw [n3] at h; cases h.2)]; simpa using n4)) hp' hc
          · rw [if_neg b43] at hp'
            by_cases b32 : bt s e' = 32
            · rw [if_pos b32] at hp'
              obtain ⟨n1, n2, n3, n4⟩ := new false
              exact ih (e' + 1) false _ l c e (by omega) (by omega) n1 n2 n3 (.inl (by have : lenU (l0 ++ [(⟨code, d, r, v, false⟩ : S49)]) ≤ e' := by simpa using n4
                                                                                       split <;> omega)) hp' hc
            · rw [if_neg b32] at hp'
              injection hp' with h1 h2
              injection h2 with h2 h3
              omega
        · rw [if_neg lt] at hp'
          obtain ⟨n1, n2, n3, n4⟩ := new false
          injection hp' with h1 h2
          injection h2 with h2 h3
          subst h1 h3
          exact ⟨rfl, n1, n2, n3, by have : lenU (l0 ++ [(⟨code, d, r, v, false⟩ : S49)]) ≤ e' := by simpa using n4
                                     omega⟩
/-- What is proper passes Check. -/
theorem check_of {l : List S49} (hl : l.length ≤ 30) (hok : ∀ q : Nat, q < l.length → okItem (rd_T49 l q)) (hj : lastJ l = false) : checkS l = 0 := by
  have all : ∀ x ∈ l, okItem x := fun x hx => by
    obtain ⟨q, hq, rfl⟩ := List.getElem_of_mem hx
    have := hok q hq
    rwa [rd_T49, Int.toNat_natCast, List.getD_eq_getElem?_getD, List.getElem?_eq_getElem hq] at this
  have hs : shapesS l = 0 := by
    unfold shapesS
    rw [if_neg (by omega), if_pos (show codesOk l = true from List.all_eq_true.2 fun x hx => (all x hx).1), if_pos (show l.all downB = true from List.all_eq_true.2 fun x hx => decide_eq_true (all x hx).2)]
  unfold checkS
  rw [if_pos hs]
  by_cases h0 : l.length > 0
  · rw [if_pos h0]
    unfold lastJ at hj
    rw [if_pos h0] at hj
    rw [hj]; rfl
  · rw [if_neg h0]
end Go.Proofs.Ythaglbgembfpeaa
