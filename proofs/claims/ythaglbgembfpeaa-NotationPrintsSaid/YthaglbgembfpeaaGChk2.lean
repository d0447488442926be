/- The plain law of the reference's Print: outTo; of small; and what Check lets through. No Go in it. -/
import Derived.Test.YthaglbgembfpeaaGChk
import Derived.Test.YthaglbgembfpeaaP7
namespace Go.Proofs.Ythaglbgembfpeaa
open Go.RowKit Go.Proofs.Ythaglbgembfpeaa.P Go.Proofs.YthaglbgembfpeaaW.PrintWords Go.Proofs.YthaglbgembfpeaaW.PrintLast

def ofL (L : List UInt8) : ByteArray := ⟨L.toArray⟩
theorem ofL_size (L : List UInt8) : (ofL L).size = L.length := by show L.toArray.size = _; simp
theorem ofL_append (L M : List UInt8) : ofL L ++ ofL M = ofL (L ++ M) := by
  apply ByteArray.ext
  show (ofL L ++ ofL M).data = _
  rw [ByteArray.data_append]
  show L.toArray ++ M.toArray = (L ++ M).toArray
  simp
theorem ofL_self (s : ByteArray) : ofL s.data.toList = s := by
  apply ByteArray.ext; show s.data.toList.toArray = s.data; simp
theorem okItem_of {l : List S49} (h : checkS l = 0) : l.length ≤ 30 ∧ ∀ j : Nat, j < l.length → okItem (rd_T49 l j) := by
  have h0 : shapesS l = 0 := by
    unfold checkS at h
    split at h
    · assumption
    · exact h
  unfold shapesS at h0
  split at h0
  · cases h0
  · rename_i hl
    split at h0
    · rename_i hc
      split at h0
      · rename_i hd
        refine ⟨by omega, fun j hj => ?_⟩
        have hm := rd_mem l j hj
        have c := List.all_eq_true.1 hc _ hm
        have d := of_decide_eq_true (List.all_eq_true.1 hd _ hm)
        exact ⟨c, d.1, d.2⟩
      · cases h0
    · cases h0

section
variable {l : List S49} (hl : l.length ≤ 30) (hok : ∀ j : Nat, j < l.length → okItem (rd_T49 l j))
include hl hok
theorem rprint_l : ∀ n i, l.length - i = n → i ≤ l.length → ∃ K, salchowref19_Print.l0 K l (ofL (outTo l i)) i = some (ofL (outTo l l.length)) := by
  intro n
  induction n with
  | zero =>
    intro i h hi
    obtain rfl : i = l.length := by omega
    exact ⟨1, by rw [salchowref19_Print.l0, if_neg (by omega)]⟩
  | succ n ih =>
    intro i h hi
    have lt : i < l.length := by omega
    obtain ⟨K, hK⟩ := ih (i + 1) (by omega) (by omega)
    obtain ⟨x, hx⟩ : ∃ x, x = rd_T49 l i := ⟨_, rfl⟩
    have hxo : okItem x := by rw [hx]; exact hok i lt
    have hcs := codeB_size hxo.1
    have hlen := outTo_len hok i (by omega)
    have hsp : (sepU l i).length ≤ 1 := by unfold sepU; split <;> simp
    obtain ⟨o, ho⟩ : ∃ o, o = outTo l i := ⟨_, rfl⟩
    rw [← ho] at hlen ⊢
    -- the text behind the item's flags
    have j4 : ∀ Y : List UInt8, Y.length ≤ 5000 → Y ++ (if x.f3 = true then [42] else []) ++ (if x.f4 = true then [43] else []) = outTo l (i + 1) → salchowref19_Print.j4 (K + 1) l (ofL Y) i x.f0 x.f1 x.f2 x.f3 x.f4 = some (ofL (outTo l l.length)) := fun Y hY e => by
      rw [salchowref19_Print.j4, wS i (by omega)]
      have a42 : (⟨#[42]⟩ : ByteArray) = ofL [42] := rfl
      have a43 : (⟨#[43]⟩ : ByteArray) = ofL [43] := rfl
      cases h3 : x.f3 <;> cases h4 : x.f4 <;> rw [h3, h4] at e
      · rw [if_neg (by decide), if_neg (by decide)]
        simp at e; rw [e]; exact hK
      · rw [if_neg (by decide), if_pos rfl, if_pos (by rw [ofL_size]; omega), a43, ofL_append]
        simp at e; rw [e]; exact hK
      · rw [if_pos rfl, if_pos (by rw [ofL_size]; omega), if_neg (by decide), a42, ofL_append]
        simp at e; rw [e]; exact hK
      · rw [if_pos rfl, if_pos (by rw [ofL_size]; omega), if_pos rfl, a42, ofL_append, if_pos (by rw [ofL_size, List.length_append]; simp; omega), a43, ofL_append]
        simp at e; rw [List.append_assoc]; simp; rw [e]; exact hK
    have l1 : ∀ m c, x.f1 = (c : Int) + (m : Nat) → ∀ Y : List UInt8, Y.length + m ≤ 4000 → Y ++ List.replicate m 60 ++ (if x.f2 = true then [63] else []) ++ (if x.f3 = true then [42] else []) ++ (if x.f4 = true then [43] else []) = outTo l (i + 1) →
        ∀ c', c' = c → 0 ≤ c → salchowref19_Print.l1 (K + 2 + m) l (ofL Y) i c' x.f0 x.f1 x.f2 x.f3 x.f4 = some (ofL (outTo l l.length)) := by
      intro m
      induction m with
      | zero =>
        rintro c hc Y hY e c' rfl h0
        rw [salchowref19_Print.l1, if_neg (by omega)]
        have a63 : (⟨#[63]⟩ : ByteArray) = ofL [63] := rfl
        cases h2 : x.f2 <;> rw [h2] at e
        · rw [if_neg (by decide)]
          rw [← h2]
          exact j4 Y (by omega) (by simpa using e)
        · rw [if_pos rfl, if_pos (by rw [ofL_size]; omega), a63, ofL_append]
          rw [← h2]
          exact j4 (Y ++ [63]) (by rw [List.length_append]; simp; omega) (by simpa using e)
      | succ m ihm =>
        rintro c hc Y hY e c' rfl h0
        have a60 : (⟨#[60]⟩ : ByteArray) = ofL [60] := rfl
        have h9 := hxo.2
        rw [show K + 2 + (m + 1) = (K + 2 + m) + 1 by omega, salchowref19_Print.l1, if_pos (by omega), if_pos (by rw [ofL_size]; omega), a60, ofL_append, wD c' h0 (by omega)]
        exact ihm (c' + 1) (by omega) (Y ++ [60]) (by rw [List.length_append]; simp; omega) (by rw [← e, List.replicate_succ]; simp) _ rfl (by omega)
    have h9 := hxo.2
    have j2 : ∀ Y : List UInt8, Y.length ≤ 3000 → Y ++ itemU x = outTo l (i + 1) → salchowref19_Print.j2 (K + 2 + x.f1.toNat + 1) l (ofL Y) i x.f0 x.f1 x.f2 x.f3 x.f4 = some (ofL (outTo l l.length)) := fun Y hY e => by
      rw [salchowref19_Print.j2, if_pos (by rw [ofL_size]; omega)]
      have := l1 x.f1.toNat 0 (by omega) (Y ++ x.f0.data.toList) (by rw [List.length_append, Array.length_toList]; show Y.length + x.f0.size + _ ≤ _; omega) (by rw [← e, itemU]; simp) 0 rfl (by omega)
      rw [← ofL_append, ofL_self] at this
      exact this
    have e1 : o ++ sepU l i ++ itemU x = outTo l (i + 1) := by rw [ho, hx]; rfl
    have j1 : ∀ b, sepU l i = (if b = true then [32] else []) → salchowref19_Print.j1 (K + 2 + x.f1.toNat + 2) l (ofL o) i b x.f0 x.f1 x.f2 x.f3 x.f4 = some (ofL (outTo l l.length)) := fun b hb => by
      have a32 : (⟨#[32]⟩ : ByteArray) = ofL [32] := rfl
      rw [salchowref19_Print.j1]
      rw [hb] at e1
      cases b with
      | false => rw [if_neg (by decide)]; exact j2 o (by omega) (by simpa using e1)
      | true => rw [if_pos rfl, if_pos (by rw [ofL_size]; omega), a32, ofL_append]; exact j2 (o ++ [32]) (by rw [List.length_append]; simp; omega) (by simpa using e1)
    refine ⟨K + 2 + x.f1.toNat + 3, ?_⟩
    rw [salchowref19_Print.l0, if_pos (by omega), if_pos (by omega), ← hx]
    by_cases hi0 : 0 < i
    · rw [if_pos (by omega), wP i hi0 (by omega), if_pos (by omega), if_pos (by omega)]
      refine j1 _ ?_
      unfold sepU
      cases hj : (rd_T49 l ((i : Int) - 1)).f4
      · rw [if_pos ⟨hi0, rfl⟩]; rfl
      · rw [if_neg (by simp)]; rfl
    · rw [if_neg (by omega)]
      refine j1 _ ?_
      unfold sepU
      rw [if_neg (fun h => hi0 h.1)]; rfl
theorem rprint_is : ∃ K, salchowref19_Print.f K l = some (ofL (outTo l l.length)) := rprint_l hl hok _ 0 rfl (by omega)
end
/-- What small says. -/
theorem small_is (l : List S49) : ∃ K b, salchowlaw19_small.f K l = some b ∧ (b = true → l.length ≤ 60 ∧ ∀ x ∈ l, x.f0.size ≤ 100) := by
  by_cases h60 : (l.length : Int) > 60
  · exact ⟨0, false, by rw [salchowlaw19_small.f, if_pos h60], fun h => by cases h⟩
  · have key : ∀ n i, l.length - i = n → i ≤ l.length → ∃ K b, salchowlaw19_small.l0 K l i = some b ∧ (b = true → ∀ x ∈ l.drop i, x.f0.size ≤ 100) := by
      intro n
      induction n with
      | zero => intro i h hi; exact ⟨1, true, by rw [salchowlaw19_small.l0, if_neg (by omega)], fun _ x hx => by rw [List.drop_of_length_le (by omega)] at hx; cases hx⟩
      | succ n ih =>
        intro i h hi
        have lt : i < l.length := by omega
        by_cases hc : ((rd_T49 l i).f0.size : Int) > 100
        · exact ⟨1, false, by rw [salchowlaw19_small.l0, if_pos (by omega), if_pos (by omega), if_pos hc], fun h => by cases h⟩
        · obtain ⟨K, b, h1, h2⟩ := ih (i + 1) (by omega) (by omega)
          refine ⟨K + 1, b, by rw [salchowlaw19_small.l0, if_pos (by omega), if_pos (by omega), if_neg hc, wS i (by omega)]; exact h1, fun hb x hx => ?_⟩
          rw [rd_drop l i lt] at hx
          rcases List.mem_cons.1 hx with rfl | hx
          · omega
          · exact h2 hb x hx
    obtain ⟨K, b, h1, h2⟩ := key _ 0 rfl (by omega)
    exact ⟨K, b, by rw [salchowlaw19_small.f, if_neg h60]; exact h1, fun hb => ⟨by omega, by have := h2 hb; rwa [List.drop_zero] at this⟩⟩
end Go.Proofs.Ythaglbgembfpeaa
