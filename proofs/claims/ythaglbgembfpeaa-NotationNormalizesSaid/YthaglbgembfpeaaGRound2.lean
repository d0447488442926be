/- Parse of the canonical text gives the items. No Go in it. -/
import Derived.Test.YthaglbgembfpeaaGRound
namespace Go.Proofs.Ythaglbgembfpeaa
open Go.RowKit Go.Proofs.Ythaglbgembfpeaa.P Go.Proofs.YthaglbgembfpeaaW.PrintWords Go.Proofs.YthaglbgembfpeaaW.PrintLast

section
variable {l : List S49}
theorem outTo_more : ∀ m i, i ≤ m → ∃ T, outTo l m = outTo l i ++ T
  | 0, i, h => ⟨[], by obtain rfl : i = 0 := by omega
                       simp⟩
  | m + 1, i, h => by
    by_cases e : i = m + 1
    · exact ⟨[], by rw [e]; simp⟩
    · obtain ⟨T, hT⟩ := outTo_more m i (by omega)
      exact ⟨T ++ sepU l m ++ itemU (rd_T49 l m), by simp only [outTo]; rw [hT]; simp [List.append_assoc]⟩
/-- The text from item i on. -/
def fromU (l : List S49) (i : Nat) : List UInt8 := (outTo l l.length).drop (outTo l i).length
theorem fromU_step {i : Nat} (h : i < l.length) : fromU l i = sepU l i ++ (itemU (rd_T49 l i) ++ fromU l (i + 1)) := by
  obtain ⟨T, hT⟩ := outTo_more (l := l) l.length (i + 1) (by omega)
  have e1 : fromU l (i + 1) = T := by unfold fromU; rw [hT, List.drop_left]
  rw [e1]
  unfold fromU
  rw [hT]
  simp only [outTo]
  rw [List.append_assoc, List.append_assoc, List.drop_left]
theorem fromU_end : fromU l l.length = [] := by unfold fromU; rw [List.drop_of_length_le (Nat.le_refl _)]
theorem take_snoc {i : Nat} (h : i < l.length) : l.take i ++ [rd_T49 l i] = l.take (i + 1) := by
  rw [List.take_succ_eq_append_getElem h]
  congr 2
  rw [rd_T49, Int.toNat_natCast, List.getD_eq_getElem?_getD, List.getElem?_eq_getElem h]
  rfl
variable (hl : l.length ≤ 30) (hok : ∀ j : Nat, j < l.length → okItem (rd_T49 l j)) (hlast : l.length > 0 → (rd_T49 l ((l.length : Int) - 1)).f4 = false)
include hl hok hlast
theorem round_from : ∀ n i, l.length - i = n → i < l.length → ∀ fuel j, (ofL (outTo l l.length)).size - ((outTo l i).length + (sepU l i).length) < fuel → parseS fuel (ofL (outTo l l.length)) (l.take i) ((outTo l i).length + (sepU l i).length) j = (l, 0, 0) := by
  intro n
  induction n with
  | zero => intro i h hi; omega
  | succ n ih =>
    intro i h hi fuel j hf
    obtain ⟨S, hS⟩ : ∃ S, S = ofL (outTo l l.length) := ⟨_, rfl⟩
    obtain ⟨x, hx⟩ : ∃ x, x = rd_T49 l i := ⟨_, rfl⟩
    obtain ⟨a, ha⟩ : ∃ a, a = (outTo l i).length + (sepU l i).length := ⟨_, rfl⟩
    rw [← ha, ← hS] at hf ⊢
    have hSz : S.size = (outTo l l.length).length := by rw [hS, ofL_size]
    have hxo : okItem x := by rw [hx]; exact hok i hi
    have hcs := codeB_size hxo.1
    -- where the item stands
    have hat0 : HasAt S (outTo l i).length (fromU l i) := by
      refine ⟨?_, by rw [hS]; rfl⟩
      obtain ⟨T, hT⟩ := outTo_more (l := l) l.length i (by omega)
      rw [hSz, hT, List.length_append]; omega
    have hat : HasAt S a (itemU x ++ fromU l (i + 1)) := by
      rw [fromU_step hi, ← hx] at hat0
      rw [ha]; exact HasAt.skip _ hat0
    obtain ⟨C, hC⟩ : ∃ C, C = x.f0.data.toList := ⟨_, rfl⟩
    have hCl : C.length = x.f0.size := by rw [hC, Array.length_toList]; rfl
    obtain ⟨J, hJ⟩ : ∃ J, J = (if x.f4 = true then [43] else []) ++ fromU l (i + 1) := ⟨_, rfl⟩
    obtain ⟨d, hd⟩ : ∃ d : Nat, x.f1 = d := Int.eq_ofNat_of_zero_le hxo.2.1
    have eI : itemU x ++ fromU l (i + 1) = C ++ (List.replicate d 60 ++ ((if x.f2 = true then [63] else []) ++ ((if x.f3 = true then [42] else []) ++ J))) := by
      rw [itemU, hJ, hC, hd]; simp [List.append_assoc]
    rw [eI] at hat
    have hjoin : x.f4 = true → i + 1 < l.length := fun h4 => by
      rcases Nat.lt_or_ge (i + 1) l.length with h1 | h1
      · exact h1
      · have := hlast (by omega)
        rw [show ((l.length : Int) - 1) = (i : Int) by omega, ← hx, h4] at this
        cases this
    -- what stands behind the item
    have hJ0 : (x.f4 = true ∧ ∃ M, J = 43 :: M) ∨ (x.f4 = false ∧ i + 1 < l.length ∧ ∃ M, J = 32 :: M) ∨ (x.f4 = false ∧ i + 1 = l.length ∧ J = []) := by
      cases h4 : x.f4 with
      | true => exact .inl ⟨rfl, fromU l (i + 1), by rw [hJ, h4]; rfl⟩
      | false =>
        rcases Nat.lt_or_ge (i + 1) l.length with h1 | h1
        · refine .inr (.inl ⟨rfl, h1, itemU (rd_T49 l ((i + 1 : Nat) : Int)) ++ fromU l (i + 1 + 1), ?_⟩)
          rw [hJ, h4, fromU_step h1]
          have : sepU l (i + 1) = [32] := by
            unfold sepU
            rw [if_pos ⟨by omega, by rw [show (((i + 1 : Nat) : Int) - 1) = (i : Int) by omega, ← hx]; exact h4⟩]
          rw [this]; rfl
        · obtain e : i + 1 = l.length := by omega
          refine .inr (.inr ⟨rfl, e, ?_⟩)
          rw [hJ, h4, e, fromU_end]; rfl
    have hends : ∀ q : Int → Prop, q 43 → q 32 → Ends q J := fun q h43 h32 b M' e => by
      rcases hJ0 with ⟨_, M, h⟩ | ⟨_, _, M, h⟩ | ⟨_, _, h⟩ <;> rw [h] at e
      · injection e with e _; rw [← e]; exact h43
      · injection e with e _; rw [← e]; exact h32
      · cases e
    have hE1 : Ends (fun b => letB b = false) (List.replicate d 60 ++ ((if x.f2 = true then [63] else []) ++ ((if x.f3 = true then [42] else []) ++ J))) := fun b M' e => by
      cases d with
      | succ d => rw [List.replicate_succ] at e; injection e with e _; rw [← e]; decide
      | zero =>
        cases h2 : x.f2 with
        | true => rw [h2] at e; simp at e; rw [← e.1]; decide
        | false =>
          cases h3 : x.f3 with
          | true => rw [h2, h3] at e; simp at e; rw [← e.1]; decide
          | false => rw [h2, h3] at e; simp at e; exact hends (fun b => letB b = false) (by decide) (by decide) b M' e
    have hlet : ∀ c ∈ C, letB c.toNat = true := by rw [hC]; exact code_letters hxo.1
    have hend := end_of hE1 C a hlet hat
    have hat2 := HasAt.skip C hat
    have htail := tail_of (hends (fun b => b ≠ 60 ∧ b ≠ 63 ∧ b ≠ 42) (by decide) (by decide)) x.f2 x.f3 d (a + C.length) 0 (by omega) (by have := hxo.2; omega) hat2
    have hext := extract_of hat
    have hcode : ofL C = x.f0 := by rw [hC]; exact ofL_self _
    obtain ⟨e, he⟩ : ∃ e, e = a + C.length + d + (if x.f2 = true then 1 else 0) + (if x.f3 = true then 1 else 0) := ⟨_, rfl⟩
    have hatJ : HasAt S e J := by
      have h1 := HasAt.skip _ hat2
      have h2 := HasAt.skip _ h1
      have h3 := HasAt.skip _ h2
      have : a + C.length + (List.replicate d (60 : UInt8)).length + (if x.f2 = true then [(63 : UInt8)] else []).length + (if x.f3 = true then [(42 : UInt8)] else []).length = e := by
        rw [he, List.length_replicate]; cases x.f2 <;> cases x.f3 <;> rfl
      rwa [this] at h3
    have hti : (l.take i).length = i := by rw [List.length_take]; omega
    have hit : itemS S a (l.take i).length = .ok x.f0 (d : Int) x.f2 x.f3 e := by
      unfold itemS
      rw [hend, if_neg (by omega), hti, if_neg (by omega), hext, hcode, if_pos hxo.1, htail, ← he]
      simp
    have hxx : ∀ b, x.f4 = b → (⟨x.f0, (d : Int), x.f2, x.f3, b⟩ : S49) = x := fun b h => by rw [← h, ← hd]
    have hsk : skipB S a = a := by
      rw [skipB]
      split
      · cases hCC : C with
        | nil => rw [hCC] at hCl; simp at hCl; omega
        | cons c C' =>
          rw [hCC] at hat hlet
          have hb := (HasAt.cons hat).2.1
          have := hlet c (by simp)
          rw [if_neg (fun h => by rw [← hb, h] at this; revert this; decide)]
      · rfl
    have hlt : a < S.size := by
      cases hCC : C with
      | nil => rw [hCC] at hCl; simp at hCl; omega
      | cons c C' => rw [hCC] at hat; exact (HasAt.cons hat).1
    obtain ⟨fuel, rfl⟩ : ∃ f, fuel = f + 1 := ⟨fuel - 1, by omega⟩
    unfold parseS
    rw [hsk, if_neg (fun h => by omega), show (if j = true then a else a) = a by split <;> rfl, hit]
    show (if e < S.size then (if bt S e = 43 then parseS fuel S (l.take i ++ [⟨x.f0, (d : Int), x.f2, x.f3, true⟩]) (e + 1) true else if bt S e = 32 then parseS fuel S (l.take i ++ [⟨x.f0, (d : Int), x.f2, x.f3, false⟩]) (e + 1) false else ([], 2, (e : Int))) else (l.take i ++ [⟨x.f0, (d : Int), x.f2, x.f3, false⟩], 0, 0)) = _
    have hae : a < e := by omega
    have hpos : e + (if x.f4 = true then 1 else 0) = (outTo l (i + 1)).length := by
      simp only [outTo, List.length_append]
      rw [← hx, he, ha, itemU]
      simp only [List.length_append, List.length_replicate, hd, Int.toNat_natCast, ← hC]
      cases x.f2 <;> cases x.f3 <;> cases x.f4 <;> simp <;> omega
    rcases hJ0 with ⟨h4, M, hM⟩ | ⟨h4, h1, M, hM⟩ | ⟨h4, h1, hM⟩
    · rw [hM] at hatJ
      obtain ⟨lt, hb, _⟩ := HasAt.cons hatJ
      have h1 := hjoin h4
      rw [if_pos lt, if_pos (by rw [hb]; rfl), hxx true h4, hx, take_snoc hi]
      have hsep : sepU l (i + 1) = [] := by
        unfold sepU
        rw [if_neg (fun h => by have := h.2; rw [show (((i + 1 : Nat) : Int) - 1) = (i : Int) by omega, ← hx, h4] at this; cases this)]
      have := ih (i + 1) (by omega) h1 fuel true (by rw [← hS, hsep, ← hpos, h4]; simp; omega)
      rw [← hS, hsep, ← hpos, h4] at this
      simpa using this
    · rw [hM] at hatJ
      obtain ⟨lt, hb, _⟩ := HasAt.cons hatJ
      rw [if_pos lt, if_neg (by rw [hb]; decide), if_pos (by rw [hb]; rfl), hxx false h4, hx, take_snoc hi]
      have hsep : sepU l (i + 1) = [32] := by
        unfold sepU
        rw [if_pos ⟨by omega, by rw [show (((i + 1 : Nat) : Int) - 1) = (i : Int) by omega, ← hx]; exact h4⟩]
      have := ih (i + 1) (by omega) h1 fuel false (by rw [← hS, hsep, ← hpos, h4]; simp; omega)
      rw [← hS, hsep, ← hpos, h4] at this
      simpa using this
    · rw [hM] at hatJ
      have := HasAt.nil hatJ
      rw [if_neg (by omega), hxx false h4, hx, take_snoc hi, h1, List.take_of_length_le (Nat.le_refl _)]
theorem round_trip : parseS ((ofL (outTo l l.length)).size + 1) (ofL (outTo l l.length)) [] 0 false = (l, 0, 0) := by
  rcases Nat.eq_zero_or_pos l.length with h0 | h0
  · obtain rfl : l = [] := List.eq_nil_of_length_eq_zero h0
    unfold parseS
    have : skipB (ofL (outTo ([] : List S49) 0)) 0 = 0 := by rw [skipB, dif_neg (by rw [ofL_size]; simp [outTo])]
    rw [if_pos ⟨rfl, by show skipB (ofL (outTo ([] : List S49) 0)) 0 = _; rw [this, ofL_size]; simp [outTo]⟩]
  · have hs : sepU l 0 = [] := by unfold sepU; rw [if_neg (by omega)]
    have := round_from hl hok hlast _ 0 rfl h0 ((ofL (outTo l l.length)).size + 1) false (by omega)
    rw [hs] at this
    simpa [outTo] using this
end
end Go.Proofs.Ythaglbgembfpeaa
