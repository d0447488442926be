/- The plain law of the round trip: Parse of the canonical text gives the items. No Go in it. -/
import Derived.Test.YthaglbgembfpeaaGChk2
import Derived.Test.YthaglbgembfpeaaGPar1
namespace Go.Proofs.Ythaglbgembfpeaa
open Go.RowKit Go.Proofs.Ythaglbgembfpeaa.P Go.Proofs.YthaglbgembfpeaaW.PrintWords Go.Proofs.YthaglbgembfpeaaW.PrintLast

/-- From p on the bytes are M. -/
def HasAt (S : ByteArray) (p : Nat) (M : List UInt8) : Prop := p ≤ S.size ∧ S.data.toList.drop p = M
theorem HasAt.cons {S : ByteArray} {p : Nat} {b : UInt8} {M : List UInt8} (h : HasAt S p (b :: M)) : p < S.size ∧ bt S p = b.toNat ∧ HasAt S (p + 1) M := by
  obtain ⟨hp, h⟩ := h
  have hl : S.data.toList.length = S.size := by rw [Array.length_toList]; rfl
  have lt : p < S.size := by
    rcases Nat.lt_or_ge p S.size with h1 | h1
    · exact h1
    · rw [List.drop_of_length_le (by omega)] at h; cases h
  have hd := List.drop_eq_getElem_cons (l := S.data.toList) (i := p) (by omega)
  rw [h] at hd
  injection hd with h1 h2
  refine ⟨lt, ?_, by omega, h2.symm⟩
  rw [bt, Int.toNat_natCast, dif_pos lt, h1]
  rfl
theorem HasAt.nil {S : ByteArray} {p : Nat} (h : HasAt S p []) : p = S.size := by
  have hl : S.data.toList.length = S.size := by rw [Array.length_toList]; rfl
  have := congrArg List.length h.2
  rw [List.length_drop] at this
  simp at this
  have := h.1
  omega
theorem HasAt.skip {S : ByteArray} : ∀ (C : List UInt8) {p : Nat} {M : List UInt8}, HasAt S p (C ++ M) → HasAt S (p + C.length) M
  | [], _, _, h => h
  | c :: C, p, M, h => by
    have := HasAt.skip C (h.cons.2.2)
    rwa [show p + 1 + C.length = p + (c :: C).length by simp; omega] at this
/-- What M begins with is none of the letters. -/
def Ends (q : Int → Prop) (M : List UInt8) : Prop := ∀ b M', M = b :: M' → q b.toNat
theorem end_of {S : ByteArray} {M : List UInt8} (hM : Ends (fun b => letB b = false) M) : ∀ (C : List UInt8) (p : Nat), (∀ c ∈ C, letB c.toNat = true) → HasAt S p (C ++ M) → endL S p = p + C.length
  | [], p, _, h => by
    rw [endL]
    split
    · rename_i lt
      cases M with
      | nil => have := HasAt.nil h; omega
      | cons b M' =>
        have := (HasAt.cons h).2.1
        rw [if_neg (by rw [this, hM b M' rfl]; decide)]; rfl
    · rfl
  | c :: C, p, hC, h => by
    obtain ⟨lt, hb, h'⟩ := HasAt.cons h
    rw [endL, dif_pos lt, if_pos (by rw [hb]; exact hC c (by simp)), end_of hM C (p + 1) (fun c hc => hC c (by simp [hc])) h']
    simp; omega
theorem tail_of {S : ByteArray} {M : List UInt8} (hM : Ends (fun b => b ≠ 60 ∧ b ≠ 63 ∧ b ≠ 42) M) (r v : Bool) : ∀ (m : Nat) (p : Nat) (c : Int), 0 ≤ c → c + m ≤ 9 → HasAt S p (List.replicate m 60 ++ ((if r = true then [63] else []) ++ ((if v = true then [42] else []) ++ M))) →
    tailS S p c false false = .stop (p + m + (if r = true then 1 else 0) + (if v = true then 1 else 0)) (c + m) r v
  | 0, p, c, h0, h9, h => by
    have fin : ∀ p r v, HasAt S p M → tailS S p c r v = .stop p c r v := fun p r v h => by
      rw [tailS]
      split
      · rename_i lt
        cases M with
        | nil => have := HasAt.nil h; omega
        | cons b M' =>
          have hb := (HasAt.cons h).2.1
          obtain ⟨n1, n2, n3⟩ := hM b M' rfl
          rw [if_neg (by rw [hb]; exact n1), if_neg (by rw [hb]; exact n2), if_neg (by rw [hb]; exact n3)]
      · rfl
    have fv : ∀ p r, HasAt S p ((if v = true then [42] else []) ++ M) → tailS S p c r false = .stop (p + (if v = true then 1 else 0)) c r v := fun p r h => by
      cases v with
      | false => exact fin p r false (by simpa using h)
      | true =>
        obtain ⟨lt, hb, h'⟩ := HasAt.cons (b := 42) (M := M) (by simpa using h)
        rw [tailS, dif_pos lt, if_neg (by rw [hb]; decide), if_neg (by rw [hb]; decide), if_pos (by rw [hb]; rfl), if_neg (by decide)]
        exact fin (p + 1) r true h'
    simp only [List.replicate_zero, List.nil_append] at h
    cases r with
    | false =>
      have := fv p false (by simpa using h)
      rw [this]; simp
    | true =>
      obtain ⟨lt, hb, h'⟩ := HasAt.cons (b := 63) (M := (if v = true then [42] else []) ++ M) (by simpa using h)
      rw [tailS, dif_pos lt, if_neg (by rw [hb]; decide), if_pos (by rw [hb]; rfl), if_neg (by decide), fv (p + 1) true h']
      simp
  | m + 1, p, c, h0, h9, h => by
    rw [List.replicate_succ] at h
    obtain ⟨lt, hb, h'⟩ := HasAt.cons h
    rw [tailS, dif_pos lt, if_pos (by rw [hb]; rfl), if_neg (by omega), tail_of hM r v m (p + 1) (c + 1) (by omega) (by omega) h']
    congr 1 <;> omega
theorem extract_of {S : ByteArray} {p : Nat} {C M : List UInt8} (h : HasAt S p (C ++ M)) : S.extract p (p + C.length) = ofL C := by
  apply ByteArray.ext
  apply Array.toList_inj.1
  rw [Lib.extract_data, h.2]
  show _ = C.toArray.toList
  simp
theorem code_letters {s : ByteArray} (h : codeB s = true) : ∀ c ∈ s.data.toList, letB c.toNat = true := by
  intro c hc
  simp only [codeB, evB, Bool.and_eq_true] at h
  have := List.all_eq_true.1 h.1.2.2 (c.toNat : Int) (by rw [bytesOf]; exact List.mem_map.2 ⟨c, hc, rfl⟩)
  simp only [ltrB, digI, Bool.or_eq_true, decide_eq_true_eq] at this
  simp only [letB, Bool.or_eq_true, decide_eq_true_eq]
  omega
end Go.Proofs.Ythaglbgembfpeaa
