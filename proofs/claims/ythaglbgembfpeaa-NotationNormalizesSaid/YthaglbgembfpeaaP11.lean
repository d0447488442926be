/- Each Go function as a plain Lean function, and the proof that its call comes to what that function says: made by a program of this session over the kit's print. -/
import Derived.Test.YthaglbgembfpeaaP0
import Derived.Test.YthaglbgembfpeaaP5
import Derived.Test.YthaglbgembfpeaaGCode
namespace Go.Proofs.Ythaglbgembfpeaa.P
open Go.RowKit Go.Proofs.YthaglbgembfpeaaW.PrintWords Go.Proofs.YthaglbgembfpeaaW.PrintLast Go.Proofs.YthaglbgembfpeaaW.PrintMore
attribute [local go_sem] max2_int min2_int max_two min_two max_three min_three max_four min_four   -- for this text's walks alone
set_option linter.unusedVariables false
set_option linter.unusedSimpArgs false

/-! ### notation_Parse: function 11 -/
mutual
def notation_Parse.l0 : Nat → ByteArray → List (S49) → Int → Bool → Option ((List (S49)) × Int × Int)
  | 0, _, _, _, _ => none
  | k + 1, x0, x4, x6, x7 => notation_Parse.l1 k x0 x4 x6 x7
def notation_Parse.j2 : Nat → ByteArray → List (S49) → Int → Bool → Option ((List (S49)) × Int × Int)
  | 0, _, _, _, _ => none
  | k + 1, x0, x4, x6, x7 => if x6 = (x0.size : Int) then (notation_Parse.j3 k x0 x4 x6 (!x7)) else (notation_Parse.j3 k x0 x4 x6 false)
def notation_Parse.j3 : Nat → ByteArray → List (S49) → Int → Bool → Option ((List (S49)) × Int × Int)
  | 0, _, _, _, _ => none
  | k + 1, x0, x4, x6, x34 => if x34 = true then (some (x4, 0, 0)) else (if x6 = (x0.size : Int) then (notation_Parse.j4 k x0 x4 x6 true) else (if 0 ≤ x6 then (if x6 < (x0.size : Int) then ((notation_letter.f (bt x0 x6)).bind fun t104 => (notation_Parse.j4 k x0 x4 x6 (!t104))) else (none)) else (none)))
def notation_Parse.j4 : Nat → ByteArray → List (S49) → Int → Bool → Option ((List (S49)) × Int × Int)
  | 0, _, _, _, _ => none
  | k + 1, x0, x4, x6, x47 => if x47 = true then ((notation_Parse_1.f 2 x6).bind fun bt105 => (some (bt105.1, bt105.2.1, bt105.2.2))) else (if (x4.length : Int) = 30 then ((notation_Parse_1.f 6 x6).bind fun bt110 => (some (bt110.1, bt110.2.1, bt110.2.2))) else (notation_Parse.l2 k x0 x4 x6 x6))
def notation_Parse.j6 : Nat → ByteArray → List (S49) → Int → Int → Option ((List (S49)) × Int × Int)
  | 0, _, _, _, _ => none
  | k + 1, x0, x4, x6, x8 => if 0 ≤ x8 then (if x8 ≤ x6 then (if x6 ≤ (x0.size : Int) then ((ident_Code.f (x0.extract (x8 : Int).toNat (x6 : Int).toNat)).bind fun t116 => (if t116 = true then (notation_Parse.l3 k x0 x4 x6 (x0.extract (x8 : Int).toNat (x6 : Int).toNat) 0 false false false) else ((notation_Parse_1.f 3 x8).bind fun bt117 => (some (bt117.1, bt117.2.1, bt117.2.2))))) else (none)) else (none)) else (none)
def notation_Parse.l3 : Nat → ByteArray → List (S49) → Int → ByteArray → Int → Bool → Bool → Bool → Option ((List (S49)) × Int × Int)
  | 0, _, _, _, _, _, _, _, _ => none
  | k + 1, x0, x4, x6, x123000, x123001, x123002, x123003, x123004 => if x6 < (x0.size : Int) then (if 0 ≤ x6 then (if (bt x0 x6) = 60 then (notation_Parse.j8 k x0 x4 x6 (bt x0 x6) (x123001 == 9) x123000 x123001 x123002 x123003 x123004) else (notation_Parse.j8 k x0 x4 x6 (bt x0 x6) false x123000 x123001 x123002 x123003 x123004)) else (none)) else (if x4.length < 4398046511104 then (some ((x4 ++ [(⟨x123000, x123001, x123002, x123003, x123004⟩ : S49)]), 0, 0)) else (none))
def notation_Parse.j8 : Nat → ByteArray → List (S49) → Int → Int → Bool → ByteArray → Int → Bool → Bool → Bool → Option ((List (S49)) × Int × Int)
  | 0, _, _, _, _, _, _, _, _, _, _ => none
  | k + 1, x0, x4, x6, x10, x104, x123000, x123001, x123002, x123003, x123004 => if x104 = true then ((notation_Parse_1.f 6 x6).bind fun bt126 => (some (bt126.1, bt126.2.1, bt126.2.2))) else (if x10 = 60 then (notation_Parse.l3 k x0 x4 (wrap64 (x6 + 1)) x123000 (wrap64 (x123001 + 1)) x123002 x123003 x123004) else (if x10 = 63 then (if x123002 = true then (notation_Parse.j9 k x0 x4 x6 x10 true x123000 x123001 x123002 x123003 x123004) else (if x10 = 42 then (notation_Parse.j9 k x0 x4 x6 x10 x123003 x123000 x123001 x123002 x123003 x123004) else (notation_Parse.j9 k x0 x4 x6 x10 false x123000 x123001 x123002 x123003 x123004))) else (if x10 = 42 then (notation_Parse.j9 k x0 x4 x6 x10 x123003 x123000 x123001 x123002 x123003 x123004) else (notation_Parse.j9 k x0 x4 x6 x10 false x123000 x123001 x123002 x123003 x123004))))
def notation_Parse.j9 : Nat → ByteArray → List (S49) → Int → Int → Bool → ByteArray → Int → Bool → Bool → Bool → Option ((List (S49)) × Int × Int)
  | 0, _, _, _, _, _, _, _, _, _, _ => none
  | k + 1, x0, x4, x6, x10, x124, x123000, x123001, x123002, x123003, x123004 => if x124 = true then ((notation_Parse_1.f 4 x6).bind fun bt131 => (some (bt131.1, bt131.2.1, bt131.2.2))) else (if x10 = 63 then (notation_Parse.l3 k x0 x4 (wrap64 (x6 + 1)) x123000 x123001 true x123003 x123004) else (if x10 = 42 then (notation_Parse.l3 k x0 x4 (wrap64 (x6 + 1)) x123000 x123001 x123002 true x123004) else (if x10 = 43 then (if x4.length < 4398046511104 then (notation_Parse.l0 k x0 (x4 ++ [(⟨x123000, x123001, x123002, x123003, (x10 == 43)⟩ : S49)]) (wrap64 (x6 + 1)) (x10 == 43)) else (none)) else (if x10 = 32 then (if x4.length < 4398046511104 then (notation_Parse.l0 k x0 (x4 ++ [(⟨x123000, x123001, x123002, x123003, (x10 == 43)⟩ : S49)]) (wrap64 (x6 + 1)) (x10 == 43)) else (none)) else ((notation_Parse_1.f 2 x6).bind fun bt142 => (some (bt142.1, bt142.2.1, bt142.2.2)))))))
def notation_Parse.l2 : Nat → ByteArray → List (S49) → Int → Int → Option ((List (S49)) × Int × Int)
  | 0, _, _, _, _ => none
  | k + 1, x0, x4, x6, x8 => if x6 < (x0.size : Int) then (if 0 ≤ x6 then ((notation_letter.f (bt x0 x6)).bind fun t115 => (if t115 = true then (notation_Parse.l2 k x0 x4 (wrap64 (x6 + 1)) x8) else (notation_Parse.j6 k x0 x4 x6 x8))) else (none)) else (notation_Parse.j6 k x0 x4 x6 x8)
def notation_Parse.l1 : Nat → ByteArray → List (S49) → Int → Bool → Option ((List (S49)) × Int × Int)
  | 0, _, _, _, _ => none
  | k + 1, x0, x4, x6, x7 => if x7 = true then (notation_Parse.j2 k x0 x4 x6 x7) else (if x6 < (x0.size : Int) then (if 0 ≤ x6 then (if (bt x0 x6) = 32 then (notation_Parse.l1 k x0 x4 (wrap64 (x6 + 1)) x7) else (notation_Parse.j2 k x0 x4 x6 x7)) else (none)) else (notation_Parse.j2 k x0 x4 x6 x7))
end
def notation_Parse.f (k : Nat) (a0 : ByteArray) : Option ((List (S49)) × Int × Int) := notation_Parse.l0 k a0 ([] : List (S49)) 0 false
theorem notation_Parse.mono_l : ∀ k, (∀ y0 y1 y2 y3, LeO (notation_Parse.l0 k y0 y1 y2 y3) (notation_Parse.l0 (k + 1) y0 y1 y2 y3)) ∧ (∀ y0 y1 y2 y3, LeO (notation_Parse.j2 k y0 y1 y2 y3) (notation_Parse.j2 (k + 1) y0 y1 y2 y3)) ∧ (∀ y0 y1 y2 y3, LeO (notation_Parse.j3 k y0 y1 y2 y3) (notation_Parse.j3 (k + 1) y0 y1 y2 y3)) ∧ (∀ y0 y1 y2 y3, LeO (notation_Parse.j4 k y0 y1 y2 y3) (notation_Parse.j4 (k + 1) y0 y1 y2 y3)) ∧ (∀ y0 y1 y2 y3, LeO (notation_Parse.j6 k y0 y1 y2 y3) (notation_Parse.j6 (k + 1) y0 y1 y2 y3)) ∧ (∀ y0 y1 y2 y3 y4 y5 y6 y7, LeO (notation_Parse.l3 k y0 y1 y2 y3 y4 y5 y6 y7) (notation_Parse.l3 (k + 1) y0 y1 y2 y3 y4 y5 y6 y7)) ∧ (∀ y0 y1 y2 y3 y4 y5 y6 y7 y8 y9, LeO (notation_Parse.j8 k y0 y1 y2 y3 y4 y5 y6 y7 y8 y9) (notation_Parse.j8 (k + 1) y0 y1 y2 y3 y4 y5 y6 y7 y8 y9)) ∧ (∀ y0 y1 y2 y3 y4 y5 y6 y7 y8 y9, LeO (notation_Parse.j9 k y0 y1 y2 y3 y4 y5 y6 y7 y8 y9) (notation_Parse.j9 (k + 1) y0 y1 y2 y3 y4 y5 y6 y7 y8 y9)) ∧ (∀ y0 y1 y2 y3, LeO (notation_Parse.l2 k y0 y1 y2 y3) (notation_Parse.l2 (k + 1) y0 y1 y2 y3)) ∧ (∀ y0 y1 y2 y3, LeO (notation_Parse.l1 k y0 y1 y2 y3) (notation_Parse.l1 (k + 1) y0 y1 y2 y3))
  | 0 => ⟨fun _ _ _ _ r h => by simp [notation_Parse.l0] at h, fun _ _ _ _ r h => by simp [notation_Parse.j2] at h, fun _ _ _ _ r h => by simp [notation_Parse.j3] at h, fun _ _ _ _ r h => by simp [notation_Parse.j4] at h, fun _ _ _ _ r h => by simp [notation_Parse.j6] at h, fun _ _ _ _ _ _ _ _ r h => by simp [notation_Parse.l3] at h, fun _ _ _ _ _ _ _ _ _ _ r h => by simp [notation_Parse.j8] at h, fun _ _ _ _ _ _ _ _ _ _ r h => by simp [notation_Parse.j9] at h, fun _ _ _ _ r h => by simp [notation_Parse.l2] at h, fun _ _ _ _ r h => by simp [notation_Parse.l1] at h⟩
  | k + 1 => by
    obtain ⟨ih0, ih1, ih2, ih3, ih4, ih5, ih6, ih7, ih8, ih9⟩ := notation_Parse.mono_l k
    refine ⟨?_, ?_, ?_, ?_, ?_, ?_, ?_, ?_, ?_, ?_⟩
    · intro y0 y1 y2 y3
      unfold notation_Parse.l0
      repeat' first
      | (with_reducible exact ih0 _ _ _ _)
      | (with_reducible exact ih1 _ _ _ _)
      | (with_reducible exact ih2 _ _ _ _)
      | (with_reducible exact ih3 _ _ _ _)
      | (with_reducible exact ih4 _ _ _ _)
      | (with_reducible exact ih5 _ _ _ _ _ _ _ _)
      | (with_reducible exact ih6 _ _ _ _ _ _ _ _ _ _)
      | (with_reducible exact ih7 _ _ _ _ _ _ _ _ _ _)
      | (with_reducible exact ih8 _ _ _ _)
      | (with_reducible exact ih9 _ _ _ _)
      | (with_reducible exact LeO.refl _)
      | (with_reducible exact LeO.none _)
      | (with_reducible refine LeO.ite ?_ ?_)
      | (with_reducible refine LeO.bind ?_ (fun _ => ?_))
      | exact ih0 _ _ _ _
      | exact ih1 _ _ _ _
      | exact ih2 _ _ _ _
      | exact ih3 _ _ _ _
      | exact ih4 _ _ _ _
      | exact ih5 _ _ _ _ _ _ _ _
      | exact ih6 _ _ _ _ _ _ _ _ _ _
      | exact ih7 _ _ _ _ _ _ _ _ _ _
      | exact ih8 _ _ _ _
      | exact ih9 _ _ _ _
      | exact LeO.none _
      | refine LeO.ite ?_ ?_
      | refine LeO.bind ?_ (fun _ => ?_)
    · intro y0 y1 y2 y3
      unfold notation_Parse.j2
      repeat' first
      | (with_reducible exact ih0 _ _ _ _)
      | (with_reducible exact ih1 _ _ _ _)
      | (with_reducible exact ih2 _ _ _ _)
      | (with_reducible exact ih3 _ _ _ _)
      | (with_reducible exact ih4 _ _ _ _)
      | (with_reducible exact ih5 _ _ _ _ _ _ _ _)
      | (with_reducible exact ih6 _ _ _ _ _ _ _ _ _ _)
      | (with_reducible exact ih7 _ _ _ _ _ _ _ _ _ _)
      | (with_reducible exact ih8 _ _ _ _)
      | (with_reducible exact ih9 _ _ _ _)
      | (with_reducible exact LeO.refl _)
      | (with_reducible exact LeO.none _)
      | (with_reducible refine LeO.ite ?_ ?_)
      | (with_reducible refine LeO.bind ?_ (fun _ => ?_))
      | exact ih0 _ _ _ _
      | exact ih1 _ _ _ _
      | exact ih2 _ _ _ _
      | exact ih3 _ _ _ _
      | exact ih4 _ _ _ _
      | exact ih5 _ _ _ _ _ _ _ _
      | exact ih6 _ _ _ _ _ _ _ _ _ _
      | exact ih7 _ _ _ _ _ _ _ _ _ _
      | exact ih8 _ _ _ _
      | exact ih9 _ _ _ _
      | exact LeO.none _
      | refine LeO.ite ?_ ?_
      | refine LeO.bind ?_ (fun _ => ?_)
    · intro y0 y1 y2 y3
      unfold notation_Parse.j3
      repeat' first
      | (with_reducible exact ih0 _ _ _ _)
      | (with_reducible exact ih1 _ _ _ _)
      | (with_reducible exact ih2 _ _ _ _)
      | (with_reducible exact ih3 _ _ _ _)
      | (with_reducible exact ih4 _ _ _ _)
      | (with_reducible exact ih5 _ _ _ _ _ _ _ _)
      | (with_reducible exact ih6 _ _ _ _ _ _ _ _ _ _)
      | (with_reducible exact ih7 _ _ _ _ _ _ _ _ _ _)
      | (with_reducible exact ih8 _ _ _ _)
      | (with_reducible exact ih9 _ _ _ _)
      | (with_reducible exact LeO.refl _)
      | (with_reducible exact LeO.none _)
      | (with_reducible refine LeO.ite ?_ ?_)
      | (with_reducible refine LeO.bind ?_ (fun _ => ?_))
      | exact ih0 _ _ _ _
      | exact ih1 _ _ _ _
      | exact ih2 _ _ _ _
      | exact ih3 _ _ _ _
      | exact ih4 _ _ _ _
      | exact ih5 _ _ _ _ _ _ _ _
      | exact ih6 _ _ _ _ _ _ _ _ _ _
      | exact ih7 _ _ _ _ _ _ _ _ _ _
      | exact ih8 _ _ _ _
      | exact ih9 _ _ _ _
      | exact LeO.none _
      | refine LeO.ite ?_ ?_
      | refine LeO.bind ?_ (fun _ => ?_)
    · intro y0 y1 y2 y3
      unfold notation_Parse.j4
      repeat' first
      | (with_reducible exact ih0 _ _ _ _)
      | (with_reducible exact ih1 _ _ _ _)
      | (with_reducible exact ih2 _ _ _ _)
      | (with_reducible exact ih3 _ _ _ _)
      | (with_reducible exact ih4 _ _ _ _)
      | (with_reducible exact ih5 _ _ _ _ _ _ _ _)
      | (with_reducible exact ih6 _ _ _ _ _ _ _ _ _ _)
      | (with_reducible exact ih7 _ _ _ _ _ _ _ _ _ _)
      | (with_reducible exact ih8 _ _ _ _)
      | (with_reducible exact ih9 _ _ _ _)
      | (with_reducible exact LeO.refl _)
      | (with_reducible exact LeO.none _)
      | (with_reducible refine LeO.ite ?_ ?_)
      | (with_reducible refine LeO.bind ?_ (fun _ => ?_))
      | exact ih0 _ _ _ _
      | exact ih1 _ _ _ _
      | exact ih2 _ _ _ _
      | exact ih3 _ _ _ _
      | exact ih4 _ _ _ _
      | exact ih5 _ _ _ _ _ _ _ _
      | exact ih6 _ _ _ _ _ _ _ _ _ _
      | exact ih7 _ _ _ _ _ _ _ _ _ _
      | exact ih8 _ _ _ _
      | exact ih9 _ _ _ _
      | exact LeO.none _
      | refine LeO.ite ?_ ?_
      | refine LeO.bind ?_ (fun _ => ?_)
    · intro y0 y1 y2 y3
      unfold notation_Parse.j6
      repeat' first
      | (with_reducible exact ih0 _ _ _ _)
      | (with_reducible exact ih1 _ _ _ _)
      | (with_reducible exact ih2 _ _ _ _)
      | (with_reducible exact ih3 _ _ _ _)
      | (with_reducible exact ih4 _ _ _ _)
      | (with_reducible exact ih5 _ _ _ _ _ _ _ _)
      | (with_reducible exact ih6 _ _ _ _ _ _ _ _ _ _)
      | (with_reducible exact ih7 _ _ _ _ _ _ _ _ _ _)
      | (with_reducible exact ih8 _ _ _ _)
      | (with_reducible exact ih9 _ _ _ _)
      | (with_reducible exact LeO.refl _)
      | (with_reducible exact LeO.none _)
      | (with_reducible refine LeO.ite ?_ ?_)
      | (with_reducible refine LeO.bind ?_ (fun _ => ?_))
      | exact ih0 _ _ _ _
      | exact ih1 _ _ _ _
      | exact ih2 _ _ _ _
      | exact ih3 _ _ _ _
      | exact ih4 _ _ _ _
      | exact ih5 _ _ _ _ _ _ _ _
      | exact ih6 _ _ _ _ _ _ _ _ _ _
      | exact ih7 _ _ _ _ _ _ _ _ _ _
      | exact ih8 _ _ _ _
      | exact ih9 _ _ _ _
      | exact LeO.none _
      | refine LeO.ite ?_ ?_
      | refine LeO.bind ?_ (fun _ => ?_)
    · intro y0 y1 y2 y3 y4 y5 y6 y7
      unfold notation_Parse.l3
      repeat' first
      | (with_reducible exact ih0 _ _ _ _)
      | (with_reducible exact ih1 _ _ _ _)
      | (with_reducible exact ih2 _ _ _ _)
      | (with_reducible exact ih3 _ _ _ _)
      | (with_reducible exact ih4 _ _ _ _)
      | (with_reducible exact ih5 _ _ _ _ _ _ _ _)
      | (with_reducible exact ih6 _ _ _ _ _ _ _ _ _ _)
      | (with_reducible exact ih7 _ _ _ _ _ _ _ _ _ _)
      | (with_reducible exact ih8 _ _ _ _)
      | (with_reducible exact ih9 _ _ _ _)
      | (with_reducible exact LeO.refl _)
      | (with_reducible exact LeO.none _)
      | (with_reducible refine LeO.ite ?_ ?_)
      | (with_reducible refine LeO.bind ?_ (fun _ => ?_))
      | exact ih0 _ _ _ _
      | exact ih1 _ _ _ _
      | exact ih2 _ _ _ _
      | exact ih3 _ _ _ _
      | exact ih4 _ _ _ _
      | exact ih5 _ _ _ _ _ _ _ _
      | exact ih6 _ _ _ _ _ _ _ _ _ _
      | exact ih7 _ _ _ _ _ _ _ _ _ _
      | exact ih8 _ _ _ _
      | exact ih9 _ _ _ _
      | exact LeO.none _
      | refine LeO.ite ?_ ?_
      | refine LeO.bind ?_ (fun _ => ?_)
    · intro y0 y1 y2 y3 y4 y5 y6 y7 y8 y9
      unfold notation_Parse.j8
      repeat' first
      | (with_reducible exact ih0 _ _ _ _)
      | (with_reducible exact ih1 _ _ _ _)
      | (with_reducible exact ih2 _ _ _ _)
      | (with_reducible exact ih3 _ _ _ _)
      | (with_reducible exact ih4 _ _ _ _)
      | (with_reducible exact ih5 _ _ _ _ _ _ _ _)
      | (with_reducible exact ih6 _ _ _ _ _ _ _ _ _ _)
      | (with_reducible exact ih7 _ _ _ _ _ _ _ _ _ _)
      | (with_reducible exact ih8 _ _ _ _)
      | (with_reducible exact ih9 _ _ _ _)
      | (with_reducible exact LeO.refl _)
      | (with_reducible exact LeO.none _)
      | (with_reducible refine LeO.ite ?_ ?_)
      | (with_reducible refine LeO.bind ?_ (fun _ => ?_))
      | exact ih0 _ _ _ _
      | exact ih1 _ _ _ _
      | exact ih2 _ _ _ _
      | exact ih3 _ _ _ _
      | exact ih4 _ _ _ _
      | exact ih5 _ _ _ _ _ _ _ _
      | exact ih6 _ _ _ _ _ _ _ _ _ _
      | exact ih7 _ _ _ _ _ _ _ _ _ _
      | exact ih8 _ _ _ _
      | exact ih9 _ _ _ _
      | exact LeO.none _
      | refine LeO.ite ?_ ?_
      | refine LeO.bind ?_ (fun _ => ?_)
    · intro y0 y1 y2 y3 y4 y5 y6 y7 y8 y9
      unfold notation_Parse.j9
      repeat' first
      | (with_reducible exact ih0 _ _ _ _)
      | (with_reducible exact ih1 _ _ _ _)
      | (with_reducible exact ih2 _ _ _ _)
      | (with_reducible exact ih3 _ _ _ _)
      | (with_reducible exact ih4 _ _ _ _)
      | (with_reducible exact ih5 _ _ _ _ _ _ _ _)
      | (with_reducible exact ih6 _ _ _ _ _ _ _ _ _ _)
      | (with_reducible exact ih7 _ _ _ _ _ _ _ _ _ _)
      | (with_reducible exact ih8 _ _ _ _)
      | (with_reducible exact ih9 _ _ _ _)
      | (with_reducible exact LeO.refl _)
      | (with_reducible exact LeO.none _)
      | (with_reducible refine LeO.ite ?_ ?_)
      | (with_reducible refine LeO.bind ?_ (fun _ => ?_))
      | exact ih0 _ _ _ _
      | exact ih1 _ _ _ _
      | exact ih2 _ _ _ _
      | exact ih3 _ _ _ _
      | exact ih4 _ _ _ _
      | exact ih5 _ _ _ _ _ _ _ _
      | exact ih6 _ _ _ _ _ _ _ _ _ _
      | exact ih7 _ _ _ _ _ _ _ _ _ _
      | exact ih8 _ _ _ _
      | exact ih9 _ _ _ _
      | exact LeO.none _
      | refine LeO.ite ?_ ?_
      | refine LeO.bind ?_ (fun _ => ?_)
    · intro y0 y1 y2 y3
      unfold notation_Parse.l2
      repeat' first
      | (with_reducible exact ih0 _ _ _ _)
      | (with_reducible exact ih1 _ _ _ _)
      | (with_reducible exact ih2 _ _ _ _)
      | (with_reducible exact ih3 _ _ _ _)
      | (with_reducible exact ih4 _ _ _ _)
      | (with_reducible exact ih5 _ _ _ _ _ _ _ _)
      | (with_reducible exact ih6 _ _ _ _ _ _ _ _ _ _)
      | (with_reducible exact ih7 _ _ _ _ _ _ _ _ _ _)
      | (with_reducible exact ih8 _ _ _ _)
      | (with_reducible exact ih9 _ _ _ _)
      | (with_reducible exact LeO.refl _)
      | (with_reducible exact LeO.none _)
      | (with_reducible refine LeO.ite ?_ ?_)
      | (with_reducible refine LeO.bind ?_ (fun _ => ?_))
      | exact ih0 _ _ _ _
      | exact ih1 _ _ _ _
      | exact ih2 _ _ _ _
      | exact ih3 _ _ _ _
      | exact ih4 _ _ _ _
      | exact ih5 _ _ _ _ _ _ _ _
      | exact ih6 _ _ _ _ _ _ _ _ _ _
      | exact ih7 _ _ _ _ _ _ _ _ _ _
      | exact ih8 _ _ _ _
      | exact ih9 _ _ _ _
      | exact LeO.none _
      | refine LeO.ite ?_ ?_
      | refine LeO.bind ?_ (fun _ => ?_)
    · intro y0 y1 y2 y3
      unfold notation_Parse.l1
      repeat' first
      | (with_reducible exact ih0 _ _ _ _)
      | (with_reducible exact ih1 _ _ _ _)
      | (with_reducible exact ih2 _ _ _ _)
      | (with_reducible exact ih3 _ _ _ _)
      | (with_reducible exact ih4 _ _ _ _)
      | (with_reducible exact ih5 _ _ _ _ _ _ _ _)
      | (with_reducible exact ih6 _ _ _ _ _ _ _ _ _ _)
      | (with_reducible exact ih7 _ _ _ _ _ _ _ _ _ _)
      | (with_reducible exact ih8 _ _ _ _)
      | (with_reducible exact ih9 _ _ _ _)
      | (with_reducible exact LeO.refl _)
      | (with_reducible exact LeO.none _)
      | (with_reducible refine LeO.ite ?_ ?_)
      | (with_reducible refine LeO.bind ?_ (fun _ => ?_))
      | exact ih0 _ _ _ _
      | exact ih1 _ _ _ _
      | exact ih2 _ _ _ _
      | exact ih3 _ _ _ _
      | exact ih4 _ _ _ _
      | exact ih5 _ _ _ _ _ _ _ _
      | exact ih6 _ _ _ _ _ _ _ _ _ _
      | exact ih7 _ _ _ _ _ _ _ _ _ _
      | exact ih8 _ _ _ _
      | exact ih9 _ _ _ _
      | exact LeO.none _
      | refine LeO.ite ?_ ?_
      | refine LeO.bind ?_ (fun _ => ?_)
theorem notation_Parse.mono : ∀ a0 k, LeO (notation_Parse.f k a0) (notation_Parse.f (k + 1) a0) := by
  intro a0 k
  obtain ⟨ih0, ih1, ih2, ih3, ih4, ih5, ih6, ih7, ih8, ih9⟩ := notation_Parse.mono_l k
  unfold notation_Parse.f
  repeat' first
      | (with_reducible exact ih0 _ _ _ _)
      | (with_reducible exact ih1 _ _ _ _)
      | (with_reducible exact ih2 _ _ _ _)
      | (with_reducible exact ih3 _ _ _ _)
      | (with_reducible exact ih4 _ _ _ _)
      | (with_reducible exact ih5 _ _ _ _ _ _ _ _)
      | (with_reducible exact ih6 _ _ _ _ _ _ _ _ _ _)
      | (with_reducible exact ih7 _ _ _ _ _ _ _ _ _ _)
      | (with_reducible exact ih8 _ _ _ _)
      | (with_reducible exact ih9 _ _ _ _)
      | (with_reducible exact LeO.refl _)
      | (with_reducible exact LeO.none _)
      | (with_reducible refine LeO.ite ?_ ?_)
      | (with_reducible refine LeO.bind ?_ (fun _ => ?_))
      | exact ih0 _ _ _ _
      | exact ih1 _ _ _ _
      | exact ih2 _ _ _ _
      | exact ih3 _ _ _ _
      | exact ih4 _ _ _ _
      | exact ih5 _ _ _ _ _ _ _ _
      | exact ih6 _ _ _ _ _ _ _ _ _ _
      | exact ih7 _ _ _ _ _ _ _ _ _ _
      | exact ih8 _ _ _ _
      | exact ih9 _ _ _ _
      | exact LeO.none _
      | refine LeO.ite ?_ ?_
      | refine LeO.bind ?_ (fun _ => ?_)
set_option maxHeartbeats 8000000 in
set_option maxRecDepth 100000 in
theorem notation_Parse.calls (k : Nat) (a0 : ByteArray) (r1 : List (S49)) (r2 : Int) (r3 : Int) (w : World) (h : notation_Parse.f k a0 = some (r1, r2, r3)) :
    Calls Try.prog 11 #[.string a0] w fun e w' => ∃ v0_ : Value, e = .returned (.tuple #[v0_, .agg #[.int .i64 r2, .int .i64 r3]]) ∧ Kd.R k49 49 w' w.heap.size (fun _ => True) v0_ r1 ∧ Below w.heap.size w w' := by
  have hu26 := Try.underlying26
  have hu49 := Try.underlying49
  have HB := Aside0.mk (Below.refl w.heap.size w)
  have H : (notation_Parse.l0 k a0 ([] : List (S49)) 0 false) = some (r1, r2, r3) := h
  clear h
  have H' := Aside0.mk H
  clear H
  go_enter Try.func11, Try.ntmps11
  go_wp2_with (first | ((with_reducible refine gate_dst (N := 3) rfl ?_); (try (refine gate_guard (by rfl) ?_; dsimp only)); refine box_event ?hg (N := 3) ?hd (cs := #[.int .i64 0, .int .i64 0]) (t := 26) ?hr ?_; (case hd => rfl); (case hg => rfl); (case hr => first | (go_simp; done) | (go_simp; rfl)); intro gb103 hg w2 hbox hb; have n0_ := Aside0.mk (below_step (by repeat (first | (with_reducible first | exact HB.out | apply below_alloc | apply pw_below_drewN | apply below_drew1) | exact HB.out)) hb); have n1_ := Aside0.mk (hbox); have n2_ := Aside0.mk ((by rw [hg]; exact (below_size (by repeat (first | (with_reducible first | exact HB.out | apply below_alloc | apply pw_below_drewN | apply below_drew1) | exact HB.out))) : w.heap.size ≤ gb103)); have n3_ := Aside0.mk ((by rw [hg]; exact (below_size (by repeat (first | (with_reducible first | exact HB.out | apply below_alloc | apply pw_below_drewN | apply below_drew1) | exact HB.out))) : w.heap.size ≤ gb103)); clear HB; have HB := n0_; have BK103 := n1_; have GW103 := n2_; have GE103 := n3_; clear n0_ n1_ n2_ n3_; clear hb hbox hg))
  go_step3
  go_wp2
  go_step3
  go_wp2
  go_loopg [4, 6, 7] k (fun kq v4 v6 v7 w' => ∃ (x4_1 : List (S49)) (x6_1 : Int) (x7_1 : Bool) (x104000_1 : Int) (x104001_1 : Int), v6 = .int .i64 x6_1 ∧ v7 = .bool x7_1 ∧ Aside0 (notation_Parse.l0 kq a0 x4_1 x6_1 x7_1 = some (r1, r2, r3)) ∧ Aside0 (kq ≤ k) ∧ Aside0 (Kd.R k49 49 w' w.heap.size (fun _ => True) v4 x4_1) ∧ Aside0 (w'.heap[gb103]? = some (.cells #[.int .i64 x104000_1, .int .i64 x104001_1] 26 (0, 0))) ∧ Aside0 (Below w.heap.size w w'))
  case atStart => exact ⟨(([] : List (S49))), (0), (false), (0), (0), (by first | rfl | (simp; done) | (simp [*]; done)), (by first | rfl | (simp; done) | (simp [*]; done)), H', ⟨Nat.le_refl _⟩, ⟨by first | exact Kd.R_nil _ _ _ _ _ | exact Kd.N_nil _ _ _ _ _ | exact Kd.V_nil _ _ _ _ _ | exact Kd.Q_nil _ _ _ _ _ | exact Kd.S_nil _ _ _ _ _⟩, ⟨by (with_reducible repeat (first | refine blk_drewN ?_ _ | refine blk_drew ?_ | refine blk_alloc ?_ _)); exact BK103.out⟩, ⟨by repeat (first | (with_reducible first | exact HB.out | apply below_alloc | apply pw_below_drewN | apply below_drew1 | refine below_set ?_ GE103.out) | exact HB.out)⟩⟩
  case round =>
    clear H'
    try clear c1
    try clear p2
    obtain ⟨x4_1, x6_1, x7_1, x104000_1, x104001_1, rfl, rfl, HA, HK1, HO_4, BK103, HB⟩ := hrel
    cases gk with
    | zero => exact absurd HA.out (by simp [notation_Parse.l0])
    | succ k1 =>
      have H := HA.out
      clear HA
      simp only [notation_Parse.l0] at H
      have HC3 := Aside0.mk H
      clear H
      go_upto_block 2 with (fail)
      go_cut [6] (fun v6 wc => ∃ (kq : Nat) (x6_2 : Int), v6 = .int .i64 x6_2 ∧ Aside0 (notation_Parse.j2 kq a0 x4_1 x6_2 x7_1 = some (r1, r2, r3)) ∧ Aside0 (kq ≤ k1) ∧ Aside0 (Kd.R k49 49 wc w.heap.size (fun _ => True) u4 x4_1) ∧ Aside0 (wc.heap[gb103]? = some (.cells #[.int .i64 x104000_1, .int .i64 x104001_1] 26 (0, 0))) ∧ Aside0 (Below w.heap.size w wc))
      case first =>
        have H := HC3.out
        clear HC3
        have H' := Aside0.mk H
        clear H
        go_wp2
        go_loopg [6] k1 (fun kq v6 w' => ∃ (x6_2 : Int), v6 = .int .i64 x6_2 ∧ Aside0 (notation_Parse.l1 kq a0 x4_1 x6_2 x7_1 = some (r1, r2, r3)) ∧ Aside0 (kq ≤ k1) ∧ Aside0 (Kd.R k49 49 w' w.heap.size (fun _ => True) u4 x4_1) ∧ Aside0 (w'.heap[gb103]? = some (.cells #[.int .i64 x104000_1, .int .i64 x104001_1] 26 (0, 0))) ∧ Aside0 (Below w.heap.size w w'))
        case atStart => exact ⟨(x6_1), (by first | rfl | (simp; done) | (simp [*]; done)), H', ⟨Nat.le_refl _⟩, ⟨by (with_reducible repeat (first | apply Kd.R_alloc | apply Kd.R_drewN | apply Kd.R_drew)); exact HO_4.out⟩, ⟨by (with_reducible repeat (first | refine blk_drewN ?_ _ | refine blk_drew ?_ | refine blk_alloc ?_ _)); exact BK103.out⟩, ⟨by repeat (first | (with_reducible first | exact HB.out | apply below_alloc | apply pw_below_drewN | apply below_drew1 | refine below_set ?_ GE103.out) | exact HB.out)⟩⟩
        case round =>
          clear H'
          try clear c1
          try clear p2
          try clear p2
          obtain ⟨x6_2, rfl, HA, HK2, HO_4, BK103, HB⟩ := hrel
          cases gk with
          | zero => exact absurd HA.out (by simp [notation_Parse.l1])
          | succ k2 =>
            have H := HA.out
            clear HA
            simp only [notation_Parse.l1] at H
            by_cases c4 : x7_1 = true
            · subst c4
              have H1 : (notation_Parse.j2 k2 a0 x4_1 x6_2 true) = some (r1, r2, r3) := by rw [if_pos rfl] at H; exact H
              clear H
              have H := H1
              clear H1
              have H' := Aside0.mk H
              clear H
              go_wp2
              go_meet
              case rel => exact ⟨_, (x6_2), (by first | rfl | (simp; done) | (simp [*]; done)), H', ⟨by have := HK1.out; have := HK2.out; first | omega | exact Nat.le_refl _⟩, ⟨by (with_reducible repeat (first | apply Kd.R_alloc | apply Kd.R_drewN | apply Kd.R_drew)); exact HO_4.out⟩, ⟨by (with_reducible repeat (first | refine blk_drewN ?_ _ | refine blk_drew ?_ | refine blk_alloc ?_ _)); exact BK103.out⟩, ⟨by repeat (first | (with_reducible first | exact HB.out | apply below_alloc | apply pw_below_drewN | apply below_drew1 | refine below_set ?_ GE103.out) | exact HB.out)⟩⟩
            · replace c4 := Bool.eq_false_iff.mpr c4
              subst c4
              have H1 : (if x6_2 < (a0.size : Int) then (if 0 ≤ x6_2 then (if (bt a0 x6_2) = 32 then (notation_Parse.l1 k2 a0 x4_1 (wrap64 (x6_2 + 1)) false) else (notation_Parse.j2 k2 a0 x4_1 x6_2 false)) else (none)) else (notation_Parse.j2 k2 a0 x4_1 x6_2 false)) = some (r1, r2, r3) := by rw [if_neg (show ¬ (false = true) by decide)] at H; exact H
              clear H
              have H := H1
              clear H1
              by_cases c5 : x6_2 < (a0.size : Int)
              · rw [if_pos c5] at H
                have c5b0 : decide (x6_2 < (a0.size : Int)) = true := decide_eq_true c5
                clear c5
                (first | rw [c5b0] | (simp only [i64_w, i32_w]; rw [c5b0]) | skip)
                by_cases c6 : 0 ≤ x6_2
                · rw [if_pos c6] at H
                  have c6b0 : decide (0 ≤ x6_2) = true := decide_eq_true c6
                  clear c6
                  by_cases c8 : (bt a0 x6_2) = 32
                  · rw [if_pos c8] at H
                    have c8b0 : ((bt a0 x6_2) == 32) = true := beq_iff_eq.mpr c8
                    have c8b1 : ((bt a0 x6_2) != 32) = false := bne_eq_false_iff_eq.mpr c8
                    clear c8
                    have H' := Aside0.mk H
                    clear H
                    have p7 : 0 ≤ (x6_2 : Int) := of_decide_eq_true (by first | (with_reducible assumption) | assumption)
                    have q7 : x6_2 < (a0.size : Int) := of_decide_eq_true (by first | (with_reducible assumption) | assumption)
                    have hx7 := bt_at a0 x6_2
                    replace p7 := eq_true p7
                    replace q7 := eq_true q7
                    go_wp2
                    go_roundg k2
                    case measure => have := HK1.out; have := HK2.out; omega
                    case rel => exact ⟨(wrap64 (x6_2 + 1)), (by first | rfl | (simp; done) | (simp [*]; done)), H', ⟨by have := HK1.out; have := HK2.out; omega⟩, ⟨by (with_reducible repeat (first | apply Kd.R_alloc | apply Kd.R_drewN | apply Kd.R_drew)); exact HO_4.out⟩, ⟨by (with_reducible repeat (first | refine blk_drewN ?_ _ | refine blk_drew ?_ | refine blk_alloc ?_ _)); exact BK103.out⟩, ⟨by repeat (first | (with_reducible first | exact HB.out | apply below_alloc | apply pw_below_drewN | apply below_drew1 | refine below_set ?_ GE103.out) | exact HB.out)⟩⟩
                  · rw [if_neg c8] at H
                    have c8b0 : ((bt a0 x6_2) == 32) = false := beq_eq_false_iff_ne.mpr c8
                    have c8b1 : ((bt a0 x6_2) != 32) = true := bne_iff_ne.mpr c8
                    have H' := Aside0.mk H
                    clear H
                    have p7 : 0 ≤ (x6_2 : Int) := of_decide_eq_true (by first | (with_reducible assumption) | assumption)
                    have q7 : x6_2 < (a0.size : Int) := of_decide_eq_true (by first | (with_reducible assumption) | assumption)
                    have hx7 := bt_at a0 x6_2
                    replace p7 := eq_true p7
                    replace q7 := eq_true q7
                    go_wp2
                    go_meet
                    case rel => exact ⟨_, (x6_2), (by first | rfl | (simp; done) | (simp [*]; done)), H', ⟨by have := HK1.out; have := HK2.out; first | omega | exact Nat.le_refl _⟩, ⟨by (with_reducible repeat (first | apply Kd.R_alloc | apply Kd.R_drewN | apply Kd.R_drew)); exact HO_4.out⟩, ⟨by (with_reducible repeat (first | refine blk_drewN ?_ _ | refine blk_drew ?_ | refine blk_alloc ?_ _)); exact BK103.out⟩, ⟨by repeat (first | (with_reducible first | exact HB.out | apply below_alloc | apply pw_below_drewN | apply below_drew1 | refine below_set ?_ GE103.out) | exact HB.out)⟩⟩
                · rw [if_neg c6] at H
                  exact absurd H (by simp)
              · rw [if_neg c5] at H
                have c5b0 : decide (x6_2 < (a0.size : Int)) = false := decide_eq_false c5
                clear c5
                (first | rw [c5b0] | (simp only [i64_w, i32_w]; rw [c5b0]) | skip)
                have H' := Aside0.mk H
                clear H
                go_wp2
                go_meet
                case rel => exact ⟨_, (x6_2), (by first | rfl | (simp; done) | (simp [*]; done)), H', ⟨by have := HK1.out; have := HK2.out; first | omega | exact Nat.le_refl _⟩, ⟨by (with_reducible repeat (first | apply Kd.R_alloc | apply Kd.R_drewN | apply Kd.R_drew)); exact HO_4.out⟩, ⟨by (with_reducible repeat (first | refine blk_drewN ?_ _ | refine blk_drew ?_ | refine blk_alloc ?_ _)); exact BK103.out⟩, ⟨by repeat (first | (with_reducible first | exact HB.out | apply below_alloc | apply pw_below_drewN | apply below_drew1 | refine below_set ?_ GE103.out) | exact HB.out)⟩⟩
      case rest =>
        clear HC3
        try clear c1
        try clear p2
        try clear c4
        try clear c5
        try clear c5b0
        try clear c6
        try clear c6b0
        try clear p6
        try clear p7
        try clear q7
        try clear hx7
        try clear c8
        try clear c8b0
        try clear c8b1
        try clear p2
        try clear p7
        try clear q7
        obtain ⟨kq, x6_2, rfl, HA, HJ2, HO_4, BK103, HB⟩ := hcut
        cases kq with
        | zero => exact absurd HA.out (by simp [notation_Parse.j2])
        | succ kj2 =>
          have H := HA.out
          clear HA
          simp only [notation_Parse.j2] at H
          have HC9 := Aside0.mk H
          clear H
          go_upto_region 6 with (fail)
          go_cut [34] (fun v34 wc => ∃ (kq : Nat) (x34_8 : Bool), v34 = .bool x34_8 ∧ Aside0 (notation_Parse.j3 kq a0 x4_1 x6_2 x34_8 = some (r1, r2, r3)) ∧ Aside0 (kq ≤ kj2) ∧ Aside0 (Kd.R k49 49 wc w.heap.size (fun _ => True) u4 x4_1) ∧ Aside0 (wc.heap[gb103]? = some (.cells #[.int .i64 x104000_1, .int .i64 x104001_1] 26 (0, 0))) ∧ Aside0 (Below w.heap.size w wc))
          case first =>
            have H := HC9.out
            clear HC9
            by_cases c10 : x6_2 = (a0.size : Int)
            · rw [if_pos c10] at H
              have c10b0 : (x6_2 == (a0.size : Int)) = true := beq_iff_eq.mpr c10
              have c10b1 : (x6_2 != (a0.size : Int)) = false := bne_eq_false_iff_eq.mpr c10
              clear c10
              (first | rw [c10b0] | (simp only [i64_w, i32_w]; rw [c10b0]) | skip)
              have H' := Aside0.mk H
              clear H
              go_wp2
              go_meet
              case rel => exact ⟨_, (!x7_1), (by first | rfl | (simp; done) | (simp [*]; done)), H', ⟨by have := HK1.out; have := HJ2.out; first | omega | exact Nat.le_refl _⟩, ⟨by (with_reducible repeat (first | apply Kd.R_alloc | apply Kd.R_drewN | apply Kd.R_drew)); exact HO_4.out⟩, ⟨by (with_reducible repeat (first | refine blk_drewN ?_ _ | refine blk_drew ?_ | refine blk_alloc ?_ _)); exact BK103.out⟩, ⟨by repeat (first | (with_reducible first | exact HB.out | apply below_alloc | apply pw_below_drewN | apply below_drew1 | refine below_set ?_ GE103.out) | exact HB.out)⟩⟩
            · rw [if_neg c10] at H
              have c10b0 : (x6_2 == (a0.size : Int)) = false := beq_eq_false_iff_ne.mpr c10
              have c10b1 : (x6_2 != (a0.size : Int)) = true := bne_iff_ne.mpr c10
              (first | rw [c10b0] | (simp only [i64_w, i32_w]; rw [c10b0]) | skip)
              have H' := Aside0.mk H
              clear H
              go_wp2
              go_meet
              case rel => exact ⟨_, (false), (by first | rfl | (simp; done) | (simp [*]; done)), H', ⟨by have := HK1.out; have := HJ2.out; first | omega | exact Nat.le_refl _⟩, ⟨by (with_reducible repeat (first | apply Kd.R_alloc | apply Kd.R_drewN | apply Kd.R_drew)); exact HO_4.out⟩, ⟨by (with_reducible repeat (first | refine blk_drewN ?_ _ | refine blk_drew ?_ | refine blk_alloc ?_ _)); exact BK103.out⟩, ⟨by repeat (first | (with_reducible first | exact HB.out | apply below_alloc | apply pw_below_drewN | apply below_drew1 | refine below_set ?_ GE103.out) | exact HB.out)⟩⟩
          case rest =>
            clear HC9
            try clear c1
            try clear p2
            try clear c4
            try clear c5
            try clear c5b0
            try clear c6
            try clear c6b0
            try clear p6
            try clear p7
            try clear q7
            try clear hx7
            try clear c8
            try clear c8b0
            try clear c8b1
            try clear c10
            try clear c10b0
            try clear c10b1
            try clear p2
            try clear p6
            try clear p7
            try clear q7
            obtain ⟨kq, x34_8, rfl, HA, HJ8, HO_4, BK103, HB⟩ := hcut
            cases kq with
            | zero => exact absurd HA.out (by simp [notation_Parse.j3])
            | succ kj8 =>
              have H := HA.out
              clear HA
              simp only [notation_Parse.j3] at H
              by_cases c11 : x34_8 = true
              · subst c11
                have H1 : (some (x4_1, 0, 0)) = some (r1, r2, r3) := by rw [if_pos rfl] at H; exact H
                clear H
                have H := H1
                clear H1
                simp only [Option.some.injEq, Prod.mk.injEq] at H
                obtain ⟨rfl, rfl, rfl⟩ := H
                have hcz12_0 : wc.cell? ⟨gb103, 0, none⟩ = some (.int .i64 x104000_1) := (blk_cell BK103.out 0).trans rfl
                have hcz12_1 : wc.cell? ⟨gb103, 1, none⟩ = some (.int .i64 x104001_1) := (blk_cell BK103.out 1).trans rfl
                have hfz12_0 := blk_frozen BK103.out 0
                have hfz12_1 := blk_frozen BK103.out 1
                go_wp2
                (try (simp only [Exit.noGoto]; go_big_open)); refine bodyPost_ret (results_tc rfl _ _ gb103 26 #[.int .i64 0, .int .i64 0] (0, 0) _ rfl (by (with_reducible repeat (first | refine blk_drewN ?_ _ | refine blk_drew ?_ | refine blk_alloc ?_ _)); refine blk_put (cs := #[.int .i64 0, .int .i64 x104001_1]) ?_ 1 _ rfl; (with_reducible repeat (first | refine blk_drewN ?_ _ | refine blk_drew ?_ | refine blk_alloc ?_ _)); refine blk_put (cs := #[.int .i64 x104000_1, .int .i64 x104001_1]) ?_ 0 _ rfl; (with_reducible repeat (first | refine blk_drewN ?_ _ | refine blk_drew ?_ | refine blk_alloc ?_ _)); exact BK103.out) Try.underlying26 rfl (by kernel_rfl)) rfl ?_
                exact ⟨_, by first | rfl | (simp [errW_none, errW_some] <;> rfl) | (simp [*, errW_none, errW_some] <;> rfl), by (with_reducible repeat (first | apply Kd.R_alloc | apply Kd.R_drewN | apply Kd.R_drew)); exact Kd.R_mono (Kd.R_far (p := ⟨gb103, 1, none⟩) (Kd.R_far (p := ⟨gb103, 0, none⟩) (Kd.R_types HO_4.out BK103.out (by decide)) (fun _ hk => hk.2) (.int .i64 0)) (fun _ hk => hk.2) (.int .i64 0)) (fun _ hk => trivial), by repeat (first | (with_reducible first | exact HB.out | apply below_alloc | apply pw_below_drewN | apply below_drew1 | refine below_set ?_ GE103.out) | exact HB.out)⟩
              · replace c11 := Bool.eq_false_iff.mpr c11
                subst c11
                have H1 : (if x6_2 = (a0.size : Int) then (notation_Parse.j4 kj8 a0 x4_1 x6_2 true) else (if 0 ≤ x6_2 then (if x6_2 < (a0.size : Int) then ((notation_letter.f (bt a0 x6_2)).bind fun t104 => (notation_Parse.j4 kj8 a0 x4_1 x6_2 (!t104))) else (none)) else (none))) = some (r1, r2, r3) := by rw [if_neg (show ¬ (false = true) by decide)] at H; exact H
                clear H
                have H := H1
                clear H1
                have HC13 := Aside0.mk H
                clear H
                go_upto_region 8 with (fail)
                go_cut [47] (fun v47 wc => ∃ (kq : Nat) (x47_12 : Bool), v47 = .bool x47_12 ∧ Aside0 (notation_Parse.j4 kq a0 x4_1 x6_2 x47_12 = some (r1, r2, r3)) ∧ Aside0 (kq ≤ kj8) ∧ Aside0 (Kd.R k49 49 wc w.heap.size (fun _ => True) u4 x4_1) ∧ Aside0 (wc.heap[gb103]? = some (.cells #[.int .i64 x104000_1, .int .i64 x104001_1] 26 (0, 0))) ∧ Aside0 (Below w.heap.size w wc))
                case first =>
                  have H := HC13.out
                  clear HC13
                  by_cases c14 : x6_2 = (a0.size : Int)
                  · rw [if_pos c14] at H
                    have c14b0 : (x6_2 == (a0.size : Int)) = true := beq_iff_eq.mpr c14
                    have c14b1 : (x6_2 != (a0.size : Int)) = false := bne_eq_false_iff_eq.mpr c14
                    clear c14
                    (first | rw [c14b0] | (simp only [i64_w, i32_w]; rw [c14b0]) | skip)
                    have H' := Aside0.mk H
                    clear H
                    go_wp2
                    go_meet
                    case rel => exact ⟨_, (true), (by first | rfl | (simp; done) | (simp [*]; done)), H', ⟨by have := HK1.out; have := HJ2.out; have := HJ8.out; first | omega | exact Nat.le_refl _⟩, ⟨by (with_reducible repeat (first | apply Kd.R_alloc | apply Kd.R_drewN | apply Kd.R_drew)); exact HO_4.out⟩, ⟨by (with_reducible repeat (first | refine blk_drewN ?_ _ | refine blk_drew ?_ | refine blk_alloc ?_ _)); exact BK103.out⟩, ⟨by repeat (first | (with_reducible first | exact HB.out | apply below_alloc | apply pw_below_drewN | apply below_drew1 | refine below_set ?_ GE103.out) | exact HB.out)⟩⟩
                  · rw [if_neg c14] at H
                    have c14b0 : (x6_2 == (a0.size : Int)) = false := beq_eq_false_iff_ne.mpr c14
                    have c14b1 : (x6_2 != (a0.size : Int)) = true := bne_iff_ne.mpr c14
                    (first | rw [c14b0] | (simp only [i64_w, i32_w]; rw [c14b0]) | skip)
                    by_cases c15 : 0 ≤ x6_2
                    · rw [if_pos c15] at H
                      have c15b0 : decide (0 ≤ x6_2) = true := decide_eq_true c15
                      clear c15
                      by_cases c16 : x6_2 < (a0.size : Int)
                      · rw [if_pos c16] at H
                        have c16b0 : decide (x6_2 < (a0.size : Int)) = true := decide_eq_true c16
                        clear c16
                        replace H := Option.bind_eq_some_iff.mp H
                        obtain ⟨t104, A180, H⟩ := H
                        replace H : (notation_Parse.j4 kj8 a0 x4_1 x6_2 (!t104)) = some (r1, r2, r3) := H
                        have A18 := Aside0.mk A180
                        clear A180
                        have H' := Aside0.mk H
                        clear H
                        have p17 : 0 ≤ (x6_2 : Int) := of_decide_eq_true (by first | (with_reducible assumption) | assumption)
                        have q17 : x6_2 < (a0.size : Int) := of_decide_eq_true (by first | (with_reducible assumption) | assumption)
                        have hx17 := bt_at a0 x6_2
                        replace p17 := eq_true p17
                        replace q17 := eq_true q17
                        go_wp2_with (first | (go_at_call 26; (with_reducible refine (notation_letter.calls (bt a0 x6_2) t104 _ A18.out).mono ?_); rintro e w' ⟨rfl, ⟨nd, rfl⟩⟩))
                        go_meet
                        case rel => exact ⟨_, (!t104), (by first | rfl | (simp; done) | (simp [*]; done)), H', ⟨by have := HK1.out; have := HJ2.out; have := HJ8.out; first | omega | exact Nat.le_refl _⟩, ⟨by (with_reducible repeat (first | apply Kd.R_alloc | apply Kd.R_drewN | apply Kd.R_drew)); exact HO_4.out⟩, ⟨by (with_reducible repeat (first | refine blk_drewN ?_ _ | refine blk_drew ?_ | refine blk_alloc ?_ _)); exact BK103.out⟩, ⟨by repeat (first | (with_reducible first | exact HB.out | apply below_alloc | apply pw_below_drewN | apply below_drew1 | refine below_set ?_ GE103.out) | exact HB.out)⟩⟩
                      · rw [if_neg c16] at H
                        exact absurd H (by simp)
                    · rw [if_neg c15] at H
                      exact absurd H (by simp)
                case rest =>
                  clear HC13
                  try clear c1
                  try clear p1
                  try clear q1
                  try clear hx1
                  try clear p2
                  try clear c4
                  try clear c5
                  try clear c5b0
                  try clear c6
                  try clear c6b0
                  try clear p6
                  try clear p7
                  try clear q7
                  try clear hx7
                  try clear c8
                  try clear c8b0
                  try clear c8b1
                  try clear c10
                  try clear c10b0
                  try clear c10b1
                  try clear c11
                  try clear c14
                  try clear c14b0
                  try clear c14b1
                  try clear c15
                  try clear c15b0
                  try clear c16
                  try clear c16b0
                  try clear p17
                  try clear q17
                  try clear hx17
                  try clear hcz12_0
                  try clear hcz12_1
                  try clear hfz12_0
                  try clear hfz12_1
                  try clear p17
                  try clear p2
                  try clear p6
                  try clear p7
                  try clear q17
                  try clear q7
                  obtain ⟨kq, x47_12, rfl, HA, HJ12, HO_4, BK103, HB⟩ := hcut
                  cases kq with
                  | zero => exact absurd HA.out (by simp [notation_Parse.j4])
                  | succ kj12 =>
                    have H := HA.out
                    clear HA
                    simp only [notation_Parse.j4] at H
                    by_cases c19 : x47_12 = true
                    · subst c19
                      have H1 : ((notation_Parse_1.f 2 x6_2).bind fun bt105 => (some (bt105.1, bt105.2.1, bt105.2.2))) = some (r1, r2, r3) := by rw [if_pos rfl] at H; exact H
                      clear H
                      have H := H1
                      clear H1
                      replace H := Option.bind_eq_some_iff.mp H
                      obtain ⟨⟨t105, t108, t109⟩, A200, H⟩ := H
                      replace H : (some (t105, t108, t109)) = some (r1, r2, r3) := H
                      have A20 := Aside0.mk A200
                      clear A200
                      simp only [Option.some.injEq, Prod.mk.injEq] at H
                      obtain ⟨rfl, rfl, rfl⟩ := H
                      go_wp2_with (first | ((with_reducible refine gate_tmp (x := 48) rfl ?_); refine goesT_ 48 (some 50) (by rfl) rfl rfl Try.func25 (by kernel_rfl) rfl #[.int .i64 2, .int .i64 x6_2] rfl (by (try simp only [List.map_toArray, List.map_cons, List.map_nil]); first | done | rfl | (simp only [List.length_drop, List.length_take]; rfl)) ?_; (with_reducible refine (notation_Parse_1.calls 2 x6_2 t105 t108 t109 _ A20.out).mono ?_); rintro e w21 ⟨v106, rfl, ho0, hb⟩; refine ⟨_, rfl, ?_⟩; have n0_ := Aside0.mk (Kd.R_elder' (by (with_reducible repeat (first | apply Kd.R_alloc | apply Kd.R_drewN | apply Kd.R_drew)); exact HO_4.out) (Kd.R_base ho0) hb); have n1_ := Aside0.mk (Kd.R_lower (Kd.R_new' ho0 (Kd.R_lt (by (with_reducible repeat (first | apply Kd.R_alloc | apply Kd.R_drewN | apply Kd.R_drew)); exact HO_4.out))) (below_size (by repeat (first | (with_reducible first | exact HB.out | apply below_alloc | apply pw_below_drewN | apply below_drew1 | refine below_set ?_ GE103.out) | exact HB.out)))); have n2_ := Aside0.mk (blk_below (g := gb103) (o := .cells #[.int .i64 x104000_1, .int .i64 x104001_1] 26 (0, 0)) (by (with_reducible repeat (first | refine blk_drewN ?_ _ | refine blk_drew ?_ | refine blk_alloc ?_ _)); exact BK103.out) hb); have n3_ := Aside0.mk (below_step (by repeat (first | (with_reducible first | exact HB.out | apply below_alloc | apply pw_below_drewN | apply below_drew1 | refine below_set ?_ GE103.out) | exact HB.out)) hb); clear HO_4; clear BK103; clear HB; have HO_4 := n0_; have HO107 := n1_; have BK103 := n2_; have HB := n3_; clear n0_ n1_ n2_ n3_; (try clear hb); (try clear hb2); (try clear hk); (try clear hi); (try clear ho0); have hcz22_0 : w21.cell? ⟨gb103, 0, none⟩ = some (.int .i64 x104000_1) := (blk_cell BK103.out 0).trans rfl; have hcz22_1 : w21.cell? ⟨gb103, 1, none⟩ = some (.int .i64 x104001_1) := (blk_cell BK103.out 1).trans rfl; have hfz22_0 := blk_frozen BK103.out 0; have hfz22_1 := blk_frozen BK103.out 1))
                      (try (simp only [Exit.noGoto]; go_big_open)); refine bodyPost_ret (results_tc rfl _ _ gb103 26 #[.int .i64 t108, .int .i64 t109] (0, 0) _ rfl (by (with_reducible repeat (first | refine blk_drewN ?_ _ | refine blk_drew ?_ | refine blk_alloc ?_ _)); refine blk_put (cs := #[.int .i64 t108, .int .i64 x104001_1]) ?_ 1 _ rfl; (with_reducible repeat (first | refine blk_drewN ?_ _ | refine blk_drew ?_ | refine blk_alloc ?_ _)); refine blk_put (cs := #[.int .i64 x104000_1, .int .i64 x104001_1]) ?_ 0 _ rfl; (with_reducible repeat (first | refine blk_drewN ?_ _ | refine blk_drew ?_ | refine blk_alloc ?_ _)); exact BK103.out) Try.underlying26 rfl (by kernel_rfl)) rfl ?_
                      exact ⟨_, by first | rfl | (simp [errW_none, errW_some] <;> rfl) | (simp [*, errW_none, errW_some] <;> rfl), by (with_reducible repeat (first | apply Kd.R_alloc | apply Kd.R_drewN | apply Kd.R_drew)); exact Kd.R_mono (Kd.R_far (p := ⟨gb103, 1, none⟩) (Kd.R_far (p := ⟨gb103, 0, none⟩) (Kd.R_types HO107.out BK103.out (by decide)) (fun _ hk => hk.2) (.int .i64 t108)) (fun _ hk => hk.2) (.int .i64 t109)) (fun _ hk => trivial), by repeat (first | (with_reducible first | exact HB.out | apply below_alloc | apply pw_below_drewN | apply below_drew1 | refine below_set ?_ GE103.out) | exact HB.out)⟩
                    · replace c19 := Bool.eq_false_iff.mpr c19
                      subst c19
                      have H1 : (if (x4_1.length : Int) = 30 then ((notation_Parse_1.f 6 x6_2).bind fun bt110 => (some (bt110.1, bt110.2.1, bt110.2.2))) else (notation_Parse.l2 kj12 a0 x4_1 x6_2 x6_2)) = some (r1, r2, r3) := by rw [if_neg (show ¬ (false = true) by decide)] at H; exact H
                      clear H
                      have H := H1
                      clear H1
                      by_cases c23 : (x4_1.length : Int) = 30
                      · rw [if_pos c23] at H
                        have c23b0 : ((x4_1.length : Int) == 30) = true := beq_iff_eq.mpr c23
                        have c23b1 : ((x4_1.length : Int) != 30) = false := bne_eq_false_iff_eq.mpr c23
                        clear c23
                        replace H := Option.bind_eq_some_iff.mp H
                        obtain ⟨⟨t110, t113, t114⟩, A240, H⟩ := H
                        replace H : (some (t110, t113, t114)) = some (r1, r2, r3) := H
                        have A24 := Aside0.mk A240
                        clear A240
                        simp only [Option.some.injEq, Prod.mk.injEq] at H
                        obtain ⟨rfl, rfl, rfl⟩ := H
                        obtain ⟨Ao25, co25, eo25⟩ := Kd.R_slice HO_4.out
                        subst eo25
                        go_wp2_with (first | ((with_reducible refine gate_tmp (x := 56) rfl ?_); refine goesT_ 56 (some 58) (by rfl) rfl rfl Try.func25 (by kernel_rfl) rfl #[.int .i64 6, .int .i64 x6_2] rfl (by (try simp only [List.map_toArray, List.map_cons, List.map_nil]); first | done | rfl | (simp only [List.length_drop, List.length_take]; rfl)) ?_; (with_reducible refine (notation_Parse_1.calls 6 x6_2 t110 t113 t114 _ A24.out).mono ?_); rintro e w26 ⟨v111, rfl, ho0, hb⟩; refine ⟨_, rfl, ?_⟩; have n0_ := Aside0.mk (Kd.R_elder' (by (with_reducible repeat (first | apply Kd.R_alloc | apply Kd.R_drewN | apply Kd.R_drew)); exact HO_4.out) (Kd.R_base ho0) hb); have n1_ := Aside0.mk (Kd.R_lower (Kd.R_new' ho0 (Kd.R_lt (by (with_reducible repeat (first | apply Kd.R_alloc | apply Kd.R_drewN | apply Kd.R_drew)); exact HO_4.out))) (below_size (by repeat (first | (with_reducible first | exact HB.out | apply below_alloc | apply pw_below_drewN | apply below_drew1 | refine below_set ?_ GE103.out) | exact HB.out)))); have n2_ := Aside0.mk (blk_below (g := gb103) (o := .cells #[.int .i64 x104000_1, .int .i64 x104001_1] 26 (0, 0)) (by (with_reducible repeat (first | refine blk_drewN ?_ _ | refine blk_drew ?_ | refine blk_alloc ?_ _)); exact BK103.out) hb); have n3_ := Aside0.mk (below_step (by repeat (first | (with_reducible first | exact HB.out | apply below_alloc | apply pw_below_drewN | apply below_drew1 | refine below_set ?_ GE103.out) | exact HB.out)) hb); clear HO_4; clear BK103; clear HB; have HO_4 := n0_; have HO112 := n1_; have BK103 := n2_; have HB := n3_; clear n0_ n1_ n2_ n3_; (try clear hb); (try clear hb2); (try clear hk); (try clear hi); (try clear ho0); have hcz27_0 : w26.cell? ⟨gb103, 0, none⟩ = some (.int .i64 x104000_1) := (blk_cell BK103.out 0).trans rfl; have hcz27_1 : w26.cell? ⟨gb103, 1, none⟩ = some (.int .i64 x104001_1) := (blk_cell BK103.out 1).trans rfl; have hfz27_0 := blk_frozen BK103.out 0; have hfz27_1 := blk_frozen BK103.out 1))
                        (try (simp only [Exit.noGoto]; go_big_open)); refine bodyPost_ret (results_tc rfl _ _ gb103 26 #[.int .i64 t113, .int .i64 t114] (0, 0) _ rfl (by (with_reducible repeat (first | refine blk_drewN ?_ _ | refine blk_drew ?_ | refine blk_alloc ?_ _)); refine blk_put (cs := #[.int .i64 t113, .int .i64 x104001_1]) ?_ 1 _ rfl; (with_reducible repeat (first | refine blk_drewN ?_ _ | refine blk_drew ?_ | refine blk_alloc ?_ _)); refine blk_put (cs := #[.int .i64 x104000_1, .int .i64 x104001_1]) ?_ 0 _ rfl; (with_reducible repeat (first | refine blk_drewN ?_ _ | refine blk_drew ?_ | refine blk_alloc ?_ _)); exact BK103.out) Try.underlying26 rfl (by kernel_rfl)) rfl ?_
                        exact ⟨_, by first | rfl | (simp [errW_none, errW_some] <;> rfl) | (simp [*, errW_none, errW_some] <;> rfl), by (with_reducible repeat (first | apply Kd.R_alloc | apply Kd.R_drewN | apply Kd.R_drew)); exact Kd.R_mono (Kd.R_far (p := ⟨gb103, 1, none⟩) (Kd.R_far (p := ⟨gb103, 0, none⟩) (Kd.R_types HO112.out BK103.out (by decide)) (fun _ hk => hk.2) (.int .i64 t113)) (fun _ hk => hk.2) (.int .i64 t114)) (fun _ hk => trivial), by repeat (first | (with_reducible first | exact HB.out | apply below_alloc | apply pw_below_drewN | apply below_drew1 | refine below_set ?_ GE103.out) | exact HB.out)⟩
                      · rw [if_neg c23] at H
                        have c23b0 : ((x4_1.length : Int) == 30) = false := beq_eq_false_iff_ne.mpr c23
                        have c23b1 : ((x4_1.length : Int) != 30) = true := bne_iff_ne.mpr c23
                        have HC28 := Aside0.mk H
                        clear H
                        obtain ⟨Ao29, co29, eo29⟩ := Kd.R_slice HO_4.out
                        subst eo29
                        go_upto_block 4 with (fail)
                        go_cut [6] (fun v6 wc => ∃ (kq : Nat) (x6_27 : Int), v6 = .int .i64 x6_27 ∧ Aside0 (notation_Parse.j6 kq a0 x4_1 x6_27 x6_2 = some (r1, r2, r3)) ∧ Aside0 (kq ≤ kj12) ∧ Aside0 (Kd.R k49 49 wc w.heap.size (fun _ => True) (.slice Ao29 x4_1.length co29) x4_1) ∧ Aside0 (wc.heap[gb103]? = some (.cells #[.int .i64 x104000_1, .int .i64 x104001_1] 26 (0, 0))) ∧ Aside0 (Below w.heap.size w wc))
                        case first =>
                          have H := HC28.out
                          clear HC28
                          have H' := Aside0.mk H
                          clear H
                          go_wp2
                          go_loopg [6] kj12 (fun kq v6 w' => ∃ (x6_5 : Int), v6 = .int .i64 x6_5 ∧ Aside0 (notation_Parse.l2 kq a0 x4_1 x6_5 x6_2 = some (r1, r2, r3)) ∧ Aside0 (kq ≤ kj12) ∧ Aside0 (Kd.R k49 49 w' w.heap.size (fun _ => True) (.slice Ao29 x4_1.length co29) x4_1) ∧ Aside0 (w'.heap[gb103]? = some (.cells #[.int .i64 x104000_1, .int .i64 x104001_1] 26 (0, 0))) ∧ Aside0 (Below w.heap.size w w'))
                          case atStart => exact ⟨(x6_2), (by first | rfl | (simp; done) | (simp [*]; done)), H', ⟨Nat.le_refl _⟩, ⟨by (with_reducible repeat (first | apply Kd.R_alloc | apply Kd.R_drewN | apply Kd.R_drew)); exact HO_4.out⟩, ⟨by (with_reducible repeat (first | refine blk_drewN ?_ _ | refine blk_drew ?_ | refine blk_alloc ?_ _)); exact BK103.out⟩, ⟨by repeat (first | (with_reducible first | exact HB.out | apply below_alloc | apply pw_below_drewN | apply below_drew1 | refine below_set ?_ GE103.out) | exact HB.out)⟩⟩
                          case round =>
                            clear H'
                            try clear c1
                            try clear p1
                            try clear q1
                            try clear hx1
                            try clear c2
                            try clear p2
                            try clear c4
                            try clear c5
                            try clear c5b0
                            try clear c6
                            try clear c6b0
                            try clear p6
                            try clear p7
                            try clear q7
                            try clear hx7
                            try clear c8
                            try clear c8b0
                            try clear c8b1
                            try clear c10
                            try clear c10b0
                            try clear c10b1
                            try clear c11
                            try clear c14
                            try clear c14b0
                            try clear c14b1
                            try clear c15
                            try clear c15b0
                            try clear c16
                            try clear c16b0
                            try clear p17
                            try clear q17
                            try clear hx17
                            try clear c19
                            try clear c23
                            try clear c23b0
                            try clear c23b1
                            try clear c25
                            try clear hcz12_0
                            try clear hcz12_1
                            try clear hcz22_0
                            try clear hcz22_1
                            try clear hcz27_0
                            try clear hcz27_1
                            try clear hfz12_0
                            try clear hfz12_1
                            try clear hfz22_0
                            try clear hfz22_1
                            try clear hfz27_0
                            try clear hfz27_1
                            try clear p1
                            try clear p17
                            try clear p2
                            try clear p6
                            try clear p7
                            try clear q1
                            try clear q17
                            try clear q7
                            obtain ⟨x6_5, rfl, HA, HK5, HO_4, BK103, HB⟩ := hrel
                            cases gk with
                            | zero => exact absurd HA.out (by simp [notation_Parse.l2])
                            | succ k5 =>
                              have H := HA.out
                              clear HA
                              simp only [notation_Parse.l2] at H
                              by_cases c30 : x6_5 < (a0.size : Int)
                              · rw [if_pos c30] at H
                                have c30b0 : decide (x6_5 < (a0.size : Int)) = true := decide_eq_true c30
                                clear c30
                                (first | rw [c30b0] | (simp only [i64_w, i32_w]; rw [c30b0]) | skip)
                                by_cases c31 : 0 ≤ x6_5
                                · rw [if_pos c31] at H
                                  have c31b0 : decide (0 ≤ x6_5) = true := decide_eq_true c31
                                  clear c31
                                  replace H := Option.bind_eq_some_iff.mp H
                                  obtain ⟨t115, A330, H⟩ := H
                                  replace H : (if t115 = true then (notation_Parse.l2 k5 a0 x4_1 (wrap64 (x6_5 + 1)) x6_2) else (notation_Parse.j6 k5 a0 x4_1 x6_5 x6_2)) = some (r1, r2, r3) := H
                                  have A33 := Aside0.mk A330
                                  clear A330
                                  by_cases c34 : t115 = true
                                  · subst c34
                                    have H1 : (notation_Parse.l2 k5 a0 x4_1 (wrap64 (x6_5 + 1)) x6_2) = some (r1, r2, r3) := by rw [if_pos rfl] at H; exact H
                                    clear H
                                    have H := H1
                                    clear H1
                                    have H' := Aside0.mk H
                                    clear H
                                    have p32 : 0 ≤ (x6_5 : Int) := of_decide_eq_true (by first | (with_reducible assumption) | assumption)
                                    have q32 : x6_5 < (a0.size : Int) := of_decide_eq_true (by first | (with_reducible assumption) | assumption)
                                    have hx32 := bt_at a0 x6_5
                                    replace p32 := eq_true p32
                                    replace q32 := eq_true q32
                                    go_wp2_with (first | (go_at_call 26; (with_reducible refine (notation_letter.calls (bt a0 x6_5) true _ A33.out).mono ?_); rintro e w' ⟨rfl, ⟨nd, rfl⟩⟩))
                                    go_roundg k5
                                    case measure => have := HK1.out; have := HJ2.out; have := HJ8.out; have := HJ12.out; have := HK5.out; omega
                                    case rel => exact ⟨(wrap64 (x6_5 + 1)), (by first | rfl | (simp; done) | (simp [*]; done)), H', ⟨by have := HK1.out; have := HJ2.out; have := HJ8.out; have := HJ12.out; have := HK5.out; omega⟩, ⟨by (with_reducible repeat (first | apply Kd.R_alloc | apply Kd.R_drewN | apply Kd.R_drew)); exact HO_4.out⟩, ⟨by (with_reducible repeat (first | refine blk_drewN ?_ _ | refine blk_drew ?_ | refine blk_alloc ?_ _)); exact BK103.out⟩, ⟨by repeat (first | (with_reducible first | exact HB.out | apply below_alloc | apply pw_below_drewN | apply below_drew1 | refine below_set ?_ GE103.out) | exact HB.out)⟩⟩
                                  · replace c34 := Bool.eq_false_iff.mpr c34
                                    subst c34
                                    have H1 : (notation_Parse.j6 k5 a0 x4_1 x6_5 x6_2) = some (r1, r2, r3) := by rw [if_neg (show ¬ (false = true) by decide)] at H; exact H
                                    clear H
                                    have H := H1
                                    clear H1
                                    have H' := Aside0.mk H
                                    clear H
                                    have p32 : 0 ≤ (x6_5 : Int) := of_decide_eq_true (by first | (with_reducible assumption) | assumption)
                                    have q32 : x6_5 < (a0.size : Int) := of_decide_eq_true (by first | (with_reducible assumption) | assumption)
                                    have hx32 := bt_at a0 x6_5
                                    replace p32 := eq_true p32
                                    replace q32 := eq_true q32
                                    go_wp2_with (first | (go_at_call 26; (with_reducible refine (notation_letter.calls (bt a0 x6_5) false _ A33.out).mono ?_); rintro e w' ⟨rfl, ⟨nd, rfl⟩⟩))
                                    go_meet
                                    case rel => exact ⟨_, (x6_5), (by first | rfl | (simp; done) | (simp [*]; done)), H', ⟨by have := HK1.out; have := HJ2.out; have := HJ8.out; have := HJ12.out; have := HK5.out; first | omega | exact Nat.le_refl _⟩, ⟨by (with_reducible repeat (first | apply Kd.R_alloc | apply Kd.R_drewN | apply Kd.R_drew)); exact HO_4.out⟩, ⟨by (with_reducible repeat (first | refine blk_drewN ?_ _ | refine blk_drew ?_ | refine blk_alloc ?_ _)); exact BK103.out⟩, ⟨by repeat (first | (with_reducible first | exact HB.out | apply below_alloc | apply pw_below_drewN | apply below_drew1 | refine below_set ?_ GE103.out) | exact HB.out)⟩⟩
                                · rw [if_neg c31] at H
                                  exact absurd H (by simp)
                              · rw [if_neg c30] at H
                                have c30b0 : decide (x6_5 < (a0.size : Int)) = false := decide_eq_false c30
                                clear c30
                                (first | rw [c30b0] | (simp only [i64_w, i32_w]; rw [c30b0]) | skip)
                                have H' := Aside0.mk H
                                clear H
                                go_wp2
                                go_meet
                                case rel => exact ⟨_, (x6_5), (by first | rfl | (simp; done) | (simp [*]; done)), H', ⟨by have := HK1.out; have := HJ2.out; have := HJ8.out; have := HJ12.out; have := HK5.out; first | omega | exact Nat.le_refl _⟩, ⟨by (with_reducible repeat (first | apply Kd.R_alloc | apply Kd.R_drewN | apply Kd.R_drew)); exact HO_4.out⟩, ⟨by (with_reducible repeat (first | refine blk_drewN ?_ _ | refine blk_drew ?_ | refine blk_alloc ?_ _)); exact BK103.out⟩, ⟨by repeat (first | (with_reducible first | exact HB.out | apply below_alloc | apply pw_below_drewN | apply below_drew1 | refine below_set ?_ GE103.out) | exact HB.out)⟩⟩
                        case rest =>
                          clear HC28
                          try clear c1
                          try clear p1
                          try clear q1
                          try clear hx1
                          try clear c2
                          try clear p2
                          try clear c3
                          try clear p3
                          try clear q3
                          try clear hx3
                          try clear c4
                          try clear c5
                          try clear c5b0
                          try clear c6
                          try clear c6b0
                          try clear p6
                          try clear p7
                          try clear q7
                          try clear hx7
                          try clear c8
                          try clear c8b0
                          try clear c8b1
                          try clear c10
                          try clear c10b0
                          try clear c10b1
                          try clear c11
                          try clear c14
                          try clear c14b0
                          try clear c14b1
                          try clear c15
                          try clear c15b0
                          try clear c16
                          try clear c16b0
                          try clear p17
                          try clear q17
                          try clear hx17
                          try clear c19
                          try clear c23
                          try clear c23b0
                          try clear c23b1
                          try clear c25
                          try clear c30
                          try clear c30b0
                          try clear c31
                          try clear c31b0
                          try clear p32
                          try clear q32
                          try clear hx32
                          try clear c34
                          try clear hcz12_0
                          try clear hcz12_1
                          try clear hcz22_0
                          try clear hcz22_1
                          try clear hcz27_0
                          try clear hcz27_1
                          try clear hfz12_0
                          try clear hfz12_1
                          try clear hfz22_0
                          try clear hfz22_1
                          try clear hfz27_0
                          try clear hfz27_1
                          try clear p1
                          try clear p17
                          try clear p2
                          try clear p32
                          try clear p6
                          try clear p7
                          try clear q1
                          try clear q17
                          try clear q32
                          try clear q7
                          obtain ⟨kq, x6_27, rfl, HA, HJ27, HO_4, BK103, HB⟩ := hcut
                          cases kq with
                          | zero => exact absurd HA.out (by simp [notation_Parse.j6])
                          | succ kj27 =>
                            have H := HA.out
                            clear HA
                            simp only [notation_Parse.j6] at H
                            by_cases c35 : 0 ≤ x6_2
                            · rw [if_pos c35] at H
                              have c35b0 := eq_true c35
                              have c35b1 : decide (0 ≤ x6_2) = true := decide_eq_true c35
                              clear c35
                              by_cases c36 : x6_2 ≤ x6_27
                              · rw [if_pos c36] at H
                                have c36b0 := eq_true c36
                                have c36b1 : decide (x6_2 ≤ x6_27) = true := decide_eq_true c36
                                clear c36
                                by_cases c37 : x6_27 ≤ (a0.size : Int)
                                · rw [if_pos c37] at H
                                  have c37b0 := eq_true c37
                                  have c37b1 : decide (x6_27 ≤ (a0.size : Int)) = true := decide_eq_true c37
                                  clear c37
                                  replace H := Option.bind_eq_some_iff.mp H
                                  obtain ⟨t116, A380, H⟩ := H
                                  replace H : (if t116 = true then (notation_Parse.l3 kj27 a0 x4_1 x6_27 (a0.extract (x6_2 : Int).toNat (x6_27 : Int).toNat) 0 false false false) else ((notation_Parse_1.f 3 x6_2).bind fun bt117 => (some (bt117.1, bt117.2.1, bt117.2.2)))) = some (r1, r2, r3) := H
                                  have A38 := Aside0.mk A380
                                  clear A380
                                  by_cases c39 : t116 = true
                                  · subst c39
                                    have H1 : (notation_Parse.l3 kj27 a0 x4_1 x6_27 (a0.extract (x6_2 : Int).toNat (x6_27 : Int).toNat) 0 false false false) = some (r1, r2, r3) := by rw [if_pos rfl] at H; exact H
                                    clear H
                                    have H := H1
                                    clear H1
                                    have c40b0 := eq_true (of_decide_eq_true (by first | (with_reducible assumption) | assumption) : 0 ≤ x6_2)
                                    have c41b0 := eq_true (of_decide_eq_true (by first | (with_reducible assumption) | assumption) : x6_2 ≤ x6_27)
                                    have c42b0 := eq_true (of_decide_eq_true (by first | (with_reducible assumption) | assumption) : x6_27 ≤ (a0.size : Int))
                                    have H' := Aside0.mk H
                                    clear H
                                    go_wp2_with (first | ((with_reducible refine gate_callee (f := 27) rfl ?_); refine goesL_ (some 78) rfl rfl Try.func27 (by kernel_rfl) rfl #[.string (a0.extract (x6_2 : Int).toNat (x6_27 : Int).toNat)] rfl (by (try simp only [List.map_toArray, List.map_cons, List.map_nil]); first | done | rfl | (simp only [List.length_drop, List.length_take]; rfl)) ?_; (with_reducible refine (ident_Code.calls (a0.extract (x6_2 : Int).toNat (x6_27 : Int).toNat) true _ A38.out).mono ?_); rintro e w43 ⟨rfl, hb⟩; refine ⟨_, rfl, ?_⟩; have n0_ := Aside0.mk (Kd.R_below (by (with_reducible repeat (first | apply Kd.R_alloc | apply Kd.R_drewN | apply Kd.R_drew)); exact HO_4.out) hb); have n1_ := Aside0.mk (blk_below (g := gb103) (o := .cells #[.int .i64 x104000_1, .int .i64 x104001_1] 26 (0, 0)) (by (with_reducible repeat (first | refine blk_drewN ?_ _ | refine blk_drew ?_ | refine blk_alloc ?_ _)); exact BK103.out) hb); have n2_ := Aside0.mk (below_step (by repeat (first | (with_reducible first | exact HB.out | apply below_alloc | apply pw_below_drewN | apply below_drew1 | refine below_set ?_ GE103.out) | exact HB.out)) hb); clear HO_4; clear BK103; clear HB; have HO_4 := n0_; have BK103 := n1_; have HB := n2_; clear n0_ n1_ n2_; (try clear hb); (try clear hb2); (try clear hk); (try clear hi)) | ((with_reducible refine gate_dst (N := 9) rfl ?_); (try (refine gate_guard (by rfl) ?_; dsimp only)); refine box_event ?hg (N := 9) ?hd (cs := #[.string (⟨#[]⟩ : ByteArray), .int .i64 0, .bool false, .bool false, .bool false]) (t := 49) ?hr ?_; (case hd => rfl); (case hg => rfl); (case hr => first | (go_simp; done) | (go_simp; rfl)); intro gb122 hg w44 hbox hb; have n0_ := Aside0.mk (Kd.R_below (Kd.R_elderB (by (with_reducible repeat (first | apply Kd.R_alloc | apply Kd.R_drewN | apply Kd.R_drew)); exact HO_4.out) gb122 (Nat.le_of_eq hg.symm)) hb); have n1_ := Aside0.mk (blk_below (g := gb103) (o := .cells #[.int .i64 x104000_1, .int .i64 x104001_1] 26 (0, 0)) (by (with_reducible repeat (first | refine blk_drewN ?_ _ | refine blk_drew ?_ | refine blk_alloc ?_ _)); exact BK103.out) hb); have n2_ := Aside0.mk (below_step (by repeat (first | (with_reducible first | exact HB.out | apply below_alloc | apply pw_below_drewN | apply below_drew1 | refine below_set ?_ GE103.out) | exact HB.out)) hb); have n3_ := Aside0.mk (hbox); have n4_ := Aside0.mk ((by rw [hg]; exact (below_size (by repeat (first | (with_reducible first | exact HB.out | apply below_alloc | apply pw_below_drewN | apply below_drew1 | refine below_set ?_ GE103.out) | exact HB.out))) : w.heap.size ≤ gb122)); have n5_ := Aside0.mk ((by rw [hg]; exact (below_size (by repeat (first | (with_reducible first | exact HB.out | apply below_alloc | apply pw_below_drewN | apply below_drew1 | refine below_set ?_ GE103.out) | exact HB.out))) : w.heap.size ≤ gb122)); have n6_ := Aside0.mk ((by rw [hg]; exact Nat.ne_of_lt (blk_lt (g := gb103) (o := .cells #[.int .i64 x104000_1, .int .i64 x104001_1] 26 (0, 0)) (by (with_reducible repeat (first | refine blk_drewN ?_ _ | refine blk_drew ?_ | refine blk_alloc ?_ _)); exact BK103.out)) : gb103 ≠ gb122)); have n7_ := Aside0.mk ((by rw [hg]; exact Nat.ne_of_gt (blk_lt (g := gb103) (o := .cells #[.int .i64 x104000_1, .int .i64 x104001_1] 26 (0, 0)) (by (with_reducible repeat (first | refine blk_drewN ?_ _ | refine blk_drew ?_ | refine blk_alloc ?_ _)); exact BK103.out)) : gb122 ≠ gb103)); clear HO_4; clear BK103; clear HB; have HO_4 := n0_; have BK103 := n1_; have HB := n2_; have BK122 := n3_; have GW122 := n4_; have GE122 := n5_; have NB103_122 := n6_; have NB122_103 := n7_; clear n0_ n1_ n2_ n3_ n4_ n5_ n6_ n7_; clear hb hbox hg; have hnb45 := NB122_103.out; have hnc45 := NB103_122.out; have hcz46_0 : w44.cell? ⟨gb122, 0, none⟩ = some (.string (⟨#[]⟩ : ByteArray)) := (blk_cell BK122.out 0).trans rfl; have hcz46_1 : w44.cell? ⟨gb122, 1, none⟩ = some (.int .i64 0) := (blk_cell BK122.out 1).trans rfl; have hcz46_2 : w44.cell? ⟨gb122, 2, none⟩ = some (.bool false) := (blk_cell BK122.out 2).trans rfl; have hcz46_3 : w44.cell? ⟨gb122, 3, none⟩ = some (.bool false) := (blk_cell BK122.out 3).trans rfl; have hcz46_4 : w44.cell? ⟨gb122, 4, none⟩ = some (.bool false) := (blk_cell BK122.out 4).trans rfl; have hfz46_0 := blk_frozen BK122.out 0; have hfz46_1 := blk_frozen BK122.out 1; have hfz46_2 := blk_frozen BK122.out 2; have hfz46_3 := blk_frozen BK122.out 3; have hfz46_4 := blk_frozen BK122.out 4))
                                    go_loopg [4, 6] kj27 (fun kq v4 v6 w' => ∃ (x4_6 : List (S49)) (x6_6 : Int) (x104000_6 : Int) (x104001_6 : Int) (x123001_6 : Int) (x123002_6 : Bool) (x123003_6 : Bool) (x123004_6 : Bool), v6 = .int .i64 x6_6 ∧ Aside0 (notation_Parse.l3 kq a0 x4_6 x6_6 (a0.extract (x6_2 : Int).toNat (x6_27 : Int).toNat) x123001_6 x123002_6 x123003_6 x123004_6 = some (r1, r2, r3)) ∧ Aside0 (kq ≤ kj27) ∧ Aside0 (Kd.R k49 49 w' w.heap.size (fun k_ => k_ ≠ gb122) v4 x4_6) ∧ Aside0 (w'.heap[gb103]? = some (.cells #[.int .i64 x104000_6, .int .i64 x104001_6] 26 (0, 0))) ∧ Aside0 (w'.heap[gb122]? = some (.cells #[.string (a0.extract (x6_2 : Int).toNat (x6_27 : Int).toNat), .int .i64 x123001_6, .bool x123002_6, .bool x123003_6, .bool x123004_6] 49 (0, 0))) ∧ Aside0 (Below w.heap.size w w'))
                                    case atStart => exact ⟨(x4_1), (x6_27), (x104000_1), (x104001_1), (0), (false), (false), (false), (by first | rfl | (simp; done) | (simp [*]; done)), H', ⟨Nat.le_refl _⟩, ⟨by (with_reducible repeat (first | apply Kd.R_alloc | apply Kd.R_drewN | apply Kd.R_drew)); exact Kd.R_mono (Kd.R_far (p := ⟨gb122, 4, none⟩) (Kd.R_far (p := ⟨gb122, 3, none⟩) (Kd.R_far (p := ⟨gb122, 2, none⟩) (Kd.R_far (p := ⟨gb122, 1, none⟩) (Kd.R_far (p := ⟨gb122, 0, none⟩) (Kd.R_mono HO_4.out (fun k_ hk => (⟨hk, hk.2⟩ : _ ∧ k_ ≠ gb122))) (fun _ hk => hk.2) (.string (a0.extract (x6_2 : Int).toNat (x6_27 : Int).toNat))) (fun _ hk => hk.2) (.int .i64 0)) (fun _ hk => hk.2) (.bool false)) (fun _ hk => hk.2) (.bool false)) (fun _ hk => hk.2) (.bool false)) (fun _ hk => hk.1.2)⟩, ⟨by (with_reducible repeat (first | refine blk_drewN ?_ _ | refine blk_drew ?_ | refine blk_alloc ?_ _)); refine blk_far ?_ NB103_122.out _; (with_reducible repeat (first | refine blk_drewN ?_ _ | refine blk_drew ?_ | refine blk_alloc ?_ _)); refine blk_far ?_ NB103_122.out _; (with_reducible repeat (first | refine blk_drewN ?_ _ | refine blk_drew ?_ | refine blk_alloc ?_ _)); refine blk_far ?_ NB103_122.out _; (with_reducible repeat (first | refine blk_drewN ?_ _ | refine blk_drew ?_ | refine blk_alloc ?_ _)); refine blk_far ?_ NB103_122.out _; (with_reducible repeat (first | refine blk_drewN ?_ _ | refine blk_drew ?_ | refine blk_alloc ?_ _)); refine blk_far ?_ NB103_122.out _; (with_reducible repeat (first | refine blk_drewN ?_ _ | refine blk_drew ?_ | refine blk_alloc ?_ _)); exact BK103.out⟩, ⟨by (with_reducible repeat (first | refine blk_drewN ?_ _ | refine blk_drew ?_ | refine blk_alloc ?_ _)); refine blk_put (cs := #[.string (a0.extract (x6_2 : Int).toNat (x6_27 : Int).toNat), .int .i64 0, .bool false, .bool false, .bool false]) ?_ 4 _ rfl; (with_reducible repeat (first | refine blk_drewN ?_ _ | refine blk_drew ?_ | refine blk_alloc ?_ _)); refine blk_put (cs := #[.string (a0.extract (x6_2 : Int).toNat (x6_27 : Int).toNat), .int .i64 0, .bool false, .bool false, .bool false]) ?_ 3 _ rfl; (with_reducible repeat (first | refine blk_drewN ?_ _ | refine blk_drew ?_ | refine blk_alloc ?_ _)); refine blk_put (cs := #[.string (a0.extract (x6_2 : Int).toNat (x6_27 : Int).toNat), .int .i64 0, .bool false, .bool false, .bool false]) ?_ 2 _ rfl; (with_reducible repeat (first | refine blk_drewN ?_ _ | refine blk_drew ?_ | refine blk_alloc ?_ _)); refine blk_put (cs := #[.string (a0.extract (x6_2 : Int).toNat (x6_27 : Int).toNat), .int .i64 0, .bool false, .bool false, .bool false]) ?_ 1 _ rfl; (with_reducible repeat (first | refine blk_drewN ?_ _ | refine blk_drew ?_ | refine blk_alloc ?_ _)); refine blk_put (cs := #[.string (⟨#[]⟩ : ByteArray), .int .i64 0, .bool false, .bool false, .bool false]) ?_ 0 _ rfl; (with_reducible repeat (first | refine blk_drewN ?_ _ | refine blk_drew ?_ | refine blk_alloc ?_ _)); exact BK122.out⟩, ⟨by repeat (first | (with_reducible first | exact HB.out | apply below_alloc | apply pw_below_drewN | apply below_drew1 | refine below_set ?_ GE103.out | refine below_set ?_ GE122.out) | exact HB.out)⟩⟩
                                    case round =>
                                      clear H'
                                      try clear c1
                                      try clear p1
                                      try clear q1
                                      try clear hx1
                                      try clear c2
                                      try clear p2
                                      try clear c3
                                      try clear p3
                                      try clear q3
                                      try clear hx3
                                      try clear c4
                                      try clear c5
                                      try clear c5b0
                                      try clear c6
                                      try clear c6b0
                                      try clear p6
                                      try clear p7
                                      try clear q7
                                      try clear hx7
                                      try clear c8
                                      try clear c8b0
                                      try clear c8b1
                                      try clear c10
                                      try clear c10b0
                                      try clear c10b1
                                      try clear c11
                                      try clear c14
                                      try clear c14b0
                                      try clear c14b1
                                      try clear c15
                                      try clear c15b0
                                      try clear c16
                                      try clear c16b0
                                      try clear p17
                                      try clear q17
                                      try clear hx17
                                      try clear c19
                                      try clear c23
                                      try clear c23b0
                                      try clear c23b1
                                      try clear c25
                                      try clear c27
                                      try clear c30
                                      try clear c30b0
                                      try clear c31
                                      try clear c31b0
                                      try clear p32
                                      try clear q32
                                      try clear hx32
                                      try clear c34
                                      try clear c35
                                      try clear c35b0
                                      try clear c35b1
                                      try clear c36
                                      try clear c36b0
                                      try clear c36b1
                                      try clear c37
                                      try clear c37b0
                                      try clear c37b1
                                      try clear c39
                                      try clear c40
                                      try clear c40b0
                                      try clear c41
                                      try clear c41b0
                                      try clear c42
                                      try clear c42b0
                                      try clear c45
                                      try clear hcz12_0
                                      try clear hcz12_1
                                      try clear hcz22_0
                                      try clear hcz22_1
                                      try clear hcz27_0
                                      try clear hcz27_1
                                      try clear hcz46_0
                                      try clear hcz46_1
                                      try clear hcz46_2
                                      try clear hcz46_3
                                      try clear hcz46_4
                                      try clear hfz12_0
                                      try clear hfz12_1
                                      try clear hfz22_0
                                      try clear hfz22_1
                                      try clear hfz27_0
                                      try clear hfz27_1
                                      try clear hfz46_0
                                      try clear hfz46_1
                                      try clear hfz46_2
                                      try clear hfz46_3
                                      try clear hfz46_4
                                      try clear p1
                                      try clear p17
                                      try clear p2
                                      try clear p3
                                      try clear p32
                                      try clear p6
                                      try clear p7
                                      try clear q1
                                      try clear q17
                                      try clear q3
                                      try clear q32
                                      try clear q7
                                      obtain ⟨x4_6, x6_6, x104000_6, x104001_6, x123001_6, x123002_6, x123003_6, x123004_6, rfl, HA, HK6, HO_4, BK103, BK122, HB⟩ := hrel
                                      cases gk with
                                      | zero => exact absurd HA.out (by simp [notation_Parse.l3])
                                      | succ k6 =>
                                        have H := HA.out
                                        clear HA
                                        simp only [notation_Parse.l3] at H
                                        by_cases c47 : x6_6 < (a0.size : Int)
                                        · rw [if_pos c47] at H
                                          have c47b0 : decide (x6_6 < (a0.size : Int)) = true := decide_eq_true c47
                                          clear c47
                                          by_cases c48 : 0 ≤ x6_6
                                          · rw [if_pos c48] at H
                                            have c48b0 : decide (0 ≤ x6_6) = true := decide_eq_true c48
                                            clear c48
                                            have HC50 := Aside0.mk H
                                            clear H
                                            have p49 : 0 ≤ (x6_6 : Int) := of_decide_eq_true (by first | (with_reducible assumption) | assumption)
                                            have q49 : x6_6 < (a0.size : Int) := of_decide_eq_true (by first | (with_reducible assumption) | assumption)
                                            have hx49 := bt_at a0 x6_6
                                            replace p49 := eq_true p49
                                            replace q49 := eq_true q49
                                            go_upto_region 22 with (fail)
                                            go_cut [104] (fun v104 wc => ∃ (kq : Nat) (x104_49 : Bool), v104 = .bool x104_49 ∧ Aside0 (notation_Parse.j8 kq a0 x4_6 x6_6 (bt a0 x6_6) x104_49 (a0.extract (x6_2 : Int).toNat (x6_27 : Int).toNat) x123001_6 x123002_6 x123003_6 x123004_6 = some (r1, r2, r3)) ∧ Aside0 (kq ≤ k6) ∧ Aside0 (Kd.R k49 49 wc w.heap.size (fun k_ => k_ ≠ gb122) u4 x4_6) ∧ Aside0 (wc.heap[gb103]? = some (.cells #[.int .i64 x104000_6, .int .i64 x104001_6] 26 (0, 0))) ∧ Aside0 (wc.heap[gb122]? = some (.cells #[.string (a0.extract (x6_2 : Int).toNat (x6_27 : Int).toNat), .int .i64 x123001_6, .bool x123002_6, .bool x123003_6, .bool x123004_6] 49 (0, 0))) ∧ Aside0 (Below w.heap.size w wc))
                                            case first =>
                                              have H := HC50.out
                                              clear HC50
                                              by_cases c51 : (bt a0 x6_6) = 60
                                              · rw [if_pos c51] at H
                                                have c51b0 : ((bt a0 x6_6) == 60) = true := beq_iff_eq.mpr c51
                                                have c51b1 : ((bt a0 x6_6) != 60) = false := bne_eq_false_iff_eq.mpr c51
                                                clear c51
                                                (first | rw [c51b0] | (simp only [i64_w, i32_w]; rw [c51b0]) | skip)
                                                have H' := Aside0.mk H
                                                clear H
                                                have hnb52 := NB122_103.out
                                                have hnc52 := NB103_122.out
                                                have hcz53_0 : wr.cell? ⟨gb122, 0, none⟩ = some (.string (a0.extract (x6_2 : Int).toNat (x6_27 : Int).toNat)) := (blk_cell BK122.out 0).trans rfl
                                                have hcz53_1 : wr.cell? ⟨gb122, 1, none⟩ = some (.int .i64 x123001_6) := (blk_cell BK122.out 1).trans rfl
                                                have hcz53_2 : wr.cell? ⟨gb122, 2, none⟩ = some (.bool x123002_6) := (blk_cell BK122.out 2).trans rfl
                                                have hcz53_3 : wr.cell? ⟨gb122, 3, none⟩ = some (.bool x123003_6) := (blk_cell BK122.out 3).trans rfl
                                                have hcz53_4 : wr.cell? ⟨gb122, 4, none⟩ = some (.bool x123004_6) := (blk_cell BK122.out 4).trans rfl
                                                have hfz53_0 := blk_frozen BK122.out 0
                                                have hfz53_1 := blk_frozen BK122.out 1
                                                have hfz53_2 := blk_frozen BK122.out 2
                                                have hfz53_3 := blk_frozen BK122.out 3
                                                have hfz53_4 := blk_frozen BK122.out 4
                                                go_wp2
                                                go_meet
                                                case rel => exact ⟨_, ((x123001_6 == 9)), (by first | rfl | (simp; done) | (simp [*]; done)), H', ⟨by have := HK1.out; have := HJ2.out; have := HJ8.out; have := HJ12.out; have := HJ27.out; have := HK6.out; first | omega | exact Nat.le_refl _⟩, ⟨by (with_reducible repeat (first | apply Kd.R_alloc | apply Kd.R_drewN | apply Kd.R_drew)); exact HO_4.out⟩, ⟨by (with_reducible repeat (first | refine blk_drewN ?_ _ | refine blk_drew ?_ | refine blk_alloc ?_ _)); exact BK103.out⟩, ⟨by (with_reducible repeat (first | refine blk_drewN ?_ _ | refine blk_drew ?_ | refine blk_alloc ?_ _)); exact BK122.out⟩, ⟨by repeat (first | (with_reducible first | exact HB.out | apply below_alloc | apply pw_below_drewN | apply below_drew1 | refine below_set ?_ GE103.out | refine below_set ?_ GE122.out) | exact HB.out)⟩⟩
                                              · rw [if_neg c51] at H
                                                have c51b0 : ((bt a0 x6_6) == 60) = false := beq_eq_false_iff_ne.mpr c51
                                                have c51b1 : ((bt a0 x6_6) != 60) = true := bne_iff_ne.mpr c51
                                                (first | rw [c51b0] | (simp only [i64_w, i32_w]; rw [c51b0]) | skip)
                                                have H' := Aside0.mk H
                                                clear H
                                                go_wp2
                                                go_meet
                                                case rel => exact ⟨_, (false), (by first | rfl | (simp; done) | (simp [*]; done)), H', ⟨by have := HK1.out; have := HJ2.out; have := HJ8.out; have := HJ12.out; have := HJ27.out; have := HK6.out; first | omega | exact Nat.le_refl _⟩, ⟨by (with_reducible repeat (first | apply Kd.R_alloc | apply Kd.R_drewN | apply Kd.R_drew)); exact HO_4.out⟩, ⟨by (with_reducible repeat (first | refine blk_drewN ?_ _ | refine blk_drew ?_ | refine blk_alloc ?_ _)); exact BK103.out⟩, ⟨by (with_reducible repeat (first | refine blk_drewN ?_ _ | refine blk_drew ?_ | refine blk_alloc ?_ _)); exact BK122.out⟩, ⟨by repeat (first | (with_reducible first | exact HB.out | apply below_alloc | apply pw_below_drewN | apply below_drew1 | refine below_set ?_ GE103.out | refine below_set ?_ GE122.out) | exact HB.out)⟩⟩
                                            case rest =>
                                              clear HC50
                                              try clear c1
                                              try clear p1
                                              try clear q1
                                              try clear hx1
                                              try clear c2
                                              try clear p2
                                              try clear c3
                                              try clear p3
                                              try clear q3
                                              try clear hx3
                                              try clear c4
                                              try clear p4
                                              try clear q4
                                              try clear hx4
                                              try clear c5
                                              try clear c5b0
                                              try clear c6
                                              try clear c6b0
                                              try clear p6
                                              try clear p7
                                              try clear q7
                                              try clear hx7
                                              try clear c8
                                              try clear c8b0
                                              try clear c8b1
                                              try clear c10
                                              try clear c10b0
                                              try clear c10b1
                                              try clear c11
                                              try clear c14
                                              try clear c14b0
                                              try clear c14b1
                                              try clear c15
                                              try clear c15b0
                                              try clear c16
                                              try clear c16b0
                                              try clear p17
                                              try clear q17
                                              try clear hx17
                                              try clear c19
                                              try clear c23
                                              try clear c23b0
                                              try clear c23b1
                                              try clear c25
                                              try clear c27
                                              try clear c30
                                              try clear c30b0
                                              try clear c31
                                              try clear c31b0
                                              try clear p32
                                              try clear q32
                                              try clear hx32
                                              try clear c34
                                              try clear c35
                                              try clear c35b0
                                              try clear c35b1
                                              try clear c36
                                              try clear c36b0
                                              try clear c36b1
                                              try clear c37
                                              try clear c37b0
                                              try clear c37b1
                                              try clear c39
                                              try clear c40
                                              try clear c40b0
                                              try clear c41
                                              try clear c41b0
                                              try clear c42
                                              try clear c42b0
                                              try clear c45
                                              try clear c47
                                              try clear c47b0
                                              try clear c48
                                              try clear c48b0
                                              try clear p49
                                              try clear q49
                                              try clear hx49
                                              try clear c51
                                              try clear c51b0
                                              try clear c51b1
                                              try clear c52
                                              try clear hcz12_0
                                              try clear hcz12_1
                                              try clear hcz22_0
                                              try clear hcz22_1
                                              try clear hcz27_0
                                              try clear hcz27_1
                                              try clear hcz46_0
                                              try clear hcz46_1
                                              try clear hcz46_2
                                              try clear hcz46_3
                                              try clear hcz46_4
                                              try clear hcz53_0
                                              try clear hcz53_1
                                              try clear hcz53_2
                                              try clear hcz53_3
                                              try clear hcz53_4
                                              try clear hfz12_0
                                              try clear hfz12_1
                                              try clear hfz22_0
                                              try clear hfz22_1
                                              try clear hfz27_0
                                              try clear hfz27_1
                                              try clear hfz46_0
                                              try clear hfz46_1
                                              try clear hfz46_2
                                              try clear hfz46_3
                                              try clear hfz46_4
                                              try clear hfz53_0
                                              try clear hfz53_1
                                              try clear hfz53_2
                                              try clear hfz53_3
                                              try clear hfz53_4
                                              try clear p1
                                              try clear p17
                                              try clear p2
                                              try clear p3
                                              try clear p32
                                              try clear p49
                                              try clear p6
                                              try clear p7
                                              try clear q1
                                              try clear q17
                                              try clear q3
                                              try clear q32
                                              try clear q49
                                              try clear q7
                                              obtain ⟨kq, x104_49, rfl, HA, HJ49, HO_4, BK103, BK122, HB⟩ := hcut
                                              cases kq with
                                              | zero => exact absurd HA.out (by simp [notation_Parse.j8])
                                              | succ kj49 =>
                                                have H := HA.out
                                                clear HA
                                                simp only [notation_Parse.j8] at H
                                                by_cases c54 : x104_49 = true
                                                · subst c54
                                                  have H1 : ((notation_Parse_1.f 6 x6_6).bind fun bt126 => (some (bt126.1, bt126.2.1, bt126.2.2))) = some (r1, r2, r3) := by rw [if_pos rfl] at H; exact H
                                                  clear H
                                                  have H := H1
                                                  clear H1
                                                  replace H := Option.bind_eq_some_iff.mp H
                                                  obtain ⟨⟨t126, t129, t130⟩, A550, H⟩ := H
                                                  replace H : (some (t126, t129, t130)) = some (r1, r2, r3) := H
                                                  have A55 := Aside0.mk A550
                                                  clear A550
                                                  simp only [Option.some.injEq, Prod.mk.injEq] at H
                                                  obtain ⟨rfl, rfl, rfl⟩ := H
                                                  go_wp2_with (first | ((with_reducible refine gate_tmp (x := 112) rfl ?_); refine goesT_ 112 (some 114) (by rfl) rfl rfl Try.func25 (by kernel_rfl) rfl #[.int .i64 6, .int .i64 x6_6] rfl (by (try simp only [List.map_toArray, List.map_cons, List.map_nil]); first | done | rfl | (simp only [List.length_drop, List.length_take]; rfl)) ?_; (with_reducible refine (notation_Parse_1.calls 6 x6_6 t126 t129 t130 _ A55.out).mono ?_); rintro e w56 ⟨v127, rfl, ho0, hb⟩; refine ⟨_, rfl, ?_⟩; have n0_ := Aside0.mk (Kd.R_elder' (by (with_reducible repeat (first | apply Kd.R_alloc | apply Kd.R_drewN | apply Kd.R_drew)); exact HO_4.out) (Kd.R_base ho0) hb); have n1_ := Aside0.mk (Kd.R_lower (Kd.R_newB (Kd.R_new' ho0 (Kd.R_lt (by (with_reducible repeat (first | apply Kd.R_alloc | apply Kd.R_drewN | apply Kd.R_drew)); exact HO_4.out))) (g := gb122) (o := .cells #[.string (a0.extract (x6_2 : Int).toNat (x6_27 : Int).toNat), .int .i64 x123001_6, .bool x123002_6, .bool x123003_6, .bool x123004_6] 49 (0, 0)) (by (with_reducible repeat (first | refine blk_drewN ?_ _ | refine blk_drew ?_ | refine blk_alloc ?_ _)); exact BK122.out)) (below_size (by repeat (first | (with_reducible first | exact HB.out | apply below_alloc | apply pw_below_drewN | apply below_drew1 | refine below_set ?_ GE103.out | refine below_set ?_ GE122.out) | exact HB.out)))); have n2_ := Aside0.mk (blk_below (g := gb103) (o := .cells #[.int .i64 x104000_6, .int .i64 x104001_6] 26 (0, 0)) (by (with_reducible repeat (first | refine blk_drewN ?_ _ | refine blk_drew ?_ | refine blk_alloc ?_ _)); exact BK103.out) hb); have n3_ := Aside0.mk (blk_below (g := gb122) (o := .cells #[.string (a0.extract (x6_2 : Int).toNat (x6_27 : Int).toNat), .int .i64 x123001_6, .bool x123002_6, .bool x123003_6, .bool x123004_6] 49 (0, 0)) (by (with_reducible repeat (first | refine blk_drewN ?_ _ | refine blk_drew ?_ | refine blk_alloc ?_ _)); exact BK122.out) hb); have n4_ := Aside0.mk (below_step (by repeat (first | (with_reducible first | exact HB.out | apply below_alloc | apply pw_below_drewN | apply below_drew1 | refine below_set ?_ GE103.out | refine below_set ?_ GE122.out) | exact HB.out)) hb); clear HO_4; clear BK103; clear BK122; clear HB; have HO_4 := n0_; have HO128 := n1_; have BK103 := n2_; have BK122 := n3_; have HB := n4_; clear n0_ n1_ n2_ n3_ n4_; (try clear hb); (try clear hb2); (try clear hk); (try clear hi); (try clear ho0); have hnb57 := NB103_122.out; have hnc57 := NB122_103.out; have hcz58_0 : w56.cell? ⟨gb103, 0, none⟩ = some (.int .i64 x104000_6) := (blk_cell BK103.out 0).trans rfl; have hcz58_1 : w56.cell? ⟨gb103, 1, none⟩ = some (.int .i64 x104001_6) := (blk_cell BK103.out 1).trans rfl; have hfz58_0 := blk_frozen BK103.out 0; have hfz58_1 := blk_frozen BK103.out 1))
                                                  (try (simp only [Exit.noGoto]; go_big_open)); refine bodyPost_ret (results_tc rfl _ _ gb103 26 #[.int .i64 t129, .int .i64 t130] (0, 0) _ rfl (by (with_reducible repeat (first | refine blk_drewN ?_ _ | refine blk_drew ?_ | refine blk_alloc ?_ _)); refine blk_put (cs := #[.int .i64 t129, .int .i64 x104001_6]) ?_ 1 _ rfl; (with_reducible repeat (first | refine blk_drewN ?_ _ | refine blk_drew ?_ | refine blk_alloc ?_ _)); refine blk_put (cs := #[.int .i64 x104000_6, .int .i64 x104001_6]) ?_ 0 _ rfl; (with_reducible repeat (first | refine blk_drewN ?_ _ | refine blk_drew ?_ | refine blk_alloc ?_ _)); exact BK103.out) Try.underlying26 rfl (by kernel_rfl)) rfl ?_
                                                  exact ⟨_, by first | rfl | (simp [errW_none, errW_some] <;> rfl) | (simp [*, errW_none, errW_some] <;> rfl), by (with_reducible repeat (first | apply Kd.R_alloc | apply Kd.R_drewN | apply Kd.R_drew)); exact Kd.R_mono (Kd.R_far (p := ⟨gb103, 1, none⟩) (Kd.R_far (p := ⟨gb103, 0, none⟩) (Kd.R_types HO128.out BK103.out (by decide)) (fun _ hk => hk.2) (.int .i64 t129)) (fun _ hk => hk.2) (.int .i64 t130)) (fun _ hk => trivial), by repeat (first | (with_reducible first | exact HB.out | apply below_alloc | apply pw_below_drewN | apply below_drew1 | refine below_set ?_ GE103.out | refine below_set ?_ GE122.out) | exact HB.out)⟩
                                                · replace c54 := Bool.eq_false_iff.mpr c54
                                                  subst c54
                                                  have H1 : (if (bt a0 x6_6) = 60 then (notation_Parse.l3 kj49 a0 x4_6 (wrap64 (x6_6 + 1)) (a0.extract (x6_2 : Int).toNat (x6_27 : Int).toNat) (wrap64 (x123001_6 + 1)) x123002_6 x123003_6 x123004_6) else (if (bt a0 x6_6) = 63 then (if x123002_6 = true then (notation_Parse.j9 kj49 a0 x4_6 x6_6 (bt a0 x6_6) true (a0.extract (x6_2 : Int).toNat (x6_27 : Int).toNat) x123001_6 x123002_6 x123003_6 x123004_6) else (if (bt a0 x6_6) = 42 then (notation_Parse.j9 kj49 a0 x4_6 x6_6 (bt a0 x6_6) x123003_6 (a0.extract (x6_2 : Int).toNat (x6_27 : Int).toNat) x123001_6 x123002_6 x123003_6 x123004_6) else (notation_Parse.j9 kj49 a0 x4_6 x6_6 (bt a0 x6_6) false (a0.extract (x6_2 : Int).toNat (x6_27 : Int).toNat) x123001_6 x123002_6 x123003_6 x123004_6))) else (if (bt a0 x6_6) = 42 then (notation_Parse.j9 kj49 a0 x4_6 x6_6 (bt a0 x6_6) x123003_6 (a0.extract (x6_2 : Int).toNat (x6_27 : Int).toNat) x123001_6 x123002_6 x123003_6 x123004_6) else (notation_Parse.j9 kj49 a0 x4_6 x6_6 (bt a0 x6_6) false (a0.extract (x6_2 : Int).toNat (x6_27 : Int).toNat) x123001_6 x123002_6 x123003_6 x123004_6)))) = some (r1, r2, r3) := by rw [if_neg (show ¬ (false = true) by decide)] at H; exact H
                                                  clear H
                                                  have H := H1
                                                  clear H1
                                                  by_cases c59 : (bt a0 x6_6) = 60
                                                  · rw [if_pos c59] at H
                                                    have c59b0 : ((bt a0 x6_6) == 60) = true := beq_iff_eq.mpr c59
                                                    have c59b1 : ((bt a0 x6_6) != 60) = false := bne_eq_false_iff_eq.mpr c59
                                                    clear c59
                                                    have H' := Aside0.mk H
                                                    clear H
                                                    have hnb60 := NB122_103.out
                                                    have hnc60 := NB103_122.out
                                                    have hcz61_0 : wc.cell? ⟨gb122, 0, none⟩ = some (.string (a0.extract (x6_2 : Int).toNat (x6_27 : Int).toNat)) := (blk_cell BK122.out 0).trans rfl
                                                    have hcz61_1 : wc.cell? ⟨gb122, 1, none⟩ = some (.int .i64 x123001_6) := (blk_cell BK122.out 1).trans rfl
                                                    have hcz61_2 : wc.cell? ⟨gb122, 2, none⟩ = some (.bool x123002_6) := (blk_cell BK122.out 2).trans rfl
                                                    have hcz61_3 : wc.cell? ⟨gb122, 3, none⟩ = some (.bool x123003_6) := (blk_cell BK122.out 3).trans rfl
                                                    have hcz61_4 : wc.cell? ⟨gb122, 4, none⟩ = some (.bool x123004_6) := (blk_cell BK122.out 4).trans rfl
                                                    have hfz61_0 := blk_frozen BK122.out 0
                                                    have hfz61_1 := blk_frozen BK122.out 1
                                                    have hfz61_2 := blk_frozen BK122.out 2
                                                    have hfz61_3 := blk_frozen BK122.out 3
                                                    have hfz61_4 := blk_frozen BK122.out 4
                                                    go_wp2
                                                    go_roundg kj49
                                                    case measure => have := HK1.out; have := HJ2.out; have := HJ8.out; have := HJ12.out; have := HJ27.out; have := HK6.out; have := HJ49.out; omega
                                                    case rel => exact ⟨(x4_6), (wrap64 (x6_6 + 1)), (x104000_6), (x104001_6), (wrap64 (x123001_6 + 1)), (x123002_6), (x123003_6), (x123004_6), (by first | rfl | (simp; done) | (simp [*]; done)), H', ⟨by have := HK1.out; have := HJ2.out; have := HJ8.out; have := HJ12.out; have := HJ27.out; have := HK6.out; have := HJ49.out; omega⟩, ⟨by (with_reducible repeat (first | apply Kd.R_alloc | apply Kd.R_drewN | apply Kd.R_drew)); exact Kd.R_mono (Kd.R_far (p := ⟨gb122, 1, none⟩) (Kd.R_mono HO_4.out (fun k_ hk => (⟨hk, hk⟩ : _ ∧ k_ ≠ gb122))) (fun _ hk => hk.2) (.int .i64 (wrap64 (x123001_6 + 1)))) (fun _ hk => hk.1)⟩, ⟨by (with_reducible repeat (first | refine blk_drewN ?_ _ | refine blk_drew ?_ | refine blk_alloc ?_ _)); refine blk_far ?_ NB103_122.out _; (with_reducible repeat (first | refine blk_drewN ?_ _ | refine blk_drew ?_ | refine blk_alloc ?_ _)); exact BK103.out⟩, ⟨by (with_reducible repeat (first | refine blk_drewN ?_ _ | refine blk_drew ?_ | refine blk_alloc ?_ _)); refine blk_put (cs := #[.string (a0.extract (x6_2 : Int).toNat (x6_27 : Int).toNat), .int .i64 x123001_6, .bool x123002_6, .bool x123003_6, .bool x123004_6]) ?_ 1 _ rfl; (with_reducible repeat (first | refine blk_drewN ?_ _ | refine blk_drew ?_ | refine blk_alloc ?_ _)); exact BK122.out⟩, ⟨by repeat (first | (with_reducible first | exact HB.out | apply below_alloc | apply pw_below_drewN | apply below_drew1 | refine below_set ?_ GE103.out | refine below_set ?_ GE122.out) | exact HB.out)⟩⟩
                                                  · rw [if_neg c59] at H
                                                    have c59b0 : ((bt a0 x6_6) == 60) = false := beq_eq_false_iff_ne.mpr c59
                                                    have c59b1 : ((bt a0 x6_6) != 60) = true := bne_iff_ne.mpr c59
                                                    have HC62 := Aside0.mk H
                                                    clear H
                                                    go_upto_region 26 with (fail)
                                                    go_cut [124] (fun v124 wc => ∃ (kq : Nat) (x124_61 : Bool), v124 = .bool x124_61 ∧ Aside0 (notation_Parse.j9 kq a0 x4_6 x6_6 (bt a0 x6_6) x124_61 (a0.extract (x6_2 : Int).toNat (x6_27 : Int).toNat) x123001_6 x123002_6 x123003_6 x123004_6 = some (r1, r2, r3)) ∧ Aside0 (kq ≤ kj49) ∧ Aside0 (Kd.R k49 49 wc w.heap.size (fun k_ => k_ ≠ gb122) u4 x4_6) ∧ Aside0 (wc.heap[gb103]? = some (.cells #[.int .i64 x104000_6, .int .i64 x104001_6] 26 (0, 0))) ∧ Aside0 (wc.heap[gb122]? = some (.cells #[.string (a0.extract (x6_2 : Int).toNat (x6_27 : Int).toNat), .int .i64 x123001_6, .bool x123002_6, .bool x123003_6, .bool x123004_6] 49 (0, 0))) ∧ Aside0 (Below w.heap.size w wc))
                                                    case first =>
                                                      have H := HC62.out
                                                      clear HC62
                                                      by_cases c63 : (bt a0 x6_6) = 63
                                                      · rw [if_pos c63] at H
                                                        have c63b0 : ((bt a0 x6_6) == 63) = true := beq_iff_eq.mpr c63
                                                        have c63b1 : ((bt a0 x6_6) != 63) = false := bne_eq_false_iff_eq.mpr c63
                                                        clear c63
                                                        (first | rw [c63b0] | (simp only [i64_w, i32_w]; rw [c63b0]) | skip)
                                                        by_cases c64 : x123002_6 = true
                                                        · subst c64
                                                          have H1 : (notation_Parse.j9 kj49 a0 x4_6 x6_6 (bt a0 x6_6) true (a0.extract (x6_2 : Int).toNat (x6_27 : Int).toNat) x123001_6 true x123003_6 x123004_6) = some (r1, r2, r3) := by rw [if_pos rfl] at H; exact H
                                                          clear H
                                                          have H := H1
                                                          clear H1
                                                          have H' := Aside0.mk H
                                                          clear H
                                                          have hnb65 := NB122_103.out
                                                          have hnc65 := NB103_122.out
                                                          have hcz66_0 : wc.cell? ⟨gb122, 0, none⟩ = some (.string (a0.extract (x6_2 : Int).toNat (x6_27 : Int).toNat)) := (blk_cell BK122.out 0).trans rfl
                                                          have hcz66_1 : wc.cell? ⟨gb122, 1, none⟩ = some (.int .i64 x123001_6) := (blk_cell BK122.out 1).trans rfl
                                                          have hcz66_2 : wc.cell? ⟨gb122, 2, none⟩ = some (.bool true) := (blk_cell BK122.out 2).trans rfl
                                                          have hcz66_3 : wc.cell? ⟨gb122, 3, none⟩ = some (.bool x123003_6) := (blk_cell BK122.out 3).trans rfl
                                                          have hcz66_4 : wc.cell? ⟨gb122, 4, none⟩ = some (.bool x123004_6) := (blk_cell BK122.out 4).trans rfl
                                                          have hfz66_0 := blk_frozen BK122.out 0
                                                          have hfz66_1 := blk_frozen BK122.out 1
                                                          have hfz66_2 := blk_frozen BK122.out 2
                                                          have hfz66_3 := blk_frozen BK122.out 3
                                                          have hfz66_4 := blk_frozen BK122.out 4
                                                          go_wp2
                                                          go_meet
                                                          case rel => exact ⟨_, (true), (by first | rfl | (simp; done) | (simp [*]; done)), H', ⟨by have := HK1.out; have := HJ2.out; have := HJ8.out; have := HJ12.out; have := HJ27.out; have := HK6.out; have := HJ49.out; first | omega | exact Nat.le_refl _⟩, ⟨by (with_reducible repeat (first | apply Kd.R_alloc | apply Kd.R_drewN | apply Kd.R_drew)); exact HO_4.out⟩, ⟨by (with_reducible repeat (first | refine blk_drewN ?_ _ | refine blk_drew ?_ | refine blk_alloc ?_ _)); exact BK103.out⟩, ⟨by (with_reducible repeat (first | refine blk_drewN ?_ _ | refine blk_drew ?_ | refine blk_alloc ?_ _)); exact BK122.out⟩, ⟨by repeat (first | (with_reducible first | exact HB.out | apply below_alloc | apply pw_below_drewN | apply below_drew1 | refine below_set ?_ GE103.out | refine below_set ?_ GE122.out) | exact HB.out)⟩⟩
                                                        · replace c64 := Bool.eq_false_iff.mpr c64
                                                          subst c64
                                                          have H1 : (if (bt a0 x6_6) = 42 then (notation_Parse.j9 kj49 a0 x4_6 x6_6 (bt a0 x6_6) x123003_6 (a0.extract (x6_2 : Int).toNat (x6_27 : Int).toNat) x123001_6 false x123003_6 x123004_6) else (notation_Parse.j9 kj49 a0 x4_6 x6_6 (bt a0 x6_6) false (a0.extract (x6_2 : Int).toNat (x6_27 : Int).toNat) x123001_6 false x123003_6 x123004_6)) = some (r1, r2, r3) := by rw [if_neg (show ¬ (false = true) by decide)] at H; exact H
                                                          clear H
                                                          have H := H1
                                                          clear H1
                                                          by_cases c67 : (bt a0 x6_6) = 42
                                                          · rw [if_pos c67] at H
                                                            have c67b0 : ((bt a0 x6_6) == 42) = true := beq_iff_eq.mpr c67
                                                            have c67b1 : ((bt a0 x6_6) != 42) = false := bne_eq_false_iff_eq.mpr c67
                                                            clear c67
                                                            have H' := Aside0.mk H
                                                            clear H
                                                            have hnb68 := NB122_103.out
                                                            have hnc68 := NB103_122.out
                                                            have hcz69_0 : wc.cell? ⟨gb122, 0, none⟩ = some (.string (a0.extract (x6_2 : Int).toNat (x6_27 : Int).toNat)) := (blk_cell BK122.out 0).trans rfl
                                                            have hcz69_1 : wc.cell? ⟨gb122, 1, none⟩ = some (.int .i64 x123001_6) := (blk_cell BK122.out 1).trans rfl
                                                            have hcz69_2 : wc.cell? ⟨gb122, 2, none⟩ = some (.bool false) := (blk_cell BK122.out 2).trans rfl
                                                            have hcz69_3 : wc.cell? ⟨gb122, 3, none⟩ = some (.bool x123003_6) := (blk_cell BK122.out 3).trans rfl
                                                            have hcz69_4 : wc.cell? ⟨gb122, 4, none⟩ = some (.bool x123004_6) := (blk_cell BK122.out 4).trans rfl
                                                            have hfz69_0 := blk_frozen BK122.out 0
                                                            have hfz69_1 := blk_frozen BK122.out 1
                                                            have hfz69_2 := blk_frozen BK122.out 2
                                                            have hfz69_3 := blk_frozen BK122.out 3
                                                            have hfz69_4 := blk_frozen BK122.out 4
                                                            go_wp2
                                                            go_meet
                                                            case rel => exact ⟨_, (x123003_6), (by first | rfl | (simp; done) | (simp [*]; done)), H', ⟨by have := HK1.out; have := HJ2.out; have := HJ8.out; have := HJ12.out; have := HJ27.out; have := HK6.out; have := HJ49.out; first | omega | exact Nat.le_refl _⟩, ⟨by (with_reducible repeat (first | apply Kd.R_alloc | apply Kd.R_drewN | apply Kd.R_drew)); exact HO_4.out⟩, ⟨by (with_reducible repeat (first | refine blk_drewN ?_ _ | refine blk_drew ?_ | refine blk_alloc ?_ _)); exact BK103.out⟩, ⟨by (with_reducible repeat (first | refine blk_drewN ?_ _ | refine blk_drew ?_ | refine blk_alloc ?_ _)); exact BK122.out⟩, ⟨by repeat (first | (with_reducible first | exact HB.out | apply below_alloc | apply pw_below_drewN | apply below_drew1 | refine below_set ?_ GE103.out | refine below_set ?_ GE122.out) | exact HB.out)⟩⟩
                                                          · rw [if_neg c67] at H
                                                            have c67b0 : ((bt a0 x6_6) == 42) = false := beq_eq_false_iff_ne.mpr c67
                                                            have c67b1 : ((bt a0 x6_6) != 42) = true := bne_iff_ne.mpr c67
                                                            have H' := Aside0.mk H
                                                            clear H
                                                            have hnb70 := NB122_103.out
                                                            have hnc70 := NB103_122.out
                                                            have hcz71_0 : wc.cell? ⟨gb122, 0, none⟩ = some (.string (a0.extract (x6_2 : Int).toNat (x6_27 : Int).toNat)) := (blk_cell BK122.out 0).trans rfl
                                                            have hcz71_1 : wc.cell? ⟨gb122, 1, none⟩ = some (.int .i64 x123001_6) := (blk_cell BK122.out 1).trans rfl
                                                            have hcz71_2 : wc.cell? ⟨gb122, 2, none⟩ = some (.bool false) := (blk_cell BK122.out 2).trans rfl
                                                            have hcz71_3 : wc.cell? ⟨gb122, 3, none⟩ = some (.bool x123003_6) := (blk_cell BK122.out 3).trans rfl
                                                            have hcz71_4 : wc.cell? ⟨gb122, 4, none⟩ = some (.bool x123004_6) := (blk_cell BK122.out 4).trans rfl
                                                            have hfz71_0 := blk_frozen BK122.out 0
                                                            have hfz71_1 := blk_frozen BK122.out 1
                                                            have hfz71_2 := blk_frozen BK122.out 2
                                                            have hfz71_3 := blk_frozen BK122.out 3
                                                            have hfz71_4 := blk_frozen BK122.out 4
                                                            go_wp2
                                                            go_meet
                                                            case rel => exact ⟨_, (false), (by first | rfl | (simp; done) | (simp [*]; done)), H', ⟨by have := HK1.out; have := HJ2.out; have := HJ8.out; have := HJ12.out; have := HJ27.out; have := HK6.out; have := HJ49.out; first | omega | exact Nat.le_refl _⟩, ⟨by (with_reducible repeat (first | apply Kd.R_alloc | apply Kd.R_drewN | apply Kd.R_drew)); exact HO_4.out⟩, ⟨by (with_reducible repeat (first | refine blk_drewN ?_ _ | refine blk_drew ?_ | refine blk_alloc ?_ _)); exact BK103.out⟩, ⟨by (with_reducible repeat (first | refine blk_drewN ?_ _ | refine blk_drew ?_ | refine blk_alloc ?_ _)); exact BK122.out⟩, ⟨by repeat (first | (with_reducible first | exact HB.out | apply below_alloc | apply pw_below_drewN | apply below_drew1 | refine below_set ?_ GE103.out | refine below_set ?_ GE122.out) | exact HB.out)⟩⟩
                                                      · rw [if_neg c63] at H
                                                        have c63b0 : ((bt a0 x6_6) == 63) = false := beq_eq_false_iff_ne.mpr c63
                                                        have c63b1 : ((bt a0 x6_6) != 63) = true := bne_iff_ne.mpr c63
                                                        (first | rw [c63b0] | (simp only [i64_w, i32_w]; rw [c63b0]) | skip)
                                                        by_cases c72 : (bt a0 x6_6) = 42
                                                        · rw [if_pos c72] at H
                                                          have c72b0 : ((bt a0 x6_6) == 42) = true := beq_iff_eq.mpr c72
                                                          have c72b1 : ((bt a0 x6_6) != 42) = false := bne_eq_false_iff_eq.mpr c72
                                                          clear c72
                                                          have H' := Aside0.mk H
                                                          clear H
                                                          have hnb73 := NB122_103.out
                                                          have hnc73 := NB103_122.out
                                                          have hcz74_0 : wc.cell? ⟨gb122, 0, none⟩ = some (.string (a0.extract (x6_2 : Int).toNat (x6_27 : Int).toNat)) := (blk_cell BK122.out 0).trans rfl
                                                          have hcz74_1 : wc.cell? ⟨gb122, 1, none⟩ = some (.int .i64 x123001_6) := (blk_cell BK122.out 1).trans rfl
                                                          have hcz74_2 : wc.cell? ⟨gb122, 2, none⟩ = some (.bool x123002_6) := (blk_cell BK122.out 2).trans rfl
                                                          have hcz74_3 : wc.cell? ⟨gb122, 3, none⟩ = some (.bool x123003_6) := (blk_cell BK122.out 3).trans rfl
                                                          have hcz74_4 : wc.cell? ⟨gb122, 4, none⟩ = some (.bool x123004_6) := (blk_cell BK122.out 4).trans rfl
                                                          have hfz74_0 := blk_frozen BK122.out 0
                                                          have hfz74_1 := blk_frozen BK122.out 1
                                                          have hfz74_2 := blk_frozen BK122.out 2
                                                          have hfz74_3 := blk_frozen BK122.out 3
                                                          have hfz74_4 := blk_frozen BK122.out 4
                                                          go_wp2
                                                          go_meet
                                                          case rel => exact ⟨_, (x123003_6), (by first | rfl | (simp; done) | (simp [*]; done)), H', ⟨by have := HK1.out; have := HJ2.out; have := HJ8.out; have := HJ12.out; have := HJ27.out; have := HK6.out; have := HJ49.out; first | omega | exact Nat.le_refl _⟩, ⟨by (with_reducible repeat (first | apply Kd.R_alloc | apply Kd.R_drewN | apply Kd.R_drew)); exact HO_4.out⟩, ⟨by (with_reducible repeat (first | refine blk_drewN ?_ _ | refine blk_drew ?_ | refine blk_alloc ?_ _)); exact BK103.out⟩, ⟨by (with_reducible repeat (first | refine blk_drewN ?_ _ | refine blk_drew ?_ | refine blk_alloc ?_ _)); exact BK122.out⟩, ⟨by repeat (first | (with_reducible first | exact HB.out | apply below_alloc | apply pw_below_drewN | apply below_drew1 | refine below_set ?_ GE103.out | refine below_set ?_ GE122.out) | exact HB.out)⟩⟩
                                                        · rw [if_neg c72] at H
                                                          have c72b0 : ((bt a0 x6_6) == 42) = false := beq_eq_false_iff_ne.mpr c72
                                                          have c72b1 : ((bt a0 x6_6) != 42) = true := bne_iff_ne.mpr c72
                                                          have H' := Aside0.mk H
                                                          clear H
                                                          go_wp2
                                                          go_meet
                                                          case rel => exact ⟨_, (false), (by first | rfl | (simp; done) | (simp [*]; done)), H', ⟨by have := HK1.out; have := HJ2.out; have := HJ8.out; have := HJ12.out; have := HJ27.out; have := HK6.out; have := HJ49.out; first | omega | exact Nat.le_refl _⟩, ⟨by (with_reducible repeat (first | apply Kd.R_alloc | apply Kd.R_drewN | apply Kd.R_drew)); exact HO_4.out⟩, ⟨by (with_reducible repeat (first | refine blk_drewN ?_ _ | refine blk_drew ?_ | refine blk_alloc ?_ _)); exact BK103.out⟩, ⟨by (with_reducible repeat (first | refine blk_drewN ?_ _ | refine blk_drew ?_ | refine blk_alloc ?_ _)); exact BK122.out⟩, ⟨by repeat (first | (with_reducible first | exact HB.out | apply below_alloc | apply pw_below_drewN | apply below_drew1 | refine below_set ?_ GE103.out | refine below_set ?_ GE122.out) | exact HB.out)⟩⟩
                                                    case rest =>
                                                      clear HC62
                                                      try clear c1
                                                      try clear p1
                                                      try clear q1
                                                      try clear hx1
                                                      try clear c2
                                                      try clear p2
                                                      try clear c3
                                                      try clear p3
                                                      try clear q3
                                                      try clear hx3
                                                      try clear c4
                                                      try clear p4
                                                      try clear q4
                                                      try clear hx4
                                                      try clear c5
                                                      try clear c5b0
                                                      try clear c6
                                                      try clear c6b0
                                                      try clear p6
                                                      try clear c7
                                                      try clear p7
                                                      try clear q7
                                                      try clear hx7
                                                      try clear c8
                                                      try clear c8b0
                                                      try clear c8b1
                                                      try clear c10
                                                      try clear c10b0
                                                      try clear c10b1
                                                      try clear c11
                                                      try clear c14
                                                      try clear c14b0
                                                      try clear c14b1
                                                      try clear c15
                                                      try clear c15b0
                                                      try clear c16
                                                      try clear c16b0
                                                      try clear p17
                                                      try clear q17
                                                      try clear hx17
                                                      try clear c19
                                                      try clear c23
                                                      try clear c23b0
                                                      try clear c23b1
                                                      try clear c25
                                                      try clear c27
                                                      try clear c30
                                                      try clear c30b0
                                                      try clear c31
                                                      try clear c31b0
                                                      try clear p32
                                                      try clear q32
                                                      try clear hx32
                                                      try clear c34
                                                      try clear c35
                                                      try clear c35b0
                                                      try clear c35b1
                                                      try clear c36
                                                      try clear c36b0
                                                      try clear c36b1
                                                      try clear c37
                                                      try clear c37b0
                                                      try clear c37b1
                                                      try clear c39
                                                      try clear c40
                                                      try clear c40b0
                                                      try clear c41
                                                      try clear c41b0
                                                      try clear c42
                                                      try clear c42b0
                                                      try clear c45
                                                      try clear c47
                                                      try clear c47b0
                                                      try clear c48
                                                      try clear c48b0
                                                      try clear p49
                                                      try clear q49
                                                      try clear hx49
                                                      try clear c51
                                                      try clear c51b0
                                                      try clear c51b1
                                                      try clear c52
                                                      try clear c54
                                                      try clear c57
                                                      try clear c59
                                                      try clear c59b0
                                                      try clear c59b1
                                                      try clear c60
                                                      try clear c63
                                                      try clear c63b0
                                                      try clear c63b1
                                                      try clear c64
                                                      try clear p64
                                                      try clear c65
                                                      try clear c67
                                                      try clear c67b0
                                                      try clear c67b1
                                                      try clear c68
                                                      try clear c70
                                                      try clear c72
                                                      try clear c72b0
                                                      try clear c72b1
                                                      try clear c73
                                                      try clear hcz12_0
                                                      try clear hcz12_1
                                                      try clear hcz22_0
                                                      try clear hcz22_1
                                                      try clear hcz27_0
                                                      try clear hcz27_1
                                                      try clear hcz46_0
                                                      try clear hcz46_1
                                                      try clear hcz46_2
                                                      try clear hcz46_3
                                                      try clear hcz46_4
                                                      try clear hcz53_0
                                                      try clear hcz53_1
                                                      try clear hcz53_2
                                                      try clear hcz53_3
                                                      try clear hcz53_4
                                                      try clear hcz58_0
                                                      try clear hcz58_1
                                                      try clear hcz61_0
                                                      try clear hcz61_1
                                                      try clear hcz61_2
                                                      try clear hcz61_3
                                                      try clear hcz61_4
                                                      try clear hcz66_0
                                                      try clear hcz66_1
                                                      try clear hcz66_2
                                                      try clear hcz66_3
                                                      try clear hcz66_4
                                                      try clear hcz69_0
                                                      try clear hcz69_1
                                                      try clear hcz69_2
                                                      try clear hcz69_3
                                                      try clear hcz69_4
                                                      try clear hcz71_0
                                                      try clear hcz71_1
                                                      try clear hcz71_2
                                                      try clear hcz71_3
                                                      try clear hcz71_4
                                                      try clear hcz74_0
                                                      try clear hcz74_1
                                                      try clear hcz74_2
                                                      try clear hcz74_3
                                                      try clear hcz74_4
                                                      try clear hfz12_0
                                                      try clear hfz12_1
                                                      try clear hfz22_0
                                                      try clear hfz22_1
                                                      try clear hfz27_0
                                                      try clear hfz27_1
                                                      try clear hfz46_0
                                                      try clear hfz46_1
                                                      try clear hfz46_2
                                                      try clear hfz46_3
                                                      try clear hfz46_4
                                                      try clear hfz53_0
                                                      try clear hfz53_1
                                                      try clear hfz53_2
                                                      try clear hfz53_3
                                                      try clear hfz53_4
                                                      try clear hfz58_0
                                                      try clear hfz58_1
                                                      try clear hfz61_0
                                                      try clear hfz61_1
                                                      try clear hfz61_2
                                                      try clear hfz61_3
                                                      try clear hfz61_4
                                                      try clear hfz66_0
                                                      try clear hfz66_1
                                                      try clear hfz66_2
                                                      try clear hfz66_3
                                                      try clear hfz66_4
                                                      try clear hfz69_0
                                                      try clear hfz69_1
                                                      try clear hfz69_2
                                                      try clear hfz69_3
                                                      try clear hfz69_4
                                                      try clear hfz71_0
                                                      try clear hfz71_1
                                                      try clear hfz71_2
                                                      try clear hfz71_3
                                                      try clear hfz71_4
                                                      try clear hfz74_0
                                                      try clear hfz74_1
                                                      try clear hfz74_2
                                                      try clear hfz74_3
                                                      try clear hfz74_4
                                                      try clear p1
                                                      try clear p17
                                                      try clear p2
                                                      try clear p3
                                                      try clear p32
                                                      try clear p4
                                                      try clear p49
                                                      try clear p6
                                                      try clear p7
                                                      try clear q1
                                                      try clear q17
                                                      try clear q3
                                                      try clear q32
                                                      try clear q4
                                                      try clear q49
                                                      try clear q7
                                                      obtain ⟨kq, x124_61, rfl, HA, HJ61, HO_4, BK103, BK122, HB⟩ := hcut
                                                      cases kq with
                                                      | zero => exact absurd HA.out (by simp [notation_Parse.j9])
                                                      | succ kj61 =>
                                                        have H := HA.out
                                                        clear HA
                                                        simp only [notation_Parse.j9] at H
                                                        by_cases c75 : x124_61 = true
                                                        · subst c75
                                                          have H1 : ((notation_Parse_1.f 4 x6_6).bind fun bt131 => (some (bt131.1, bt131.2.1, bt131.2.2))) = some (r1, r2, r3) := by rw [if_pos rfl] at H; exact H
                                                          clear H
                                                          have H := H1
                                                          clear H1
                                                          replace H := Option.bind_eq_some_iff.mp H
                                                          obtain ⟨⟨t131, t134, t135⟩, A760, H⟩ := H
                                                          replace H : (some (t131, t134, t135)) = some (r1, r2, r3) := H
                                                          have A76 := Aside0.mk A760
                                                          clear A760
                                                          simp only [Option.some.injEq, Prod.mk.injEq] at H
                                                          obtain ⟨rfl, rfl, rfl⟩ := H
                                                          go_wp2_with (first | ((with_reducible refine gate_tmp (x := 139) rfl ?_); refine goesT_ 139 (some 141) (by rfl) rfl rfl Try.func25 (by kernel_rfl) rfl #[.int .i64 4, .int .i64 x6_6] rfl (by (try simp only [List.map_toArray, List.map_cons, List.map_nil]); first | done | rfl | (simp only [List.length_drop, List.length_take]; rfl)) ?_; (with_reducible refine (notation_Parse_1.calls 4 x6_6 t131 t134 t135 _ A76.out).mono ?_); rintro e w77 ⟨v132, rfl, ho0, hb⟩; refine ⟨_, rfl, ?_⟩; have n0_ := Aside0.mk (Kd.R_elder' (by (with_reducible repeat (first | apply Kd.R_alloc | apply Kd.R_drewN | apply Kd.R_drew)); exact HO_4.out) (Kd.R_base ho0) hb); have n1_ := Aside0.mk (Kd.R_lower (Kd.R_newB (Kd.R_new' ho0 (Kd.R_lt (by (with_reducible repeat (first | apply Kd.R_alloc | apply Kd.R_drewN | apply Kd.R_drew)); exact HO_4.out))) (g := gb122) (o := .cells #[.string (a0.extract (x6_2 : Int).toNat (x6_27 : Int).toNat), .int .i64 x123001_6, .bool x123002_6, .bool x123003_6, .bool x123004_6] 49 (0, 0)) (by (with_reducible repeat (first | refine blk_drewN ?_ _ | refine blk_drew ?_ | refine blk_alloc ?_ _)); exact BK122.out)) (below_size (by repeat (first | (with_reducible first | exact HB.out | apply below_alloc | apply pw_below_drewN | apply below_drew1 | refine below_set ?_ GE103.out | refine below_set ?_ GE122.out) | exact HB.out)))); have n2_ := Aside0.mk (blk_below (g := gb103) (o := .cells #[.int .i64 x104000_6, .int .i64 x104001_6] 26 (0, 0)) (by (with_reducible repeat (first | refine blk_drewN ?_ _ | refine blk_drew ?_ | refine blk_alloc ?_ _)); exact BK103.out) hb); have n3_ := Aside0.mk (blk_below (g := gb122) (o := .cells #[.string (a0.extract (x6_2 : Int).toNat (x6_27 : Int).toNat), .int .i64 x123001_6, .bool x123002_6, .bool x123003_6, .bool x123004_6] 49 (0, 0)) (by (with_reducible repeat (first | refine blk_drewN ?_ _ | refine blk_drew ?_ | refine blk_alloc ?_ _)); exact BK122.out) hb); have n4_ := Aside0.mk (below_step (by repeat (first | (with_reducible first | exact HB.out | apply below_alloc | apply pw_below_drewN | apply below_drew1 | refine below_set ?_ GE103.out | refine below_set ?_ GE122.out) | exact HB.out)) hb); clear HO_4; clear BK103; clear BK122; clear HB; have HO_4 := n0_; have HO133 := n1_; have BK103 := n2_; have BK122 := n3_; have HB := n4_; clear n0_ n1_ n2_ n3_ n4_; (try clear hb); (try clear hb2); (try clear hk); (try clear hi); (try clear ho0); have hnb78 := NB103_122.out; have hnc78 := NB122_103.out; have hcz79_0 : w77.cell? ⟨gb103, 0, none⟩ = some (.int .i64 x104000_6) := (blk_cell BK103.out 0).trans rfl; have hcz79_1 : w77.cell? ⟨gb103, 1, none⟩ = some (.int .i64 x104001_6) := (blk_cell BK103.out 1).trans rfl; have hfz79_0 := blk_frozen BK103.out 0; have hfz79_1 := blk_frozen BK103.out 1))
                                                          (try (simp only [Exit.noGoto]; go_big_open)); refine bodyPost_ret (results_tc rfl _ _ gb103 26 #[.int .i64 t134, .int .i64 t135] (0, 0) _ rfl (by (with_reducible repeat (first | refine blk_drewN ?_ _ | refine blk_drew ?_ | refine blk_alloc ?_ _)); refine blk_put (cs := #[.int .i64 t134, .int .i64 x104001_6]) ?_ 1 _ rfl; (with_reducible repeat (first | refine blk_drewN ?_ _ | refine blk_drew ?_ | refine blk_alloc ?_ _)); refine blk_put (cs := #[.int .i64 x104000_6, .int .i64 x104001_6]) ?_ 0 _ rfl; (with_reducible repeat (first | refine blk_drewN ?_ _ | refine blk_drew ?_ | refine blk_alloc ?_ _)); exact BK103.out) Try.underlying26 rfl (by kernel_rfl)) rfl ?_
                                                          exact ⟨_, by first | rfl | (simp [errW_none, errW_some] <;> rfl) | (simp [*, errW_none, errW_some] <;> rfl), by (with_reducible repeat (first | apply Kd.R_alloc | apply Kd.R_drewN | apply Kd.R_drew)); exact Kd.R_mono (Kd.R_far (p := ⟨gb103, 1, none⟩) (Kd.R_far (p := ⟨gb103, 0, none⟩) (Kd.R_types HO133.out BK103.out (by decide)) (fun _ hk => hk.2) (.int .i64 t134)) (fun _ hk => hk.2) (.int .i64 t135)) (fun _ hk => trivial), by repeat (first | (with_reducible first | exact HB.out | apply below_alloc | apply pw_below_drewN | apply below_drew1 | refine below_set ?_ GE103.out | refine below_set ?_ GE122.out) | exact HB.out)⟩
                                                        · replace c75 := Bool.eq_false_iff.mpr c75
                                                          subst c75
                                                          have H1 : (if (bt a0 x6_6) = 63 then (notation_Parse.l3 kj61 a0 x4_6 (wrap64 (x6_6 + 1)) (a0.extract (x6_2 : Int).toNat (x6_27 : Int).toNat) x123001_6 true x123003_6 x123004_6) else (if (bt a0 x6_6) = 42 then (notation_Parse.l3 kj61 a0 x4_6 (wrap64 (x6_6 + 1)) (a0.extract (x6_2 : Int).toNat (x6_27 : Int).toNat) x123001_6 x123002_6 true x123004_6) else (if (bt a0 x6_6) = 43 then (if x4_6.length < 4398046511104 then (notation_Parse.l0 kj61 a0 (x4_6 ++ [(⟨(a0.extract (x6_2 : Int).toNat (x6_27 : Int).toNat), x123001_6, x123002_6, x123003_6, ((bt a0 x6_6) == 43)⟩ : S49)]) (wrap64 (x6_6 + 1)) ((bt a0 x6_6) == 43)) else (none)) else (if (bt a0 x6_6) = 32 then (if x4_6.length < 4398046511104 then (notation_Parse.l0 kj61 a0 (x4_6 ++ [(⟨(a0.extract (x6_2 : Int).toNat (x6_27 : Int).toNat), x123001_6, x123002_6, x123003_6, ((bt a0 x6_6) == 43)⟩ : S49)]) (wrap64 (x6_6 + 1)) ((bt a0 x6_6) == 43)) else (none)) else ((notation_Parse_1.f 2 x6_6).bind fun bt142 => (some (bt142.1, bt142.2.1, bt142.2.2))))))) = some (r1, r2, r3) := by rw [if_neg (show ¬ (false = true) by decide)] at H; exact H
                                                          clear H
                                                          have H := H1
                                                          clear H1
                                                          by_cases c80 : (bt a0 x6_6) = 63
                                                          · rw [if_pos c80] at H
                                                            have c80b0 : ((bt a0 x6_6) == 63) = true := beq_iff_eq.mpr c80
                                                            have c80b1 : ((bt a0 x6_6) != 63) = false := bne_eq_false_iff_eq.mpr c80
                                                            clear c80
                                                            have H' := Aside0.mk H
                                                            clear H
                                                            have hnb81 := NB122_103.out
                                                            have hnc81 := NB103_122.out
                                                            have hcz82_0 : wc.cell? ⟨gb122, 0, none⟩ = some (.string (a0.extract (x6_2 : Int).toNat (x6_27 : Int).toNat)) := (blk_cell BK122.out 0).trans rfl
                                                            have hcz82_1 : wc.cell? ⟨gb122, 1, none⟩ = some (.int .i64 x123001_6) := (blk_cell BK122.out 1).trans rfl
                                                            have hcz82_2 : wc.cell? ⟨gb122, 2, none⟩ = some (.bool x123002_6) := (blk_cell BK122.out 2).trans rfl
                                                            have hcz82_3 : wc.cell? ⟨gb122, 3, none⟩ = some (.bool x123003_6) := (blk_cell BK122.out 3).trans rfl
                                                            have hcz82_4 : wc.cell? ⟨gb122, 4, none⟩ = some (.bool x123004_6) := (blk_cell BK122.out 4).trans rfl
                                                            have hfz82_0 := blk_frozen BK122.out 0
                                                            have hfz82_1 := blk_frozen BK122.out 1
                                                            have hfz82_2 := blk_frozen BK122.out 2
                                                            have hfz82_3 := blk_frozen BK122.out 3
                                                            have hfz82_4 := blk_frozen BK122.out 4
                                                            go_wp2
                                                            go_roundg kj61
                                                            case measure => have := HK1.out; have := HJ2.out; have := HJ8.out; have := HJ12.out; have := HJ27.out; have := HK6.out; have := HJ49.out; have := HJ61.out; omega
                                                            case rel => exact ⟨(x4_6), (wrap64 (x6_6 + 1)), (x104000_6), (x104001_6), (x123001_6), (true), (x123003_6), (x123004_6), (by first | rfl | (simp; done) | (simp [*]; done)), H', ⟨by have := HK1.out; have := HJ2.out; have := HJ8.out; have := HJ12.out; have := HJ27.out; have := HK6.out; have := HJ49.out; have := HJ61.out; omega⟩, ⟨by (with_reducible repeat (first | apply Kd.R_alloc | apply Kd.R_drewN | apply Kd.R_drew)); exact Kd.R_mono (Kd.R_far (p := ⟨gb122, 2, none⟩) (Kd.R_mono HO_4.out (fun k_ hk => (⟨hk, hk⟩ : _ ∧ k_ ≠ gb122))) (fun _ hk => hk.2) (.bool true)) (fun _ hk => hk.1)⟩, ⟨by (with_reducible repeat (first | refine blk_drewN ?_ _ | refine blk_drew ?_ | refine blk_alloc ?_ _)); refine blk_far ?_ NB103_122.out _; (with_reducible repeat (first | refine blk_drewN ?_ _ | refine blk_drew ?_ | refine blk_alloc ?_ _)); exact BK103.out⟩, ⟨by (with_reducible repeat (first | refine blk_drewN ?_ _ | refine blk_drew ?_ | refine blk_alloc ?_ _)); refine blk_put (cs := #[.string (a0.extract (x6_2 : Int).toNat (x6_27 : Int).toNat), .int .i64 x123001_6, .bool x123002_6, .bool x123003_6, .bool x123004_6]) ?_ 2 _ rfl; (with_reducible repeat (first | refine blk_drewN ?_ _ | refine blk_drew ?_ | refine blk_alloc ?_ _)); exact BK122.out⟩, ⟨by repeat (first | (with_reducible first | exact HB.out | apply below_alloc | apply pw_below_drewN | apply below_drew1 | refine below_set ?_ GE103.out | refine below_set ?_ GE122.out) | exact HB.out)⟩⟩
                                                          · rw [if_neg c80] at H
                                                            have c80b0 : ((bt a0 x6_6) == 63) = false := beq_eq_false_iff_ne.mpr c80
                                                            have c80b1 : ((bt a0 x6_6) != 63) = true := bne_iff_ne.mpr c80
                                                            by_cases c83 : (bt a0 x6_6) = 42
                                                            · rw [if_pos c83] at H
                                                              have c83b0 : ((bt a0 x6_6) == 42) = true := beq_iff_eq.mpr c83
                                                              have c83b1 : ((bt a0 x6_6) != 42) = false := bne_eq_false_iff_eq.mpr c83
                                                              clear c83
                                                              have H' := Aside0.mk H
                                                              clear H
                                                              have hnb84 := NB122_103.out
                                                              have hnc84 := NB103_122.out
                                                              have hcz85_0 : wc.cell? ⟨gb122, 0, none⟩ = some (.string (a0.extract (x6_2 : Int).toNat (x6_27 : Int).toNat)) := (blk_cell BK122.out 0).trans rfl
                                                              have hcz85_1 : wc.cell? ⟨gb122, 1, none⟩ = some (.int .i64 x123001_6) := (blk_cell BK122.out 1).trans rfl
                                                              have hcz85_2 : wc.cell? ⟨gb122, 2, none⟩ = some (.bool x123002_6) := (blk_cell BK122.out 2).trans rfl
                                                              have hcz85_3 : wc.cell? ⟨gb122, 3, none⟩ = some (.bool x123003_6) := (blk_cell BK122.out 3).trans rfl
                                                              have hcz85_4 : wc.cell? ⟨gb122, 4, none⟩ = some (.bool x123004_6) := (blk_cell BK122.out 4).trans rfl
                                                              have hfz85_0 := blk_frozen BK122.out 0
                                                              have hfz85_1 := blk_frozen BK122.out 1
                                                              have hfz85_2 := blk_frozen BK122.out 2
                                                              have hfz85_3 := blk_frozen BK122.out 3
                                                              have hfz85_4 := blk_frozen BK122.out 4
                                                              go_wp2
                                                              go_roundg kj61
                                                              case measure => have := HK1.out; have := HJ2.out; have := HJ8.out; have := HJ12.out; have := HJ27.out; have := HK6.out; have := HJ49.out; have := HJ61.out; omega
                                                              case rel => exact ⟨(x4_6), (wrap64 (x6_6 + 1)), (x104000_6), (x104001_6), (x123001_6), (x123002_6), (true), (x123004_6), (by first | rfl | (simp; done) | (simp [*]; done)), H', ⟨by have := HK1.out; have := HJ2.out; have := HJ8.out; have := HJ12.out; have := HJ27.out; have := HK6.out; have := HJ49.out; have := HJ61.out; omega⟩, ⟨by (with_reducible repeat (first | apply Kd.R_alloc | apply Kd.R_drewN | apply Kd.R_drew)); exact Kd.R_mono (Kd.R_far (p := ⟨gb122, 3, none⟩) (Kd.R_mono HO_4.out (fun k_ hk => (⟨hk, hk⟩ : _ ∧ k_ ≠ gb122))) (fun _ hk => hk.2) (.bool true)) (fun _ hk => hk.1)⟩, ⟨by (with_reducible repeat (first | refine blk_drewN ?_ _ | refine blk_drew ?_ | refine blk_alloc ?_ _)); refine blk_far ?_ NB103_122.out _; (with_reducible repeat (first | refine blk_drewN ?_ _ | refine blk_drew ?_ | refine blk_alloc ?_ _)); exact BK103.out⟩, ⟨by (with_reducible repeat (first | refine blk_drewN ?_ _ | refine blk_drew ?_ | refine blk_alloc ?_ _)); refine blk_put (cs := #[.string (a0.extract (x6_2 : Int).toNat (x6_27 : Int).toNat), .int .i64 x123001_6, .bool x123002_6, .bool x123003_6, .bool x123004_6]) ?_ 3 _ rfl; (with_reducible repeat (first | refine blk_drewN ?_ _ | refine blk_drew ?_ | refine blk_alloc ?_ _)); exact BK122.out⟩, ⟨by repeat (first | (with_reducible first | exact HB.out | apply below_alloc | apply pw_below_drewN | apply below_drew1 | refine below_set ?_ GE103.out | refine below_set ?_ GE122.out) | exact HB.out)⟩⟩
                                                            · rw [if_neg c83] at H
                                                              have c83b0 : ((bt a0 x6_6) == 42) = false := beq_eq_false_iff_ne.mpr c83
                                                              have c83b1 : ((bt a0 x6_6) != 42) = true := bne_iff_ne.mpr c83
                                                              by_cases c86 : (bt a0 x6_6) = 43
                                                              · rw [if_pos c86] at H
                                                                have c86b0 : ((bt a0 x6_6) == 43) = true := beq_iff_eq.mpr c86
                                                                try rw [c86b0] at H
                                                                have c86b1 : ((bt a0 x6_6) != 43) = false := bne_eq_false_iff_eq.mpr c86
                                                                clear c86
                                                                by_cases c87 : x4_6.length < 4398046511104
                                                                · rw [if_pos c87] at H
                                                                  have LMc87 := Aside0.mk c87
                                                                  clear c87
                                                                  obtain ⟨y136, hy136⟩ : ∃ y_ : List (S49), y_ = (x4_6 ++ [(⟨(a0.extract (x6_2 : Int).toNat (x6_27 : Int).toNat), x123001_6, x123002_6, x123003_6, true⟩ : S49)]) := ⟨_, rfl⟩
                                                                  replace H : (notation_Parse.l0 kj61 a0 y136 (wrap64 (x6_6 + 1)) true) = some (r1, r2, r3) := by first | (rw [hy136]; with_reducible exact H) | (have H2_ := (Option.bind_some _ _).symm.trans H; rw [hy136]; with_reducible exact H2_) | (have H2_ := (Option.bind_some _ _).symm.trans H; with_reducible exact H2_) | with_reducible exact H | (rw [hy136]; exact H) | exact H
                                                                  have Ny136 := Aside0.mk hy136
                                                                  clear hy136
                                                                  have H' := Aside0.mk H
                                                                  clear H
                                                                  have hnb88 := NB122_103.out
                                                                  have hnc88 := NB103_122.out
                                                                  have hcz89_0 : wc.cell? ⟨gb122, 0, none⟩ = some (.string (a0.extract (x6_2 : Int).toNat (x6_27 : Int).toNat)) := (blk_cell BK122.out 0).trans rfl
                                                                  have hcz89_1 : wc.cell? ⟨gb122, 1, none⟩ = some (.int .i64 x123001_6) := (blk_cell BK122.out 1).trans rfl
                                                                  have hcz89_2 : wc.cell? ⟨gb122, 2, none⟩ = some (.bool x123002_6) := (blk_cell BK122.out 2).trans rfl
                                                                  have hcz89_3 : wc.cell? ⟨gb122, 3, none⟩ = some (.bool x123003_6) := (blk_cell BK122.out 3).trans rfl
                                                                  have hcz89_4 : wc.cell? ⟨gb122, 4, none⟩ = some (.bool x123004_6) := (blk_cell BK122.out 4).trans rfl
                                                                  have hfz89_0 := blk_frozen BK122.out 0
                                                                  have hfz89_1 := blk_frozen BK122.out 1
                                                                  have hfz89_2 := blk_frozen BK122.out 2
                                                                  have hfz89_3 := blk_frozen BK122.out 3
                                                                  have hfz89_4 := blk_frozen BK122.out 4
                                                                  go_wp2_with (first | ((with_reducible refine gate_builtin (b := .append) (xs := #[.tmp 162, .tmp 164]) rfl ?_); (try (refine gate_guard (by rfl) ?_; dsimp only)); at_builtin; refine Kd.R_append k49 (w0 := w) w.heap.size rfl (.tmp 162) (.tmp 164) 23 49 (.agg #[(.string ⟨#[]⟩), (.int .i64 0), (.bool false), (.bool false), (.bool false)]) 32 rfl Try.underlying23 info49 rfl (by decide) (by omega) u4 x4_6 (⟨(a0.extract (x6_2 : Int).toNat (x6_27 : Int).toNat), x123001_6, x123002_6, x123003_6, true⟩ : S49) [.string (a0.extract (x6_2 : Int).toNat (x6_27 : Int).toNat), .int .i64 x123001_6, .bool x123002_6, .bool x123003_6, .bool true] (fun k_ => k_ ≠ gb122) (fun _ => False) rfl (by first | (go_simp; done) | (go_simp; rfl)) ?aP (fun _ hk => hk.elim) ?aF ?aO ?aB ?aS ?aL ?_; (case aP => exact k49_mkM _ _ _ (⟨(a0.extract (x6_2 : Int).toNat (x6_27 : Int).toNat), x123001_6, x123002_6, x123003_6, true⟩ : S49)); (case aB => exact (by repeat (first | (with_reducible first | exact HB.out | apply below_alloc | apply pw_below_drewN | apply below_drew1 | refine below_set ?_ GE103.out | refine below_set ?_ GE122.out) | exact HB.out))); (case aF => exact (fun k_ hk => Kd.freshB (g := gb122) (o := .cells #[.string (a0.extract (x6_2 : Int).toNat (x6_27 : Int).toNat), .int .i64 x123001_6, .bool x123002_6, .bool x123003_6, .bool true] 49 (0, 0)) (by (with_reducible repeat (first | refine blk_drewN ?_ _ | refine blk_drew ?_ | refine blk_alloc ?_ _)); refine blk_put (cs := #[.string (a0.extract (x6_2 : Int).toNat (x6_27 : Int).toNat), .int .i64 x123001_6, .bool x123002_6, .bool x123003_6, .bool x123004_6]) ?_ 4 _ rfl; (with_reducible repeat (first | refine blk_drewN ?_ _ | refine blk_drew ?_ | refine blk_alloc ?_ _)); exact BK122.out) k_ hk)); (case aO => exact (by (with_reducible repeat (first | apply Kd.R_alloc | apply Kd.R_drewN | apply Kd.R_drew)); exact Kd.R_mono (Kd.R_far (p := ⟨gb122, 4, none⟩) (Kd.R_mono HO_4.out (fun k_ hk => (⟨hk, hk⟩ : _ ∧ k_ ≠ gb122))) (fun _ hk => hk.2) (.bool true)) (fun _ hk => hk.1))); (case aS => exact (below_size (by repeat (first | (with_reducible first | exact HB.out | apply below_alloc | apply pw_below_drewN | apply below_drew1 | refine below_set ?_ GE103.out | refine below_set ?_ GE122.out) | exact HB.out)))); (case aL => have := LMc87.out; omega); intro v137 w90 ho hb hg hat; rw [← Ny136.out] at ho; have n0_ := Aside0.mk (blk_grown (g := gb103) (o := .cells #[.int .i64 x104000_6, .int .i64 x104001_6] 26 (0, 0)) (by (with_reducible repeat (first | refine blk_drewN ?_ _ | refine blk_drew ?_ | refine blk_alloc ?_ _)); refine blk_far ?_ NB103_122.out _; (with_reducible repeat (first | refine blk_drewN ?_ _ | refine blk_drew ?_ | refine blk_alloc ?_ _)); exact BK103.out) hg (Kd.R_ne HO_4.out BK103.out (by decide))); have n1_ := Aside0.mk (blk_grown (g := gb122) (o := .cells #[.string (a0.extract (x6_2 : Int).toNat (x6_27 : Int).toNat), .int .i64 x123001_6, .bool x123002_6, .bool x123003_6, .bool true] 49 (0, 0)) (by (with_reducible repeat (first | refine blk_drewN ?_ _ | refine blk_drew ?_ | refine blk_alloc ?_ _)); refine blk_put (cs := #[.string (a0.extract (x6_2 : Int).toNat (x6_27 : Int).toNat), .int .i64 x123001_6, .bool x123002_6, .bool x123003_6, .bool x123004_6]) ?_ 4 _ rfl; (with_reducible repeat (first | refine blk_drewN ?_ _ | refine blk_drew ?_ | refine blk_alloc ?_ _)); exact BK122.out) hg (Kd.R_away HO_4.out (fun _ hk => hk))); have n2_ := Aside0.mk (hb); have n3_ := Aside0.mk (ho); clear BK103; clear BK122; clear HB; clear HO_4; have BK103 := n0_; have BK122 := n1_; have HB := n2_; have HO138 := n3_; clear n0_ n1_ n2_ n3_; clear ho hb hg hat; have hcz91_0 : w90.cell? ⟨gb122, 0, none⟩ = some (.string (a0.extract (x6_2 : Int).toNat (x6_27 : Int).toNat)) := (blk_cell BK122.out 0).trans rfl; have hcz91_1 : w90.cell? ⟨gb122, 1, none⟩ = some (.int .i64 x123001_6) := (blk_cell BK122.out 1).trans rfl; have hcz91_2 : w90.cell? ⟨gb122, 2, none⟩ = some (.bool x123002_6) := (blk_cell BK122.out 2).trans rfl; have hcz91_3 : w90.cell? ⟨gb122, 3, none⟩ = some (.bool x123003_6) := (blk_cell BK122.out 3).trans rfl; have hcz91_4 : w90.cell? ⟨gb122, 4, none⟩ = some (.bool true) := (blk_cell BK122.out 4).trans rfl; have hfz91_0 := blk_frozen BK122.out 0; have hfz91_1 := blk_frozen BK122.out 1; have hfz91_2 := blk_frozen BK122.out 2; have hfz91_3 := blk_frozen BK122.out 3; have hfz91_4 := blk_frozen BK122.out 4))
                                                                  go_roundg kj61
                                                                  case measure => have := HK1.out; have := HJ2.out; have := HJ8.out; have := HJ12.out; have := HJ27.out; have := HK6.out; have := HJ49.out; have := HJ61.out; omega
                                                                  case rel => exact ⟨(y136), (wrap64 (x6_6 + 1)), (true), (x104000_6), (x104001_6), (by first | rfl | (simp; done) | (simp [*]; done)), (by first | rfl | (simp; done) | (simp [*]; done)), H', ⟨by have := HK1.out; have := HJ2.out; have := HJ8.out; have := HJ12.out; have := HJ27.out; have := HK6.out; have := HJ49.out; have := HJ61.out; omega⟩, ⟨by (with_reducible repeat (first | apply Kd.R_alloc | apply Kd.R_drewN | apply Kd.R_drew)); exact Kd.R_mono HO138.out (fun _ hk => trivial)⟩, ⟨by (with_reducible repeat (first | refine blk_drewN ?_ _ | refine blk_drew ?_ | refine blk_alloc ?_ _)); exact BK103.out⟩, ⟨by repeat (first | (with_reducible first | exact HB.out | apply below_alloc | apply pw_below_drewN | apply below_drew1 | refine below_set ?_ GE103.out | refine below_set ?_ GE122.out) | exact HB.out)⟩⟩
                                                                · rw [if_neg c87] at H
                                                                  exact absurd H (by simp)
                                                              · rw [if_neg c86] at H
                                                                have c86b0 : ((bt a0 x6_6) == 43) = false := beq_eq_false_iff_ne.mpr c86
                                                                try rw [c86b0] at H
                                                                have c86b1 : ((bt a0 x6_6) != 43) = true := bne_iff_ne.mpr c86
                                                                by_cases c92 : (bt a0 x6_6) = 32
                                                                · rw [if_pos c92] at H
                                                                  have c92b0 : ((bt a0 x6_6) == 32) = true := beq_iff_eq.mpr c92
                                                                  have c92b1 : ((bt a0 x6_6) != 32) = false := bne_eq_false_iff_eq.mpr c92
                                                                  clear c92
                                                                  by_cases c93 : x4_6.length < 4398046511104
                                                                  · rw [if_pos c93] at H
                                                                    have LMc93 := Aside0.mk c93
                                                                    clear c93
                                                                    obtain ⟨y139, hy139⟩ : ∃ y_ : List (S49), y_ = (x4_6 ++ [(⟨(a0.extract (x6_2 : Int).toNat (x6_27 : Int).toNat), x123001_6, x123002_6, x123003_6, false⟩ : S49)]) := ⟨_, rfl⟩
                                                                    replace H : (notation_Parse.l0 kj61 a0 y139 (wrap64 (x6_6 + 1)) false) = some (r1, r2, r3) := by first | (rw [hy139]; with_reducible exact H) | (have H2_ := (Option.bind_some _ _).symm.trans H; rw [hy139]; with_reducible exact H2_) | (have H2_ := (Option.bind_some _ _).symm.trans H; with_reducible exact H2_) | with_reducible exact H | (rw [hy139]; exact H) | exact H
                                                                    have Ny139 := Aside0.mk hy139
                                                                    clear hy139
                                                                    have H' := Aside0.mk H
                                                                    clear H
                                                                    have hnb94 := NB122_103.out
                                                                    have hnc94 := NB103_122.out
                                                                    have hcz95_0 : wc.cell? ⟨gb122, 0, none⟩ = some (.string (a0.extract (x6_2 : Int).toNat (x6_27 : Int).toNat)) := (blk_cell BK122.out 0).trans rfl
                                                                    have hcz95_1 : wc.cell? ⟨gb122, 1, none⟩ = some (.int .i64 x123001_6) := (blk_cell BK122.out 1).trans rfl
                                                                    have hcz95_2 : wc.cell? ⟨gb122, 2, none⟩ = some (.bool x123002_6) := (blk_cell BK122.out 2).trans rfl
                                                                    have hcz95_3 : wc.cell? ⟨gb122, 3, none⟩ = some (.bool x123003_6) := (blk_cell BK122.out 3).trans rfl
                                                                    have hcz95_4 : wc.cell? ⟨gb122, 4, none⟩ = some (.bool x123004_6) := (blk_cell BK122.out 4).trans rfl
                                                                    have hfz95_0 := blk_frozen BK122.out 0
                                                                    have hfz95_1 := blk_frozen BK122.out 1
                                                                    have hfz95_2 := blk_frozen BK122.out 2
                                                                    have hfz95_3 := blk_frozen BK122.out 3
                                                                    have hfz95_4 := blk_frozen BK122.out 4
                                                                    go_wp2_with (first | ((with_reducible refine gate_builtin (b := .append) (xs := #[.tmp 162, .tmp 164]) rfl ?_); (try (refine gate_guard (by rfl) ?_; dsimp only)); at_builtin; refine Kd.R_append k49 (w0 := w) w.heap.size rfl (.tmp 162) (.tmp 164) 23 49 (.agg #[(.string ⟨#[]⟩), (.int .i64 0), (.bool false), (.bool false), (.bool false)]) 32 rfl Try.underlying23 info49 rfl (by decide) (by omega) u4 x4_6 (⟨(a0.extract (x6_2 : Int).toNat (x6_27 : Int).toNat), x123001_6, x123002_6, x123003_6, false⟩ : S49) [.string (a0.extract (x6_2 : Int).toNat (x6_27 : Int).toNat), .int .i64 x123001_6, .bool x123002_6, .bool x123003_6, .bool false] (fun k_ => k_ ≠ gb122) (fun _ => False) rfl (by first | (go_simp; done) | (go_simp; rfl)) ?aP (fun _ hk => hk.elim) ?aF ?aO ?aB ?aS ?aL ?_; (case aP => exact k49_mkM _ _ _ (⟨(a0.extract (x6_2 : Int).toNat (x6_27 : Int).toNat), x123001_6, x123002_6, x123003_6, false⟩ : S49)); (case aB => exact (by repeat (first | (with_reducible first | exact HB.out | apply below_alloc | apply pw_below_drewN | apply below_drew1 | refine below_set ?_ GE103.out | refine below_set ?_ GE122.out) | exact HB.out))); (case aF => exact (fun k_ hk => Kd.freshB (g := gb122) (o := .cells #[.string (a0.extract (x6_2 : Int).toNat (x6_27 : Int).toNat), .int .i64 x123001_6, .bool x123002_6, .bool x123003_6, .bool false] 49 (0, 0)) (by (with_reducible repeat (first | refine blk_drewN ?_ _ | refine blk_drew ?_ | refine blk_alloc ?_ _)); refine blk_put (cs := #[.string (a0.extract (x6_2 : Int).toNat (x6_27 : Int).toNat), .int .i64 x123001_6, .bool x123002_6, .bool x123003_6, .bool x123004_6]) ?_ 4 _ rfl; (with_reducible repeat (first | refine blk_drewN ?_ _ | refine blk_drew ?_ | refine blk_alloc ?_ _)); exact BK122.out) k_ hk)); (case aO => exact (by (with_reducible repeat (first | apply Kd.R_alloc | apply Kd.R_drewN | apply Kd.R_drew)); exact Kd.R_mono (Kd.R_far (p := ⟨gb122, 4, none⟩) (Kd.R_mono HO_4.out (fun k_ hk => (⟨hk, hk⟩ : _ ∧ k_ ≠ gb122))) (fun _ hk => hk.2) (.bool false)) (fun _ hk => hk.1))); (case aS => exact (below_size (by repeat (first | (with_reducible first | exact HB.out | apply below_alloc | apply pw_below_drewN | apply below_drew1 | refine below_set ?_ GE103.out | refine below_set ?_ GE122.out) | exact HB.out)))); (case aL => have := LMc93.out; omega); intro v140 w96 ho hb hg hat; rw [← Ny139.out] at ho; have n0_ := Aside0.mk (blk_grown (g := gb103) (o := .cells #[.int .i64 x104000_6, .int .i64 x104001_6] 26 (0, 0)) (by (with_reducible repeat (first | refine blk_drewN ?_ _ | refine blk_drew ?_ | refine blk_alloc ?_ _)); refine blk_far ?_ NB103_122.out _; (with_reducible repeat (first | refine blk_drewN ?_ _ | refine blk_drew ?_ | refine blk_alloc ?_ _)); exact BK103.out) hg (Kd.R_ne HO_4.out BK103.out (by decide))); have n1_ := Aside0.mk (blk_grown (g := gb122) (o := .cells #[.string (a0.extract (x6_2 : Int).toNat (x6_27 : Int).toNat), .int .i64 x123001_6, .bool x123002_6, .bool x123003_6, .bool false] 49 (0, 0)) (by (with_reducible repeat (first | refine blk_drewN ?_ _ | refine blk_drew ?_ | refine blk_alloc ?_ _)); refine blk_put (cs := #[.string (a0.extract (x6_2 : Int).toNat (x6_27 : Int).toNat), .int .i64 x123001_6, .bool x123002_6, .bool x123003_6, .bool x123004_6]) ?_ 4 _ rfl; (with_reducible repeat (first | refine blk_drewN ?_ _ | refine blk_drew ?_ | refine blk_alloc ?_ _)); exact BK122.out) hg (Kd.R_away HO_4.out (fun _ hk => hk))); have n2_ := Aside0.mk (hb); have n3_ := Aside0.mk (ho); clear BK103; clear BK122; clear HB; clear HO_4; have BK103 := n0_; have BK122 := n1_; have HB := n2_; have HO141 := n3_; clear n0_ n1_ n2_ n3_; clear ho hb hg hat; have hcz97_0 : w96.cell? ⟨gb122, 0, none⟩ = some (.string (a0.extract (x6_2 : Int).toNat (x6_27 : Int).toNat)) := (blk_cell BK122.out 0).trans rfl; have hcz97_1 : w96.cell? ⟨gb122, 1, none⟩ = some (.int .i64 x123001_6) := (blk_cell BK122.out 1).trans rfl; have hcz97_2 : w96.cell? ⟨gb122, 2, none⟩ = some (.bool x123002_6) := (blk_cell BK122.out 2).trans rfl; have hcz97_3 : w96.cell? ⟨gb122, 3, none⟩ = some (.bool x123003_6) := (blk_cell BK122.out 3).trans rfl; have hcz97_4 : w96.cell? ⟨gb122, 4, none⟩ = some (.bool false) := (blk_cell BK122.out 4).trans rfl; have hfz97_0 := blk_frozen BK122.out 0; have hfz97_1 := blk_frozen BK122.out 1; have hfz97_2 := blk_frozen BK122.out 2; have hfz97_3 := blk_frozen BK122.out 3; have hfz97_4 := blk_frozen BK122.out 4))
                                                                    go_roundg kj61
                                                                    case measure => have := HK1.out; have := HJ2.out; have := HJ8.out; have := HJ12.out; have := HJ27.out; have := HK6.out; have := HJ49.out; have := HJ61.out; omega
                                                                    case rel => exact ⟨(y139), (wrap64 (x6_6 + 1)), (false), (x104000_6), (x104001_6), (by first | rfl | (simp; done) | (simp [*]; done)), (by first | rfl | (simp; done) | (simp [*]; done)), H', ⟨by have := HK1.out; have := HJ2.out; have := HJ8.out; have := HJ12.out; have := HJ27.out; have := HK6.out; have := HJ49.out; have := HJ61.out; omega⟩, ⟨by (with_reducible repeat (first | apply Kd.R_alloc | apply Kd.R_drewN | apply Kd.R_drew)); exact Kd.R_mono HO141.out (fun _ hk => trivial)⟩, ⟨by (with_reducible repeat (first | refine blk_drewN ?_ _ | refine blk_drew ?_ | refine blk_alloc ?_ _)); exact BK103.out⟩, ⟨by repeat (first | (with_reducible first | exact HB.out | apply below_alloc | apply pw_below_drewN | apply below_drew1 | refine below_set ?_ GE103.out | refine below_set ?_ GE122.out) | exact HB.out)⟩⟩
                                                                  · rw [if_neg c93] at H
                                                                    exact absurd H (by simp)
                                                                · rw [if_neg c92] at H
                                                                  have c92b0 : ((bt a0 x6_6) == 32) = false := beq_eq_false_iff_ne.mpr c92
                                                                  have c92b1 : ((bt a0 x6_6) != 32) = true := bne_iff_ne.mpr c92
                                                                  replace H := Option.bind_eq_some_iff.mp H
                                                                  obtain ⟨⟨t142, t145, t146⟩, A980, H⟩ := H
                                                                  replace H : (some (t142, t145, t146)) = some (r1, r2, r3) := H
                                                                  have A98 := Aside0.mk A980
                                                                  clear A980
                                                                  simp only [Option.some.injEq, Prod.mk.injEq] at H
                                                                  obtain ⟨rfl, rfl, rfl⟩ := H
                                                                  go_wp2_with (first | ((with_reducible refine gate_tmp (x := 99) rfl ?_); refine goesT_ 99 (some 101) (by rfl) rfl rfl Try.func25 (by kernel_rfl) rfl #[.int .i64 2, .int .i64 x6_6] rfl (by (try simp only [List.map_toArray, List.map_cons, List.map_nil]); first | done | rfl | (simp only [List.length_drop, List.length_take]; rfl)) ?_; (with_reducible refine (notation_Parse_1.calls 2 x6_6 t142 t145 t146 _ A98.out).mono ?_); rintro e w99 ⟨v143, rfl, ho0, hb⟩; refine ⟨_, rfl, ?_⟩; have n0_ := Aside0.mk (Kd.R_elder' (by (with_reducible repeat (first | apply Kd.R_alloc | apply Kd.R_drewN | apply Kd.R_drew)); exact HO_4.out) (Kd.R_base ho0) hb); have n1_ := Aside0.mk (Kd.R_lower (Kd.R_newB (Kd.R_new' ho0 (Kd.R_lt (by (with_reducible repeat (first | apply Kd.R_alloc | apply Kd.R_drewN | apply Kd.R_drew)); exact HO_4.out))) (g := gb122) (o := .cells #[.string (a0.extract (x6_2 : Int).toNat (x6_27 : Int).toNat), .int .i64 x123001_6, .bool x123002_6, .bool x123003_6, .bool x123004_6] 49 (0, 0)) (by (with_reducible repeat (first | refine blk_drewN ?_ _ | refine blk_drew ?_ | refine blk_alloc ?_ _)); exact BK122.out)) (below_size (by repeat (first | (with_reducible first | exact HB.out | apply below_alloc | apply pw_below_drewN | apply below_drew1 | refine below_set ?_ GE103.out | refine below_set ?_ GE122.out) | exact HB.out)))); have n2_ := Aside0.mk (blk_below (g := gb103) (o := .cells #[.int .i64 x104000_6, .int .i64 x104001_6] 26 (0, 0)) (by (with_reducible repeat (first | refine blk_drewN ?_ _ | refine blk_drew ?_ | refine blk_alloc ?_ _)); exact BK103.out) hb); have n3_ := Aside0.mk (blk_below (g := gb122) (o := .cells #[.string (a0.extract (x6_2 : Int).toNat (x6_27 : Int).toNat), .int .i64 x123001_6, .bool x123002_6, .bool x123003_6, .bool x123004_6] 49 (0, 0)) (by (with_reducible repeat (first | refine blk_drewN ?_ _ | refine blk_drew ?_ | refine blk_alloc ?_ _)); exact BK122.out) hb); have n4_ := Aside0.mk (below_step (by repeat (first | (with_reducible first | exact HB.out | apply below_alloc | apply pw_below_drewN | apply below_drew1 | refine below_set ?_ GE103.out | refine below_set ?_ GE122.out) | exact HB.out)) hb); clear HO_4; clear BK103; clear BK122; clear HB; have HO_4 := n0_; have HO144 := n1_; have BK103 := n2_; have BK122 := n3_; have HB := n4_; clear n0_ n1_ n2_ n3_ n4_; (try clear hb); (try clear hb2); (try clear hk); (try clear hi); (try clear ho0); have hnb100 := NB103_122.out; have hnc100 := NB122_103.out; have hcz101_0 : w99.cell? ⟨gb103, 0, none⟩ = some (.int .i64 x104000_6) := (blk_cell BK103.out 0).trans rfl; have hcz101_1 : w99.cell? ⟨gb103, 1, none⟩ = some (.int .i64 x104001_6) := (blk_cell BK103.out 1).trans rfl; have hfz101_0 := blk_frozen BK103.out 0; have hfz101_1 := blk_frozen BK103.out 1))
                                                                  (try (simp only [Exit.noGoto]; go_big_open)); refine bodyPost_ret (results_tc rfl _ _ gb103 26 #[.int .i64 t145, .int .i64 t146] (0, 0) _ rfl (by (with_reducible repeat (first | refine blk_drewN ?_ _ | refine blk_drew ?_ | refine blk_alloc ?_ _)); refine blk_put (cs := #[.int .i64 t145, .int .i64 x104001_6]) ?_ 1 _ rfl; (with_reducible repeat (first | refine blk_drewN ?_ _ | refine blk_drew ?_ | refine blk_alloc ?_ _)); refine blk_put (cs := #[.int .i64 x104000_6, .int .i64 x104001_6]) ?_ 0 _ rfl; (with_reducible repeat (first | refine blk_drewN ?_ _ | refine blk_drew ?_ | refine blk_alloc ?_ _)); exact BK103.out) Try.underlying26 rfl (by kernel_rfl)) rfl ?_
                                                                  exact ⟨_, by first | rfl | (simp [errW_none, errW_some] <;> rfl) | (simp [*, errW_none, errW_some] <;> rfl), by (with_reducible repeat (first | apply Kd.R_alloc | apply Kd.R_drewN | apply Kd.R_drew)); exact Kd.R_mono (Kd.R_far (p := ⟨gb103, 1, none⟩) (Kd.R_far (p := ⟨gb103, 0, none⟩) (Kd.R_types HO144.out BK103.out (by decide)) (fun _ hk => hk.2) (.int .i64 t145)) (fun _ hk => hk.2) (.int .i64 t146)) (fun _ hk => trivial), by repeat (first | (with_reducible first | exact HB.out | apply below_alloc | apply pw_below_drewN | apply below_drew1 | refine below_set ?_ GE103.out | refine below_set ?_ GE122.out) | exact HB.out)⟩
                                          · rw [if_neg c48] at H
                                            exact absurd H (by simp)
                                        · rw [if_neg c47] at H
                                          have c47b0 : decide (x6_6 < (a0.size : Int)) = false := decide_eq_false c47
                                          clear c47
                                          by_cases c102 : x4_6.length < 4398046511104
                                          · rw [if_pos c102] at H
                                            have LMc102 := Aside0.mk c102
                                            clear c102
                                            obtain ⟨y123, hy123⟩ : ∃ y_ : List (S49), y_ = (x4_6 ++ [(⟨(a0.extract (x6_2 : Int).toNat (x6_27 : Int).toNat), x123001_6, x123002_6, x123003_6, x123004_6⟩ : S49)]) := ⟨_, rfl⟩
                                            replace H : (some (y123, 0, 0)) = some (r1, r2, r3) := by first | (rw [hy123]; with_reducible exact H) | (have H2_ := (Option.bind_some _ _).symm.trans H; rw [hy123]; with_reducible exact H2_) | (have H2_ := (Option.bind_some _ _).symm.trans H; with_reducible exact H2_) | with_reducible exact H | (rw [hy123]; exact H) | exact H
                                            have Ny123 := Aside0.mk hy123
                                            clear hy123
                                            simp only [Option.some.injEq, Prod.mk.injEq] at H
                                            obtain ⟨rfl, rfl, rfl⟩ := H
                                            have hnb103 := NB122_103.out
                                            have hnc103 := NB103_122.out
                                            have hcz104_0 : wr.cell? ⟨gb122, 0, none⟩ = some (.string (a0.extract (x6_2 : Int).toNat (x6_27 : Int).toNat)) := (blk_cell BK122.out 0).trans rfl
                                            have hcz104_1 : wr.cell? ⟨gb122, 1, none⟩ = some (.int .i64 x123001_6) := (blk_cell BK122.out 1).trans rfl
                                            have hcz104_2 : wr.cell? ⟨gb122, 2, none⟩ = some (.bool x123002_6) := (blk_cell BK122.out 2).trans rfl
                                            have hcz104_3 : wr.cell? ⟨gb122, 3, none⟩ = some (.bool x123003_6) := (blk_cell BK122.out 3).trans rfl
                                            have hcz104_4 : wr.cell? ⟨gb122, 4, none⟩ = some (.bool x123004_6) := (blk_cell BK122.out 4).trans rfl
                                            have hfz104_0 := blk_frozen BK122.out 0
                                            have hfz104_1 := blk_frozen BK122.out 1
                                            have hfz104_2 := blk_frozen BK122.out 2
                                            have hfz104_3 := blk_frozen BK122.out 3
                                            have hfz104_4 := blk_frozen BK122.out 4
                                            go_wp2_with (first | ((with_reducible refine gate_builtin (b := .append) (xs := #[.tmp 170, .tmp 172]) rfl ?_); (try (refine gate_guard (by rfl) ?_; dsimp only)); at_builtin; refine Kd.R_append k49 (w0 := w) w.heap.size rfl (.tmp 170) (.tmp 172) 23 49 (.agg #[(.string ⟨#[]⟩), (.int .i64 0), (.bool false), (.bool false), (.bool false)]) 32 rfl Try.underlying23 info49 rfl (by decide) (by omega) u4 x4_6 (⟨(a0.extract (x6_2 : Int).toNat (x6_27 : Int).toNat), x123001_6, x123002_6, x123003_6, x123004_6⟩ : S49) [.string (a0.extract (x6_2 : Int).toNat (x6_27 : Int).toNat), .int .i64 x123001_6, .bool x123002_6, .bool x123003_6, .bool x123004_6] (fun k_ => k_ ≠ gb122) (fun _ => False) rfl rfl ?aP (fun _ hk => hk.elim) ?aF ?aO ?aB ?aS ?aL ?_; (case aP => exact k49_mkM _ _ _ (⟨(a0.extract (x6_2 : Int).toNat (x6_27 : Int).toNat), x123001_6, x123002_6, x123003_6, x123004_6⟩ : S49)); (case aB => exact (by repeat (first | (with_reducible first | exact HB.out | apply below_alloc | apply pw_below_drewN | apply below_drew1 | refine below_set ?_ GE103.out | refine below_set ?_ GE122.out) | exact HB.out))); (case aF => exact (fun k_ hk => Kd.freshB (g := gb122) (o := .cells #[.string (a0.extract (x6_2 : Int).toNat (x6_27 : Int).toNat), .int .i64 x123001_6, .bool x123002_6, .bool x123003_6, .bool x123004_6] 49 (0, 0)) (by (with_reducible repeat (first | refine blk_drewN ?_ _ | refine blk_drew ?_ | refine blk_alloc ?_ _)); exact BK122.out) k_ hk)); (case aO => exact (by (with_reducible repeat (first | apply Kd.R_alloc | apply Kd.R_drewN | apply Kd.R_drew)); exact HO_4.out)); (case aS => exact (below_size (by repeat (first | (with_reducible first | exact HB.out | apply below_alloc | apply pw_below_drewN | apply below_drew1 | refine below_set ?_ GE103.out | refine below_set ?_ GE122.out) | exact HB.out)))); (case aL => have := LMc102.out; omega); intro v124 w105 ho hb hg hat; rw [← Ny123.out] at ho; have n0_ := Aside0.mk (blk_grown (g := gb103) (o := .cells #[.int .i64 x104000_6, .int .i64 x104001_6] 26 (0, 0)) (by (with_reducible repeat (first | refine blk_drewN ?_ _ | refine blk_drew ?_ | refine blk_alloc ?_ _)); exact BK103.out) hg (Kd.R_ne HO_4.out BK103.out (by decide))); have n1_ := Aside0.mk (blk_grown (g := gb122) (o := .cells #[.string (a0.extract (x6_2 : Int).toNat (x6_27 : Int).toNat), .int .i64 x123001_6, .bool x123002_6, .bool x123003_6, .bool x123004_6] 49 (0, 0)) (by (with_reducible repeat (first | refine blk_drewN ?_ _ | refine blk_drew ?_ | refine blk_alloc ?_ _)); exact BK122.out) hg (Kd.R_away HO_4.out (fun _ hk => hk))); have n2_ := Aside0.mk (hb); have n3_ := Aside0.mk (ho); clear BK103; clear BK122; clear HB; clear HO_4; have BK103 := n0_; have BK122 := n1_; have HB := n2_; have HO125 := n3_; clear n0_ n1_ n2_ n3_; clear ho hb hg hat; have hcz106_0 : w105.cell? ⟨gb103, 0, none⟩ = some (.int .i64 x104000_6) := (blk_cell BK103.out 0).trans rfl; have hcz106_1 : w105.cell? ⟨gb103, 1, none⟩ = some (.int .i64 x104001_6) := (blk_cell BK103.out 1).trans rfl; have hfz106_0 := blk_frozen BK103.out 0; have hfz106_1 := blk_frozen BK103.out 1))
                                            (try (simp only [Exit.noGoto]; go_big_open)); refine bodyPost_ret (results_tc rfl _ _ gb103 26 #[.int .i64 0, .int .i64 0] (0, 0) _ rfl (by (with_reducible repeat (first | refine blk_drewN ?_ _ | refine blk_drew ?_ | refine blk_alloc ?_ _)); refine blk_put (cs := #[.int .i64 0, .int .i64 x104001_6]) ?_ 1 _ rfl; (with_reducible repeat (first | refine blk_drewN ?_ _ | refine blk_drew ?_ | refine blk_alloc ?_ _)); refine blk_put (cs := #[.int .i64 x104000_6, .int .i64 x104001_6]) ?_ 0 _ rfl; (with_reducible repeat (first | refine blk_drewN ?_ _ | refine blk_drew ?_ | refine blk_alloc ?_ _)); exact BK103.out) Try.underlying26 rfl (by kernel_rfl)) rfl ?_
                                            exact ⟨_, by first | rfl | (simp [errW_none, errW_some] <;> rfl) | (simp [*, errW_none, errW_some] <;> rfl), by (with_reducible repeat (first | apply Kd.R_alloc | apply Kd.R_drewN | apply Kd.R_drew)); exact Kd.R_mono (Kd.R_far (p := ⟨gb103, 1, none⟩) (Kd.R_far (p := ⟨gb103, 0, none⟩) (Kd.R_types HO125.out BK103.out (by decide)) (fun _ hk => hk.2) (.int .i64 0)) (fun _ hk => hk.2) (.int .i64 0)) (fun _ hk => trivial), by repeat (first | (with_reducible first | exact HB.out | apply below_alloc | apply pw_below_drewN | apply below_drew1 | refine below_set ?_ GE103.out | refine below_set ?_ GE122.out) | exact HB.out)⟩
                                          · rw [if_neg c102] at H
                                            exact absurd H (by simp)
                                  · replace c39 := Bool.eq_false_iff.mpr c39
                                    subst c39
                                    have H1 : ((notation_Parse_1.f 3 x6_2).bind fun bt117 => (some (bt117.1, bt117.2.1, bt117.2.2))) = some (r1, r2, r3) := by rw [if_neg (show ¬ (false = true) by decide)] at H; exact H
                                    clear H
                                    have H := H1
                                    clear H1
                                    replace H := Option.bind_eq_some_iff.mp H
                                    obtain ⟨⟨t117, t120, t121⟩, A1070, H⟩ := H
                                    replace H : (some (t117, t120, t121)) = some (r1, r2, r3) := H
                                    have A107 := Aside0.mk A1070
                                    clear A1070
                                    simp only [Option.some.injEq, Prod.mk.injEq] at H
                                    obtain ⟨rfl, rfl, rfl⟩ := H
                                    go_wp2_with (first | ((with_reducible refine gate_callee (f := 27) rfl ?_); refine goesL_ (some 78) rfl rfl Try.func27 (by kernel_rfl) rfl #[.string (a0.extract (x6_2 : Int).toNat (x6_27 : Int).toNat)] rfl (by (try simp only [List.map_toArray, List.map_cons, List.map_nil]); first | done | rfl | (simp only [List.length_drop, List.length_take]; rfl)) ?_; (with_reducible refine (ident_Code.calls (a0.extract (x6_2 : Int).toNat (x6_27 : Int).toNat) false _ A38.out).mono ?_); rintro e w108 ⟨rfl, hb⟩; refine ⟨_, rfl, ?_⟩; have n0_ := Aside0.mk (Kd.R_below (by (with_reducible repeat (first | apply Kd.R_alloc | apply Kd.R_drewN | apply Kd.R_drew)); exact HO_4.out) hb); have n1_ := Aside0.mk (blk_below (g := gb103) (o := .cells #[.int .i64 x104000_1, .int .i64 x104001_1] 26 (0, 0)) (by (with_reducible repeat (first | refine blk_drewN ?_ _ | refine blk_drew ?_ | refine blk_alloc ?_ _)); exact BK103.out) hb); have n2_ := Aside0.mk (below_step (by repeat (first | (with_reducible first | exact HB.out | apply below_alloc | apply pw_below_drewN | apply below_drew1 | refine below_set ?_ GE103.out) | exact HB.out)) hb); clear HO_4; clear BK103; clear HB; have HO_4 := n0_; have BK103 := n1_; have HB := n2_; clear n0_ n1_ n2_; (try clear hb); (try clear hb2); (try clear hk); (try clear hi)) | ((with_reducible refine gate_tmp (x := 80) rfl ?_); refine goesT_ 80 (some 82) (by rfl) rfl rfl Try.func25 (by kernel_rfl) rfl #[.int .i64 3, .int .i64 x6_2] rfl (by (try simp only [List.map_toArray, List.map_cons, List.map_nil]); first | done | rfl | (simp only [List.length_drop, List.length_take]; rfl)) ?_; (with_reducible refine (notation_Parse_1.calls 3 x6_2 t117 t120 t121 _ A107.out).mono ?_); rintro e w109 ⟨v118, rfl, ho0, hb⟩; refine ⟨_, rfl, ?_⟩; have n0_ := Aside0.mk (Kd.R_elder' (by (with_reducible repeat (first | apply Kd.R_alloc | apply Kd.R_drewN | apply Kd.R_drew)); exact HO_4.out) (Kd.R_base ho0) hb); have n1_ := Aside0.mk (Kd.R_lower (Kd.R_new' ho0 (Kd.R_lt (by (with_reducible repeat (first | apply Kd.R_alloc | apply Kd.R_drewN | apply Kd.R_drew)); exact HO_4.out))) (below_size (by repeat (first | (with_reducible first | exact HB.out | apply below_alloc | apply pw_below_drewN | apply below_drew1 | refine below_set ?_ GE103.out) | exact HB.out)))); have n2_ := Aside0.mk (blk_below (g := gb103) (o := .cells #[.int .i64 x104000_1, .int .i64 x104001_1] 26 (0, 0)) (by (with_reducible repeat (first | refine blk_drewN ?_ _ | refine blk_drew ?_ | refine blk_alloc ?_ _)); exact BK103.out) hb); have n3_ := Aside0.mk (below_step (by repeat (first | (with_reducible first | exact HB.out | apply below_alloc | apply pw_below_drewN | apply below_drew1 | refine below_set ?_ GE103.out) | exact HB.out)) hb); clear HO_4; clear BK103; clear HB; have HO_4 := n0_; have HO119 := n1_; have BK103 := n2_; have HB := n3_; clear n0_ n1_ n2_ n3_; (try clear hb); (try clear hb2); (try clear hk); (try clear hi); (try clear ho0); have hcz110_0 : w109.cell? ⟨gb103, 0, none⟩ = some (.int .i64 x104000_1) := (blk_cell BK103.out 0).trans rfl; have hcz110_1 : w109.cell? ⟨gb103, 1, none⟩ = some (.int .i64 x104001_1) := (blk_cell BK103.out 1).trans rfl; have hfz110_0 := blk_frozen BK103.out 0; have hfz110_1 := blk_frozen BK103.out 1))
                                    (try (simp only [Exit.noGoto]; go_big_open)); refine bodyPost_ret (results_tc rfl _ _ gb103 26 #[.int .i64 t120, .int .i64 t121] (0, 0) _ rfl (by (with_reducible repeat (first | refine blk_drewN ?_ _ | refine blk_drew ?_ | refine blk_alloc ?_ _)); refine blk_put (cs := #[.int .i64 t120, .int .i64 x104001_1]) ?_ 1 _ rfl; (with_reducible repeat (first | refine blk_drewN ?_ _ | refine blk_drew ?_ | refine blk_alloc ?_ _)); refine blk_put (cs := #[.int .i64 x104000_1, .int .i64 x104001_1]) ?_ 0 _ rfl; (with_reducible repeat (first | refine blk_drewN ?_ _ | refine blk_drew ?_ | refine blk_alloc ?_ _)); exact BK103.out) Try.underlying26 rfl (by kernel_rfl)) rfl ?_
                                    exact ⟨_, by first | rfl | (simp [errW_none, errW_some] <;> rfl) | (simp [*, errW_none, errW_some] <;> rfl), by (with_reducible repeat (first | apply Kd.R_alloc | apply Kd.R_drewN | apply Kd.R_drew)); exact Kd.R_mono (Kd.R_far (p := ⟨gb103, 1, none⟩) (Kd.R_far (p := ⟨gb103, 0, none⟩) (Kd.R_types HO119.out BK103.out (by decide)) (fun _ hk => hk.2) (.int .i64 t120)) (fun _ hk => hk.2) (.int .i64 t121)) (fun _ hk => trivial), by repeat (first | (with_reducible first | exact HB.out | apply below_alloc | apply pw_below_drewN | apply below_drew1 | refine below_set ?_ GE103.out) | exact HB.out)⟩
                                · rw [if_neg c37] at H
                                  exact absurd H (by simp)
                              · rw [if_neg c36] at H
                                exact absurd H (by simp)
                            · rw [if_neg c35] at H
                              exact absurd H (by simp)

end Go.Proofs.Ythaglbgembfpeaa.P
