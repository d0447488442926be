/- The plain law of notation's Parse: what it comes to, told once (parseS); the printed Lean function of the program's Parse comes to it. No Go in it. -/
import Derived.Test.YthaglbgembfpeaaP11
import Derived.Test.YthaglbgembfpeaaGCode
namespace Go.Proofs.Ythaglbgembfpeaa
open Go.RowKit Go.Proofs.Ythaglbgembfpeaa.P Go.Proofs.YthaglbgembfpeaaW.PrintWords Go.Proofs.YthaglbgembfpeaaW.PrintLast

theorem up {α : Type} {f : Nat → Option α} (h : ∀ k, LeO (f k) (f (k + 1))) {r : α} {K : Nat} (hK : f K = some r) : ∀ {K'}, K ≤ K' → f K' = some r := by
  intro K' hle
  induction K' with
  | zero => obtain rfl : K = 0 := by omega
            exact hK
  | succ n ih =>
    rcases Nat.lt_or_ge K (n + 1) with h1 | h1
    · exact h n r (ih (by omega))
    · obtain rfl : K = n + 1 := by omega
      exact hK

theorem wS (i : Nat) (h : i ≤ 100000) : wrap64 ((i : Int) + 1) = ((i + 1 : Nat) : Int) := by unfold wrap64; omega
theorem wD (d : Int) (h0 : 0 ≤ d) (h : d ≤ 100000) : wrap64 (d + 1) = d + 1 := by unfold wrap64; omega

def letB (b : Int) : Bool := decide (48 ≤ b ∧ b ≤ 57) || (decide (65 ≤ b ∧ b ≤ 90) || decide (97 ≤ b ∧ b ≤ 122))
theorem nletter (b : Int) : notation_letter.f b = some (letB b) := by
  unfold notation_letter.f letB
  repeat' split
  all_goals (rw [Option.some.injEq, Bool.eq_iff_iff]; simp only [Bool.or_eq_true, decide_eq_true_eq, true_iff, Bool.false_eq_true, false_iff]; omega)

def skipB (s : ByteArray) (i : Nat) : Nat := if _h : i < s.size then (if bt s i = 32 then skipB s (i + 1) else i) else i
termination_by s.size - i
def endL (s : ByteArray) (i : Nat) : Nat := if _h : i < s.size then (if letB (bt s i) = true then endL s (i + 1) else i) else i
termination_by s.size - i
inductive TR
  | err (c : Int) (i : Nat)
  | stop (i : Nat) (d : Int) (r v : Bool)
def tailS (s : ByteArray) (i : Nat) (d : Int) (r v : Bool) : TR :=
  if _h : i < s.size then
    (if bt s i = 60 then (if d = 9 then .err 6 i else tailS s (i + 1) (d + 1) r v)
     else if bt s i = 63 then (if r = true then .err 4 i else tailS s (i + 1) d true v)
     else if bt s i = 42 then (if v = true then .err 4 i else tailS s (i + 1) d r true)
     else .stop i d r v)
  else .stop i d r v
termination_by s.size - i
/-- An item at an offset, before which so many items stand: without the + behind it. -/
inductive IR
  | err (c : Int) (i : Nat)
  | ok (code : ByteArray) (d : Int) (r v : Bool) (i : Nat)
def itemS (s : ByteArray) (i before : Nat) : IR :=
  if endL s i = i then .err 2 i else if before = 30 then .err 6 i
  else if codeB (s.extract i (endL s i)) = true then (match tailS s (endL s i) 0 false false with
    | .err c e => .err c e
    | .stop e d r v => .ok (s.extract i (endL s i)) d r v e)
  else .err 3 i
/-- What Parse comes to, from an offset on; behind a + (j) no blanks are skipped. -/
def parseS : Nat → ByteArray → List S49 → Nat → Bool → List S49 × Int × Int
  | 0, _, _, _, _ => ([], 0, 0)
  | k + 1, s, l, i, j =>
    if j = false ∧ skipB s i = s.size then (l, 0, 0)
    else match itemS s (if j = true then i else skipB s i) l.length with
      | .err c e => ([], c, (e : Int))
      | .ok code d r v e =>
        if e < s.size then (if bt s e = 43 then parseS k s (l ++ [⟨code, d, r, v, true⟩]) (e + 1) true
          else if bt s e = 32 then parseS k s (l ++ [⟨code, d, r, v, false⟩]) (e + 1) false else ([], 2, (e : Int)))
        else (l ++ [⟨code, d, r, v, false⟩], 0, 0)

theorem skipB_bd (s : ByteArray) : ∀ n i, s.size - i = n → i ≤ s.size → i ≤ skipB s i ∧ skipB s i ≤ s.size ∧ (skipB s i < s.size → bt s (skipB s i) ≠ 32) := by
  intro n
  induction n with
  | zero => intro i h hi; rw [skipB, dif_neg (by omega)]; exact ⟨Nat.le_refl _, hi, fun h => by omega⟩
  | succ n ih =>
    intro i h hi
    rw [skipB, dif_pos (by omega)]
    by_cases hb : bt s i = 32
    · rw [if_pos hb]; have := ih (i + 1) (by omega) (by omega); exact ⟨by omega, this.2⟩
    · rw [if_neg hb]; exact ⟨Nat.le_refl _, hi, fun _ => hb⟩
theorem endL_bd (s : ByteArray) : ∀ n i, s.size - i = n → i ≤ s.size → i ≤ endL s i ∧ endL s i ≤ s.size ∧ (endL s i < s.size → letB (bt s (endL s i)) = false) := by
  intro n
  induction n with
  | zero => intro i h hi; rw [endL, dif_neg (by omega)]; exact ⟨Nat.le_refl _, hi, fun h => by omega⟩
  | succ n ih =>
    intro i h hi
    rw [endL, dif_pos (by omega)]
    by_cases hb : letB (bt s i) = true
    · rw [if_pos hb]; have := ih (i + 1) (by omega) (by omega); exact ⟨by omega, this.2⟩
    · rw [if_neg hb]; exact ⟨Nat.le_refl _, hi, fun _ => by simpa using hb⟩
theorem tailS_bd (s : ByteArray) : ∀ n i d r v, s.size - i = n → i ≤ s.size → 0 ≤ d → d ≤ 9 → (match tailS s i d r v with
    | .err _ e => i ≤ e ∧ e < s.size
    | .stop e d' _ _ => i ≤ e ∧ e ≤ s.size ∧ 0 ≤ d' ∧ d' ≤ 9 ∧ (e < s.size → bt s e ≠ 60 ∧ bt s e ≠ 63 ∧ bt s e ≠ 42)) := by
  intro n
  induction n with
  | zero => intro i d r v h hi h0 h9; rw [tailS, dif_neg (by omega)]; exact ⟨Nat.le_refl _, hi, h0, h9, fun h => by omega⟩
  | succ n ih =>
    intro i d r v h hi h0 h9
    have step : ∀ d' r' v', 0 ≤ d' → d' ≤ 9 → (match tailS s (i + 1) d' r' v' with
      | .err _ e => i ≤ e ∧ e < s.size
      | .stop e d'' _ _ => i ≤ e ∧ e ≤ s.size ∧ 0 ≤ d'' ∧ d'' ≤ 9 ∧ (e < s.size → bt s e ≠ 60 ∧ bt s e ≠ 63 ∧ bt s e ≠ 42)) := fun d' r' v' a b => by
      have := ih (i + 1) d' r' v' (by omega) (by omega) a b
      revert this
      cases tailS s (i + 1) d' r' v' with
      | err c e => exact fun h => ⟨by omega, h.2⟩
      | stop e d'' r'' v'' => exact fun h => ⟨by omega, h.2⟩
    rw [tailS, dif_pos (by omega)]
    by_cases b1 : bt s i = 60
    · rw [if_pos b1]
      by_cases e9 : d = 9
      · rw [if_pos e9]; exact ⟨Nat.le_refl _, by omega⟩
      · rw [if_neg e9]; exact step _ _ _ (by omega) (by omega)
    · rw [if_neg b1]
      by_cases b2 : bt s i = 63
      · rw [if_pos b2]
        cases r with
        | true => exact ⟨Nat.le_refl _, by omega⟩
        | false => exact step _ _ _ h0 h9
      · rw [if_neg b2]
        by_cases b3 : bt s i = 42
        · rw [if_pos b3]
          cases v with
          | true => exact ⟨Nat.le_refl _, by omega⟩
          | false => exact step _ _ _ h0 h9
        · rw [if_neg b3]; exact ⟨Nat.le_refl _, hi, h0, h9, fun _ => ⟨b1, b2, b3⟩⟩

section
variable {s : ByteArray} (hs : s.size ≤ 1500) {l : List S49}
include hs
theorem p_skip (R : List S49 × Int × Int) : ∀ n i, s.size - i = n → i ≤ s.size → ∀ K, notation_Parse.j2 K s l (skipB s i : Nat) false = some R → ∃ K', notation_Parse.l1 K' s l i false = some R := by
  intro n
  induction n with
  | zero =>
    intro i h hi K hK
    rw [skipB, dif_neg (by omega)] at hK
    exact ⟨K + 1, by rw [notation_Parse.l1, if_neg (by decide), if_neg (by omega)]; exact hK⟩
  | succ n ih =>
    intro i h hi K hK
    rw [skipB, dif_pos (by omega)] at hK
    by_cases hb : bt s i = 32
    · rw [if_pos hb] at hK
      obtain ⟨K', hK'⟩ := ih (i + 1) (by omega) (by omega) K hK
      exact ⟨K' + 1, by rw [notation_Parse.l1, if_neg (by decide), if_pos (by omega), if_pos (by omega), if_pos hb, wS i (by omega)]; exact hK'⟩
    · rw [if_neg hb] at hK
      exact ⟨K + 1, by rw [notation_Parse.l1, if_neg (by decide), if_pos (by omega), if_pos (by omega), if_neg hb]; exact hK⟩
theorem p_let (R : List S49 × Int × Int) (b : Int) : ∀ n i, s.size - i = n → i ≤ s.size → ∀ K, notation_Parse.j6 K s l (endL s i : Nat) b = some R → ∃ K', notation_Parse.l2 K' s l i b = some R := by
  intro n
  induction n with
  | zero =>
    intro i h hi K hK
    rw [endL, dif_neg (by omega)] at hK
    exact ⟨K + 1, by rw [notation_Parse.l2, if_neg (by omega)]; exact hK⟩
  | succ n ih =>
    intro i h hi K hK
    rw [endL, dif_pos (by omega)] at hK
    by_cases hb : letB (bt s i) = true
    · rw [if_pos hb] at hK
      obtain ⟨K', hK'⟩ := ih (i + 1) (by omega) (by omega) K hK
      exact ⟨K' + 1, by rw [notation_Parse.l2, if_pos (by omega), if_pos (by omega), nletter, Option.bind_some, if_pos hb, wS i (by omega)]; exact hK'⟩
    · rw [if_neg hb] at hK
      exact ⟨K + 1, by rw [notation_Parse.l2, if_pos (by omega), if_pos (by omega), nletter, Option.bind_some, if_neg hb]; exact hK⟩
theorem p_tail (code : ByteArray) : ∀ n i d r v, s.size - i = n → i ≤ s.size → 0 ≤ d → d ≤ 9 → (match tailS s i d r v with
    | .err c e => ∃ K, notation_Parse.l3 K s l i code d r v false = some ([], c, (e : Int))
    | .stop e d' r' v' => ∀ R K, notation_Parse.l3 K s l e code d' r' v' false = some R → ∃ K', notation_Parse.l3 K' s l i code d r v false = some R) := by
  intro n
  induction n with
  | zero => intro i d r v h hi h0 h9; rw [tailS, dif_neg (by omega)]; exact fun R K hK => ⟨K, hK⟩
  | succ n ih =>
    intro i d r v h hi h0 h9
    have lt : (i : Int) < (s.size : Int) := by omega
    have ge : 0 ≤ (i : Int) := by omega
    rw [tailS, dif_pos (by omega)]
    by_cases b1 : bt s i = 60
    · rw [if_pos b1]
      by_cases e9 : d = 9
      · rw [if_pos e9]
        refine ⟨2, ?_⟩
        rw [notation_Parse.l3, if_pos lt, if_pos ge, if_pos b1, notation_Parse.j8, if_pos (by rw [e9]; rfl)]
        rfl
      · rw [if_neg e9]
        have key : ∀ R K, notation_Parse.l3 K s l ((i + 1 : Nat) : Int) code (d + 1) r v false = some R → ∃ K', notation_Parse.l3 K' s l i code d r v false = some R := fun R K hK =>
          ⟨K + 2, by rw [notation_Parse.l3, if_pos lt, if_pos ge, if_pos b1, notation_Parse.j8, if_neg (by simpa using e9), if_pos b1, wS i (by omega), wD d h0 (by omega)]; exact hK⟩
        have := ih (i + 1) (d + 1) r v (by omega) (by omega) (by omega) (by omega)
        revert this
        cases tailS s (i + 1) (d + 1) r v with
        | err c e => rintro ⟨K, hK⟩; exact key _ K hK
        | stop e d' r' v' => intro hh R K hK; obtain ⟨K', hK'⟩ := hh R K hK; exact key R K' hK'
    · rw [if_neg b1]
      by_cases b2 : bt s i = 63
      · rw [if_pos b2]
        have n42 : ¬ bt s i = 42 := by omega
        cases r with
        | true =>
          refine ⟨3, ?_⟩
          rw [notation_Parse.l3, if_pos lt, if_pos ge, if_neg b1, notation_Parse.j8, if_neg (by decide), if_neg b1, if_pos b2, if_pos rfl, notation_Parse.j9, if_pos rfl]
          rfl
        | false =>
          have key : ∀ R K, notation_Parse.l3 K s l ((i + 1 : Nat) : Int) code d true v false = some R → ∃ K', notation_Parse.l3 K' s l i code d false v false = some R := fun R K hK =>
            ⟨K + 3, by rw [notation_Parse.l3, if_pos lt, if_pos ge, if_neg b1, notation_Parse.j8, if_neg (by decide), if_neg b1, if_pos b2, if_neg (by decide), if_neg n42, notation_Parse.j9, if_neg (by decide), if_pos b2, wS i (by omega)]; exact hK⟩
          have := ih (i + 1) d true v (by omega) (by omega) h0 h9
          rw [if_neg (by decide)]
          revert this
          cases tailS s (i + 1) d true v with
          | err c e => rintro ⟨K, hK⟩; exact key _ K hK
          | stop e d' r' v' => intro hh R K hK; obtain ⟨K', hK'⟩ := hh R K hK; exact key R K' hK'
      · rw [if_neg b2]
        by_cases b3 : bt s i = 42
        · rw [if_pos b3]
          cases v with
          | true =>
            refine ⟨3, ?_⟩
            rw [notation_Parse.l3, if_pos lt, if_pos ge, if_neg b1, notation_Parse.j8, if_neg (by decide), if_neg b1, if_neg b2, if_pos b3, notation_Parse.j9, if_pos rfl]
            rfl
          | false =>
            have key : ∀ R K, notation_Parse.l3 K s l ((i + 1 : Nat) : Int) code d r true false = some R → ∃ K', notation_Parse.l3 K' s l i code d r false false = some R := fun R K hK =>
              ⟨K + 3, by rw [notation_Parse.l3, if_pos lt, if_pos ge, if_neg b1, notation_Parse.j8, if_neg (by decide), if_neg b1, if_neg b2, if_pos b3, notation_Parse.j9, if_neg (by decide), if_neg b2, if_pos b3, wS i (by omega)]; exact hK⟩
            have := ih (i + 1) d r true (by omega) (by omega) h0 h9
            rw [if_neg (by decide)]
            revert this
            cases tailS s (i + 1) d r true with
            | err c e => rintro ⟨K, hK⟩; exact key _ K hK
            | stop e d' r' v' => intro hh R K hK; obtain ⟨K', hK'⟩ := hh R K hK; exact key R K' hK'
        · rw [if_neg b3]; exact fun R K hK => ⟨K, hK⟩
/-- Behind the flags. -/
theorem p_fin (code : ByteArray) (e : Nat) (d : Int) (r v : Bool) (he : e ≤ s.size) (hb : e < s.size → bt s e ≠ 60 ∧ bt s e ≠ 63 ∧ bt s e ≠ 42) (hl : l.length ≤ 29) (fuel : Nat)
    (ih : e < s.size → ∀ x j, ∃ K, notation_Parse.l0 K s (l ++ [x]) ((e + 1 : Nat) : Int) j = some (parseS fuel s (l ++ [x]) (e + 1) j)) :
    ∃ K, notation_Parse.l3 K s l e code d r v false = some (if e < s.size then (if bt s e = 43 then parseS fuel s (l ++ [⟨code, d, r, v, true⟩]) (e + 1) true
          else if bt s e = 32 then parseS fuel s (l ++ [⟨code, d, r, v, false⟩]) (e + 1) false else ([], 2, (e : Int)))
        else (l ++ [⟨code, d, r, v, false⟩], 0, 0)) := by
  by_cases lt : e < s.size
  · obtain ⟨n60, n63, n42⟩ := hb lt
    have lt' : (e : Int) < (s.size : Int) := by omega
    rw [if_pos lt]
    have walk : ∀ K, notation_Parse.l3 (K + 3) s l e code d r v false = (if bt s e = 43 then (if l.length < 4398046511104 then (notation_Parse.l0 K s (l ++ [(⟨code, d, r, v, (bt s e == 43)⟩ : S49)]) (wrap64 (e + 1)) (bt s e == 43)) else (none)) else (if bt s e = 32 then (if l.length < 4398046511104 then (notation_Parse.l0 K s (l ++ [(⟨code, d, r, v, (bt s e == 43)⟩ : S49)]) (wrap64 (e + 1)) (bt s e == 43)) else (none)) else some ([], 2, (e : Int)))) := fun K => by
      rw [notation_Parse.l3, if_pos lt', if_pos (by omega), if_neg n60, notation_Parse.j8, if_neg (by decide), if_neg n60, if_neg n63, if_neg n42, notation_Parse.j9, if_neg (by decide), if_neg n63, if_neg n42]
      rfl
    by_cases b43 : bt s e = 43
    · obtain ⟨K, hK⟩ := ih lt ⟨code, d, r, v, true⟩ true
      refine ⟨K + 3, ?_⟩
      rw [walk, if_pos b43, if_pos b43, if_pos (by omega), wS e (by omega), show (bt s e == 43) = true by rw [b43]; rfl]
      exact hK
    · by_cases b32 : bt s e = 32
      · obtain ⟨K, hK⟩ := ih lt ⟨code, d, r, v, false⟩ false
        refine ⟨K + 3, ?_⟩
        rw [walk, if_neg b43, if_neg b43, if_pos b32, if_pos b32, if_pos (by omega), wS e (by omega), show (bt s e == 43) = false by rw [b32]; rfl]
        exact hK
      · refine ⟨3, ?_⟩
        rw [walk, if_neg b43, if_neg b43, if_neg b32, if_neg b32]
  · refine ⟨1, ?_⟩
    rw [if_neg lt, notation_Parse.l3, if_neg (by omega), if_pos (by omega)]
omit hs in
theorem endL_self (a : Nat) : endL s a = a ↔ ¬ (a < s.size ∧ letB (bt s a) = true) := by
  rw [endL]
  split
  · rename_i h
    split
    · rename_i hb
      have := (endL_bd s _ (a + 1) rfl (by omega)).1
      exact ⟨fun e => by omega, fun e => absurd ⟨h, hb⟩ e⟩
    · rename_i hb; exact ⟨fun _ e => hb e.2, fun _ => rfl⟩
  · rename_i h; exact ⟨fun _ e => h e.1, fun _ => rfl⟩
/-- An item, from where it may begin. -/
theorem p_item (a : Nat) (ha : a ≤ s.size) (j : Bool) (hj : a = s.size → j = true) (hl : l.length ≤ 30) (fuel : Nat)
    (ih : l.length ≤ 29 → ∀ e, a < e → e < s.size → ∀ x j, ∃ K, notation_Parse.l0 K s (l ++ [x]) ((e + 1 : Nat) : Int) j = some (parseS fuel s (l ++ [x]) (e + 1) j)) :
    ∃ K, notation_Parse.j2 K s l a j = some (match itemS s a l.length with
      | .err c e => ([], c, (e : Int))
      | .ok code d r v e =>
        if e < s.size then (if bt s e = 43 then parseS fuel s (l ++ [⟨code, d, r, v, true⟩]) (e + 1) true
          else if bt s e = 32 then parseS fuel s (l ++ [⟨code, d, r, v, false⟩]) (e + 1) false else ([], 2, (e : Int)))
        else (l ++ [⟨code, d, r, v, false⟩], 0, 0)) := by
  have red : ∃ K0, ∀ K, notation_Parse.j2 (K + K0) s l a j = notation_Parse.j4 K s l a (!(decide (a < s.size) && letB (bt s a))) := by
    by_cases lt : a < s.size
    · refine ⟨2, fun K => ?_⟩
      rw [notation_Parse.j2, if_neg (by omega), notation_Parse.j3, if_neg (by decide), if_neg (by omega), if_pos (by omega), if_pos (by omega), nletter, Option.bind_some, decide_eq_true lt, Bool.true_and]
    · refine ⟨2, fun K => ?_⟩
      have e : a = s.size := by omega
      rw [notation_Parse.j2, if_pos (by omega), hj e, notation_Parse.j3, if_neg (by decide), if_pos (by omega), decide_eq_false lt]
      rfl
  obtain ⟨K0, red⟩ := red
  by_cases hlet : a < s.size ∧ letB (bt s a) = true
  · have hne : ¬ endL s a = a := fun e => (endL_self a).1 e hlet
    have hbd := endL_bd s _ a rfl ha
    rw [hlet.2, decide_eq_true hlet.1] at red
    unfold itemS
    rw [if_neg hne]
    by_cases h30 : l.length = 30
    · refine ⟨1 + K0, ?_⟩
      rw [red, notation_Parse.j4, if_neg (by decide), if_pos (by omega), if_pos h30]
      rfl
    · rw [if_neg h30]
      have tw : ∀ R K, notation_Parse.j6 K s l (endL s a : Nat) (a : Int) = some R → ∃ K, notation_Parse.j2 K s l a j = some R := fun R K hK => by
        obtain ⟨K1, h1⟩ := p_let hs (l := l) R (a : Int) _ a rfl ha K hK
        exact ⟨K1 + 1 + K0, by rw [red, notation_Parse.j4, if_neg (by decide), if_neg (by omega)]; exact h1⟩
      have hcode : ident_Code.f (s.extract a (endL s a)) = some (codeB (s.extract a (endL s a))) := by
        unfold ident_Code.f
        rw [if_pos (by rw [ByteArray.size_extract]; omega)]
      have j6 : ∀ K, notation_Parse.j6 (K + 1) s l (endL s a : Nat) (a : Int) = (if codeB (s.extract a (endL s a)) = true then notation_Parse.l3 K s l (endL s a : Nat) (s.extract a (endL s a)) 0 false false false else some ([], 3, (a : Int))) := fun K => by
        rw [notation_Parse.j6, if_pos (by omega), if_pos (by omega), if_pos (by omega), Int.toNat_natCast, Int.toNat_natCast, hcode, Option.bind_some]
        rfl
      by_cases hc : codeB (s.extract a (endL s a)) = true
      · rw [if_pos hc]
        have ht := p_tail hs (l := l) (s.extract a (endL s a)) _ (endL s a) 0 false false rfl hbd.2.1 (by omega) (by omega)
        have hd := tailS_bd s _ (endL s a) 0 false false rfl hbd.2.1 (by omega) (by omega)
        revert ht hd
        cases tailS s (endL s a) 0 false false with
        | err c e =>
          rintro ⟨K, hK⟩ _
          exact tw _ (K + 1) (by rw [j6, if_pos hc]; exact hK)
        | stop e d r v =>
          intro ht ⟨h1, h2, h3, h4, h5⟩
          obtain ⟨K, hK⟩ := p_fin hs (l := l) (s.extract a (endL s a)) e d r v h2 h5 (by omega) fuel (fun lt => ih (by omega) e (by omega) lt)
          obtain ⟨K', hK'⟩ := ht _ K hK
          exact tw _ (K' + 1) (by rw [j6, if_pos hc]; exact hK')
      · rw [if_neg hc]
        exact tw _ 1 (by rw [j6, if_neg hc])
  · have he : endL s a = a := (endL_self a).2 hlet
    unfold itemS
    rw [if_pos he]
    refine ⟨1 + K0, ?_⟩
    have hf : (decide (a < s.size) && letB (bt s a)) = false := by
      rw [Bool.and_eq_false_iff]
      by_cases lt : a < s.size
      · exact .inr (by simpa using fun h => hlet ⟨lt, h⟩)
      · exact .inl (decide_eq_false lt)
    rw [red, hf, notation_Parse.j4, if_pos (show (!false) = true from rfl)]
    rfl
theorem p_main : ∀ fuel i j (l : List S49), s.size - i < fuel → i ≤ s.size → l.length ≤ 30 → ∃ K, notation_Parse.l0 K s l i j = some (parseS fuel s l i j) := by
  intro fuel
  induction fuel with
  | zero => intro i j l h; omega
  | succ fuel IH =>
    intro i j l h hi hl
    have hsk := skipB_bd s _ i rfl hi
    have ih : ∀ a, i ≤ a → l.length ≤ 29 → ∀ e, a < e → e < s.size → ∀ x j, ∃ K, notation_Parse.l0 K s (l ++ [x]) ((e + 1 : Nat) : Int) j = some (parseS fuel s (l ++ [x]) (e + 1) j) := fun a ha hl e h1 h2 x j =>
      IH (e + 1) j (l ++ [x]) (by omega) (by omega) (by rw [List.length_append]; simp; omega)
    unfold parseS
    cases j with
    | true =>
      rw [if_neg (by simp), if_pos rfl]
      obtain ⟨K, hK⟩ := p_item hs (l := l) i hi true (fun _ => rfl) hl fuel (ih i (Nat.le_refl _))
      exact ⟨K + 2, by rw [notation_Parse.l0, notation_Parse.l1, if_pos rfl]; exact hK⟩
    | false =>
      have tw : ∀ R K, notation_Parse.j2 K s l (skipB s i : Nat) false = some R → ∃ K, notation_Parse.l0 K s l i false = some R := fun R K hK => by
        obtain ⟨K1, h1⟩ := p_skip hs (l := l) R _ i rfl hi K hK
        exact ⟨K1 + 1, by rw [notation_Parse.l0]; exact h1⟩
      by_cases e : skipB s i = s.size
      · rw [if_pos ⟨rfl, e⟩]
        exact tw _ 2 (by rw [notation_Parse.j2, if_pos (by omega), notation_Parse.j3, if_pos (show (!false) = true from rfl)])
      · rw [if_neg (fun h => e h.2), if_neg (by decide)]
        obtain ⟨K, hK⟩ := p_item hs (l := l) (skipB s i) hsk.2.1 false (fun h => absurd h e) hl fuel (ih _ hsk.1)
        exact tw _ K hK
/-- What the program's Parse comes to. -/
theorem parse_is : ∃ K, notation_Parse.f K s = some (parseS (s.size + 1) s [] 0 false) := p_main hs (s.size + 1) 0 false [] (by omega) (by omega) (by simp)
end
theorem itemS_err {s : ByteArray} {a b e : Nat} {c : Int} (h : itemS s a b = .err c e) : c = 2 ∨ c = 3 ∨ c = 4 ∨ c = 6 := by
  have ht : ∀ n i d r v c e, s.size - i = n → tailS s i d r v = .err c e → c = 4 ∨ c = 6 := by
    intro n
    induction n with
    | zero => intro i d r v c e h ht; rw [tailS, dif_neg (by omega)] at ht; cases ht
    | succ n ih =>
      intro i d r v c e h ht
      rw [tailS, dif_pos (by omega)] at ht
      split at ht
      · split at ht
        · injection ht with ht _; exact .inr ht.symm
        · exact ih _ _ _ _ _ _ (by omega) ht
      · split at ht
        · split at ht
          · injection ht with ht _; exact .inl ht.symm
          · exact ih _ _ _ _ _ _ (by omega) ht
        · split at ht
          · split at ht
            · injection ht with ht _; exact .inl ht.symm
            · exact ih _ _ _ _ _ _ (by omega) ht
          · cases ht
  unfold itemS at h
  split at h
  · injection h with h _; exact .inl h.symm
  · split at h
    · injection h with h _; exact .inr (.inr (.inr h.symm))
    · split at h
      · split at h
        · rename_i heq
          injection h with h _
          rcases ht _ _ _ _ _ _ _ rfl heq with h' | h'
          · exact .inr (.inr (.inl (h ▸ h')))
          · exact .inr (.inr (.inr (h ▸ h')))
        · cases h
      · injection h with h _; exact .inr (.inl h.symm)
theorem itemS_ok {s : ByteArray} {a b e : Nat} {code : ByteArray} {d : Int} {r v : Bool} (ha : a ≤ s.size) (h : itemS s a b = .ok code d r v e) : a < e ∧ e ≤ s.size ∧ b ≠ 30 := by
  unfold itemS at h
  split at h
  · cases h
  · rename_i hne
    split at h
    · cases h
    · rename_i h30
      split at h
      · have hbd := endL_bd s _ a rfl ha
        have hd := tailS_bd s _ (endL s a) 0 false false rfl hbd.2.1 (by omega) (by omega)
        split at h
        · cases h
        · rename_i heq
          injection h with _ _ _ _ h
          subst h
          rw [heq] at hd
          exact ⟨by omega, hd.2.1, h30⟩
      · cases h

theorem parseS_len (s : ByteArray) : ∀ fuel i j (l : List S49), i ≤ s.size → l.length ≤ 30 → (parseS fuel s l i j).1.length ≤ 30 := by
  intro fuel
  induction fuel with
  | zero => intro i j l _ _; simp [parseS]
  | succ fuel ih =>
    intro i j l hi hl
    unfold parseS
    split
    · exact hl
    · have ha : (if j = true then i else skipB s i) ≤ s.size := by split; exact hi; exact (skipB_bd s _ i rfl hi).2.1
      cases hI : itemS s (if j = true then i else skipB s i) l.length with
      | err c e => simp
      | ok code d r v e =>
        obtain ⟨_, _, h30⟩ := itemS_ok ha hI
        have h1 : ∀ x : S49, (l ++ [x]).length ≤ 30 := fun x => by rw [List.length_append]; simp; omega
        show (if e < s.size then _ else _ : List S49 × Int × Int).1.length ≤ 30
        split
        · split
          · exact ih _ _ _ (by omega) (h1 _)
          · split
            · exact ih _ _ _ (by omega) (h1 _)
            · simp
        · exact h1 _
end Go.Proofs.Ythaglbgembfpeaa
