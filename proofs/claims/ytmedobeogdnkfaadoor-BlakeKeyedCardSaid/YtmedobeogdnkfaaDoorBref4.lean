/- The words of a block by sums of shifted bytes: plain laws for the walk over the reference's block. -/
import Derived.Test.YtmedobeogdnkfaaDoorBref2
import Derived.Test.YtmedobeogdnkfaaDoorBkey
namespace Go.Proofs.YtmedobeogdnkfaaDoor
open Go.RowKit

theorem u32_or_nat (a b : Nat) (ha : a < 4294967296) (hb : b < 4294967296) : bits .or .u32 (a : Int) (b : Int) = ((a ||| b : Nat) : Int) := by
  have hx : a ||| b < 2 ^ 32 := Nat.or_lt_two_pow (by omega) (by omega)
  have h1 : (BitVec.ofInt 32 (a : Int)).toNat = a := by
    rw [BitVec.ofInt_natCast, BitVec.toNat_ofNat]; exact Nat.mod_eq_of_lt (by omega)
  have h2 : (BitVec.ofInt 32 (b : Int)).toNat = b := by
    rw [BitVec.ofInt_natCast, BitVec.toNat_ofNat]; exact Nat.mod_eq_of_lt (by omega)
  show IntKind.u32.wrap ((BitVec.ofInt 32 (a : Int) ||| BitVec.ofInt 32 (b : Int)).toNat : Int) = _
  rw [BitVec.toNat_or, h1, h2, IntKind.wrap_u32]
  omega
theorem or_shift {x b : Int} {k : Nat} (hk : k ≤ 3) (hx0 : 0 ≤ x) (hx1 : x < 2 ^ (8 * k)) (hb0 : 0 ≤ b) (hb1 : b < 256) : bits .or .u32 x (b * 2 ^ (8 * k) % 4294967296) = x + b * 2 ^ (8 * k) := by
  obtain ⟨n, rfl⟩ := Int.eq_ofNat_of_zero_le hx0
  obtain ⟨m, rfl⟩ := Int.eq_ofNat_of_zero_le hb0
  have hn : n < 2 ^ (8 * k) := by exact_mod_cast hx1
  have hm : m < 256 := by omega
  have hp : m * 2 ^ (8 * k) < 4294967296 := by
    rcases (show k = 0 ∨ k = 1 ∨ k = 2 ∨ k = 3 from by omega) with rfl | rfl | rfl | rfl <;> simp <;> omega
  have hn' : n < 4294967296 := by
    rcases (show k = 0 ∨ k = 1 ∨ k = 2 ∨ k = 3 from by omega) with rfl | rfl | rfl | rfl <;> simp at hn <;> omega
  have e : ((m : Int) * 2 ^ (8 * k) % 4294967296) = ((m * 2 ^ (8 * k) : Nat) : Int) := by
    have : ((m * 2 ^ (8 * k) : Nat) : Int) = (m : Int) * 2 ^ (8 * k) := by push_cast; rfl
    rw [← this]; omega
  rw [e, u32_or_nat _ _ hn' hp, Nat.or_comm, Nat.mul_comm m, ← Nat.two_pow_add_eq_or_of_lt hn]
  push_cast
  rw [Int.mul_comm, Int.add_comm]
theorem wpart_sum {b : Nat → Int} (hb : ∀ j, 0 ≤ b j ∧ b j < 256) (j : Nat) : wordsOf b j = b (4 * j) + b (4 * j + 1) * 256 + b (4 * j + 2) * 65536 + b (4 * j + 3) * 16777216 := by
  have h0 := hb (4 * j)
  have h1 := hb (4 * j + 1)
  have h2 := hb (4 * j + 2)
  have h3 := hb (4 * j + 3)
  have w1 : wpart b j 1 = b (4 * j) := by
    have := or_shift (x := 0) (b := b (4 * j)) (k := 0) (by omega) (by omega) (by decide) h0.1 h0.2
    show bits BinOp.or IntKind.u32 0 (b (4 * j + 0) * 2 ^ (8 * 0) % 4294967296) = _
    rw [Nat.add_zero, this]; omega
  have w2 : wpart b j 2 = b (4 * j) + b (4 * j + 1) * 256 := by
    have := or_shift (x := b (4 * j)) (b := b (4 * j + 1)) (k := 1) (by omega) h0.1 (by rw [show (2 : Int) ^ (8 * 1) = 256 from rfl]; omega) h1.1 h1.2
    show bits BinOp.or IntKind.u32 (wpart b j 1) (b (4 * j + 1) * 2 ^ (8 * 1) % 4294967296) = _
    rw [w1, this]; rfl
  have w3 : wpart b j 3 = b (4 * j) + b (4 * j + 1) * 256 + b (4 * j + 2) * 65536 := by
    have := or_shift (x := b (4 * j) + b (4 * j + 1) * 256) (b := b (4 * j + 2)) (k := 2) (by omega) (by omega) (by rw [show (2 : Int) ^ (8 * 2) = 65536 from rfl]; omega) h2.1 h2.2
    show bits BinOp.or IntKind.u32 (wpart b j 2) (b (4 * j + 2) * 2 ^ (8 * 2) % 4294967296) = _
    rw [w2, this]; rfl
  have := or_shift (x := b (4 * j) + b (4 * j + 1) * 256 + b (4 * j + 2) * 65536) (b := b (4 * j + 3)) (k := 3) (by omega) (by omega) (by rw [show (2 : Int) ^ (8 * 3) = 16777216 from rfl]; omega) h3.1 h3.2
  show bits BinOp.or IntKind.u32 (wpart b j 3) (b (4 * j + 3) * 2 ^ (8 * 3) % 4294967296) = _
  rw [w3, this]; rfl
/-- The words of the message, i of them done. -/
theorem wordsUpTo_next' (b : Nat → Int) (i : Nat) : upd (wordsUpTo b i 0) i (wordsOf b i) = wordsUpTo b (i + 1) 0 := by
  funext j
  simp only [upd, wordsUpTo, wordsOf]
  by_cases e : j = i
  · subst e; simp
  · by_cases hj : j < i
    · simp [e, hj, show j < i + 1 by omega]
    · by_cases h2 : j = i + 1
      · subst h2; simp [wpart]; intro h; omega
      · simp [e, hj, show ¬ j < i + 1 by omega, h2]
theorem xor_assoc32 (a b c : Int) : bits .xor .u32 (bits .xor .u32 a b) c = bits .xor .u32 a (bits .xor .u32 b c) := by
  have e : ∀ x y : Int, bits .xor .u32 x y = IntKind.u32.wrap ((BitVec.ofInt 32 x ^^^ BitVec.ofInt 32 y).toNat : Int) := fun _ _ => rfl
  have r : ∀ v : BitVec 32, BitVec.ofInt 32 (IntKind.u32.wrap (v.toNat : Int)) = v := by
    intro v
    have := v.isLt
    rw [IntKind.wrap_u32, show ((v.toNat : Int) % 4294967296) = ((v.toNat : Nat) : Int) by omega, BitVec.ofInt_natCast, BitVec.ofNat_toNat, BitVec.setWidth_eq]
  rw [e, e, e, e, r, r, BitVec.xor_assoc]
end Go.Proofs.YtmedobeogdnkfaaDoor
