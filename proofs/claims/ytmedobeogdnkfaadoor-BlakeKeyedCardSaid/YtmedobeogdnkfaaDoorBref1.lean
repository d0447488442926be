/- The walks over the reference's rotr. -/
import Derived.Test.YtmedobeogdnkfaaDoorBhash
import Derived.Test.YtmedobeogdnkfaaDoorBnew
namespace Go.Proofs.YtmedobeogdnkfaaDoor
open Go.RowKit

theorem or_comm' (a b : Int) : bits BinOp.or IntKind.u32 a b = bits BinOp.or IntKind.u32 b a := by
  show IntKind.u32.wrap ((BitVec.ofInt 32 a ||| BitVec.ofInt 32 b).toNat : Int) = IntKind.u32.wrap ((BitVec.ofInt 32 b ||| BitVec.ofInt 32 a).toNat : Int)
  rw [BitVec.or_comm]

theorem rotr16 (x : Int) (w : World) : Calls Tryd.prog 35 #[.int .u32 x, .int .u64 16] w fun e w' => e = .returned (.int .u32 (rot 65536 65536 x)) ∧ w = w' := by
  go_enter Tryd.func35, Tryd.ntmps35
  go_wp2
  go_ret
  refine ⟨?_, rfl⟩
  rw [rot, or_comm']; rfl
theorem rotr12 (x : Int) (w : World) : Calls Tryd.prog 35 #[.int .u32 x, .int .u64 12] w fun e w' => e = .returned (.int .u32 (rot 1048576 4096 x)) ∧ w = w' := by
  go_enter Tryd.func35, Tryd.ntmps35
  go_wp2
  go_ret
  refine ⟨?_, rfl⟩
  rw [rot, or_comm']; rfl
theorem rotr8 (x : Int) (w : World) : Calls Tryd.prog 35 #[.int .u32 x, .int .u64 8] w fun e w' => e = .returned (.int .u32 (rot 16777216 256 x)) ∧ w = w' := by
  go_enter Tryd.func35, Tryd.ntmps35
  go_wp2
  go_ret
  refine ⟨?_, rfl⟩
  rw [rot, or_comm']; rfl
theorem rotr7 (x : Int) (w : World) : Calls Tryd.prog 35 #[.int .u32 x, .int .u64 7] w fun e w' => e = .returned (.int .u32 (rot 33554432 128 x)) ∧ w = w' := by
  go_enter Tryd.func35, Tryd.ntmps35
  go_wp2
  go_ret
  refine ⟨?_, rfl⟩
  rw [rot, or_comm']; rfl

theorem refmix_pure {p0 p1 p2 p3 : Nat} {v f0 f1 f2 f3 f4 f5 f6 f7 f8 : Nat → Int} {x y va vb vc vd a1 d1 c1 b1 a2 d2 c2 b2 : Int} (d01 : p0 ≠ p1) (d02 : p0 ≠ p2) (d03 : p0 ≠ p3) (d12 : p1 ≠ p2) (d13 : p1 ≠ p3) (d23 : p2 ≠ p3)
    (hv : va = v p0 ∧ vb = v p1 ∧ vc = v p2 ∧ vd = v p3)
    (ha1 : a1 = (va + vb + x) % 4294967296) (hd1 : d1 = rot 65536 65536 (bits BinOp.xor IntKind.u32 vd a1)) (hc1 : c1 = (vc + d1) % 4294967296) (hb1 : b1 = rot 1048576 4096 (bits BinOp.xor IntKind.u32 vb c1))
    (ha2 : a2 = (a1 + b1 + y) % 4294967296) (hd2 : d2 = rot 16777216 256 (bits BinOp.xor IntKind.u32 d1 a2)) (hc2 : c2 = (c1 + d2) % 4294967296) (hb2 : b2 = rot 33554432 128 (bits BinOp.xor IntKind.u32 b1 c2))
    (hf0 : f0 = v) (hf1 : f1 = upd f0 p0 a1) (hf2 : f2 = upd f1 p3 d1) (hf3 : f3 = upd f2 p2 c1) (hf4 : f4 = upd f3 p1 b1) (hf5 : f5 = upd f4 p0 a2) (hf6 : f6 = upd f5 p3 d2) (hf7 : f7 = upd f6 p2 c2) (hf8 : f8 = upd f7 p1 b2) :
    f8 = mixF v p0 p1 p2 p3 x y := by
  obtain ⟨e0, e1, e2, e3⟩ := hv
  have A1 : a1 = mA1 va vb x := by rw [ha1, mA1]; congr 1; omega
  have D1 : d1 = mD1 va vb vd x := by rw [hd1, A1]; rfl
  have C1 : c1 = mC1 va vb vc vd x := by rw [hc1, D1]; rfl
  have B1 : b1 = mB1 va vb vc vd x := by rw [hb1, C1]; rfl
  have A2 : a2 = mA2 va vb vc vd x y := by rw [mA2, ← B1, ha2, ha1]; omega
  have D2 : d2 = mD2 va vb vc vd x y := by rw [hd2, D1, A2]; rfl
  have C2 : c2 = mC2 va vb vc vd x y := by rw [mC2, ← D1, ← D2, hc2, hc1]; omega
  have B2 : b2 = mB2 va vb vc vd x y := by rw [hb2, B1, C2]; rfl
  rw [hf8, hf7, hf6, hf5, hf4, hf3, hf2, hf1, hf0]
  unfold mixF
  rw [← e0, ← e1, ← e2, ← e3, ← A2, ← B2, ← C2, ← D2]
  funext j
  simp only [upd]
  by_cases q0 : j = p0
  · subst q0; simp [d01, d02, d03]
  · by_cases q1 : j = p1
    · subst q1; simp [d12, d13]
    · by_cases q2 : j = p2
      · subst q2; simp [d23, q1]
      · by_cases q3 : j = p3
        · subst q3; simp [q1, q2]
        · simp [q0, q1, q2, q3]
theorem words_one (f : Nat → Int) (n : Nat) : (wordsK .u32 n f).all (·.oneCell') = true := by simp [wordsK, Value.oneCell']
end Go.Proofs.YtmedobeogdnkfaaDoor
