/- The walks over math/bits.RotateLeft32 and blake.mix. -/
import Derived.Test.YtmedobeogdnkfaaDoorBase
import Derived.WalkKit
import Derived.WalkSpells
import Derived.WalkLawsBesides
import Derived.Deep.QuietTactic
import Derived.BigQuiet
import Derived.BigRegion
import Derived.Deep.RegionHeld3
namespace Go.Proofs.YtmedobeogdnkfaaDoor
open Go.RowKit

/-- A word rotated to the left by l bits, as the program computes it: m is 2^l, d is 2^(32-l). -/
def rot (m d x : Int) : Int := bits BinOp.or IntKind.u32 (x * m % 4294967296) (x / d)

theorem rot16 (x : Int) (w : World) : Calls Tryd.prog 34 #[.int .u32 x, .int .i64 (-16)] w fun e w' => e = .returned (.int .u32 (rot 65536 65536 x)) ∧ w = w' := by
  have h16 : bits .and .u64 (IntKind.u64.wrap (-16)) 31 = 16 := by decide +kernel
  go_enter Tryd.func34, Tryd.ntmps34
  go_wp2
  go_ret
  exact ⟨rfl, rfl⟩
theorem rot12 (x : Int) (w : World) : Calls Tryd.prog 34 #[.int .u32 x, .int .i64 (-12)] w fun e w' => e = .returned (.int .u32 (rot 1048576 4096 x)) ∧ w = w' := by
  have h16 : bits .and .u64 (IntKind.u64.wrap (-12)) 31 = 20 := by decide +kernel
  go_enter Tryd.func34, Tryd.ntmps34
  go_wp2
  go_ret
  exact ⟨rfl, rfl⟩
theorem rot8 (x : Int) (w : World) : Calls Tryd.prog 34 #[.int .u32 x, .int .i64 (-8)] w fun e w' => e = .returned (.int .u32 (rot 16777216 256 x)) ∧ w = w' := by
  have h16 : bits .and .u64 (IntKind.u64.wrap (-8)) 31 = 24 := by decide +kernel
  go_enter Tryd.func34, Tryd.ntmps34
  go_wp2
  go_ret
  exact ⟨rfl, rfl⟩
theorem rot7 (x : Int) (w : World) : Calls Tryd.prog 34 #[.int .u32 x, .int .i64 (-7)] w fun e w' => e = .returned (.int .u32 (rot 33554432 128 x)) ∧ w = w' := by
  have h16 : bits .and .u64 (IntKind.u64.wrap (-7)) 31 = 25 := by decide +kernel
  go_enter Tryd.func34, Tryd.ntmps34
  go_wp2
  go_ret
  exact ⟨rfl, rfl⟩

/-- What mix makes of four words a, b, c, d and of two words x, y of the message. -/
def mA1 (a b x : Int) : Int := (a + (b + x)) % 4294967296
def mD1 (a b d x : Int) : Int := rot 65536 65536 (bits BinOp.xor IntKind.u32 d (mA1 a b x))
def mC1 (a b c d x : Int) : Int := (c + mD1 a b d x) % 4294967296
def mB1 (a b c d x : Int) : Int := rot 1048576 4096 (bits BinOp.xor IntKind.u32 b (mC1 a b c d x))
def mA2 (a b c d x y : Int) : Int := (a + (b + x) + (mB1 a b c d x + y)) % 4294967296
def mD2 (a b c d x y : Int) : Int := rot 16777216 256 (bits BinOp.xor IntKind.u32 (mD1 a b d x) (mA2 a b c d x y))
def mC2 (a b c d x y : Int) : Int := (c + mD1 a b d x + mD2 a b c d x y) % 4294967296
def mB2 (a b c d x y : Int) : Int := rot 33554432 128 (bits BinOp.xor IntKind.u32 (mB1 a b c d x) (mC2 a b c d x y))

set_option maxRecDepth 100000 in
set_option maxHeartbeats 1000000 in
theorem mix_any (g p0 p1 p2 p3 : Nat) (va vb vc vd x y : Int) (w : World) (h0 : (p0 : Int) < 16) (h1 : (p1 : Int) < 16) (h2 : (p2 : Int) < 16) (h3 : (p3 : Int) < 16)
    (ha : w.cell? ⟨g, p0, none⟩ = some (.int .u32 va)) (hb : w.cell? ⟨g, p1, none⟩ = some (.int .u32 vb)) (hc : w.cell? ⟨g, p2, none⟩ = some (.int .u32 vc)) (hd : w.cell? ⟨g, p3, none⟩ = some (.int .u32 vd))
    (d01 : ¬ p0 = p1) (d02 : ¬ p0 = p2) (d03 : ¬ p0 = p3) (d12 : ¬ p1 = p2) (d13 : ¬ p1 = p3) (d23 : ¬ p2 = p3)
    (hf : ∀ j, w.frozen? ⟨g, j, none⟩ = false) (hg : g < w.heap.size) :
    Calls Tryd.prog 31 #[.pointer (some ⟨g, 0, none⟩), .agg #[.int .u8 p0, .int .u8 p1, .int .u8 p2, .int .u8 p3], .int .u32 x, .int .u32 y] w fun e w' =>
      e = .returned (.tuple #[]) ∧ ∃ n o, w' = ((((((w.alloc o).drewN n).setCell ⟨g, p0, none⟩ (.int .u32 (mA2 va vb vc vd x y))).setCell ⟨g, p1, none⟩ (.int .u32 (mB2 va vb vc vd x y))).setCell ⟨g, p2, none⟩ (.int .u32 (mC2 va vb vc vd x y))).setCell ⟨g, p3, none⟩ (.int .u32 (mD2 va vb vc vd x y))) := by
  go_enter Tryd.func31, Tryd.ntmps31
  go_wp2_with fail
  go_quiet (fail)
  go_wp2_with fail
  refine (rot16 _ _).mono ?_; rintro e w' ⟨rfl, rfl⟩
  go_wp2_with fail
  refine (rot12 _ _).mono ?_; rintro e w' ⟨rfl, rfl⟩
  go_wp2_with fail
  refine (rot8 _ _).mono ?_; rintro e w' ⟨rfl, rfl⟩
  go_wp2_with fail
  refine (rot7 _ _).mono ?_; rintro e w' ⟨rfl, rfl⟩
  go_wp2_with fail
  have hne : ∀ (W : World) (i j : Nat) (v : Value), (W.setCell ⟨g, i, none⟩ v).cell? ⟨w.heap.size, j, none⟩ = W.cell? ⟨w.heap.size, j, none⟩ := fun W i j v => World.cell?_setCell_other W _ _ v (fun e => by injection e with e1 _; omega)
  go_region_held3 (fun w' => w'.cell? ⟨w.heap.size, 0, none⟩ = some (.int .u8 p0) ∧ w'.cell? ⟨w.heap.size, 1, none⟩ = some (.int .u8 p1) ∧ w'.cell? ⟨w.heap.size, 2, none⟩ = some (.int .u8 p2) ∧ w'.cell? ⟨w.heap.size, 3, none⟩ = some (.int .u8 p3)) (((try simp only [hne]); go_keep)) (fail)
  go_end0
  exact ⟨rfl, _, _, rfl⟩

/-- What mix makes of the sixteen words. -/
def mixF (v : Nat → Int) (p0 p1 p2 p3 : Nat) (x y : Int) : Nat → Int :=
  upd (upd (upd (upd v p0 (mA2 (v p0) (v p1) (v p2) (v p3) x y)) p1 (mB2 (v p0) (v p1) (v p2) (v p3) x y)) p2 (mC2 (v p0) (v p1) (v p2) (v p3) x y)) p3 (mD2 (v p0) (v p1) (v p2) (v p3) x y)

theorem mix_blk (g p0 p1 p2 p3 : Nat) (v : Nat → Int) (x y : Int) (w : World) (h0 : p0 < 16) (h1 : p1 < 16) (h2 : p2 < 16) (h3 : p3 < 16)
    (d01 : ¬ p0 = p1) (d02 : ¬ p0 = p2) (d03 : ¬ p0 = p3) (d12 : ¬ p1 = p2) (d13 : ¬ p1 = p3) (d23 : ¬ p2 = p3)
    (hb : Blk w g 60 (wordsK .u32 16 v)) :
    Calls Tryd.prog 31 #[.pointer (some ⟨g, 0, none⟩), .agg #[.int .u8 p0, .int .u8 p1, .int .u8 p2, .int .u8 p3], .int .u32 x, .int .u32 y] w fun e w' =>
      e = .returned (.tuple #[]) ∧ Blk w' g 60 (wordsK .u32 16 (mixF v p0 p1 p2 p3 x y)) ∧ w.grownBy w' (some g) := by
  refine (mix_any g p0 p1 p2 p3 (v p0) (v p1) (v p2) (v p3) x y w (by omega) (by omega) (by omega) (by omega)
    (by rw [hb.cell, wordsK_get _ _ _ h0]) (by rw [hb.cell, wordsK_get _ _ _ h1]) (by rw [hb.cell, wordsK_get _ _ _ h2]) (by rw [hb.cell, wordsK_get _ _ _ h3]) d01 d02 d03 d12 d13 d23 hb.frozen hb.lt).mono ?_
  rintro e w' ⟨rfl, n, o, rfl⟩
  refine ⟨rfl, ?_, gb_put (gb_put (gb_put (gb_put (gb_drewN (gb_alloc (gb_refl _ _) _) _) _ _) _ _) _ _) _ _⟩
  have h := (((((hb.alloc o).drewN n).put p0 (.int .u32 (mA2 (v p0) (v p1) (v p2) (v p3) x y))).put p1 (.int .u32 (mB2 (v p0) (v p1) (v p2) (v p3) x y))).put p2 (.int .u32 (mC2 (v p0) (v p1) (v p2) (v p3) x y))).put p3 (.int .u32 (mD2 (v p0) (v p1) (v p2) (v p3) x y))
  rw [wordsK_put _ _ _ h0, wordsK_put _ _ _ h1, wordsK_put _ _ _ h2, wordsK_put _ _ _ h3] at h
  exact h
end Go.Proofs.YtmedobeogdnkfaaDoor
