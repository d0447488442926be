/- The walk over salchowlaw03.awake: the two examples of the chapter, by the kernel's own reckoning over the plain functions. -/
import Derived.Test.YtmedobeogdnkfaaDoorBhex
import Derived.Lib.SlBytesConst
namespace Go.Proofs.YtmedobeogdnkfaaDoor
open Go.RowKit

theorem example0 : strOfNums (hexL (bytesI (digestS (hStart 0) []))) = ⟨#[54, 57, 50, 49, 55, 97, 51, 48, 55, 57, 57, 48, 56, 48, 57, 52, 101, 49, 49, 49, 50, 49, 100, 48, 52, 50, 51, 53, 52, 97, 55, 99, 49, 102, 53, 53, 98, 54, 52, 56, 50, 99, 97, 49, 97, 53, 49, 101, 49, 98, 50, 53, 48, 100, 102, 100, 49, 101, 100, 48, 101, 101, 102, 57]⟩ := by decide +kernel
theorem example1 : strOfNums (hexL (bytesI (digestS (hStart 0) [97, 98, 99]))) = ⟨#[53, 48, 56, 99, 53, 101, 56, 99, 51, 50, 55, 99, 49, 52, 101, 50, 101, 49, 97, 55, 50, 98, 97, 51, 52, 101, 101, 98, 52, 53, 50, 102, 51, 55, 52, 53, 56, 98, 50, 48, 57, 101, 100, 54, 51, 97, 50, 57, 52, 100, 57, 57, 57, 98, 52, 99, 56, 54, 54, 55, 53, 57, 56, 50]⟩ := by decide +kernel
theorem digestS_size (h0 : Nat → Int) (xs : List Int) : (digestS h0 xs).size = 32 := by
  rw [digestS, strOfNums_size]; simp [outL]

set_option maxRecDepth 1000000 in
set_option maxHeartbeats 1000000 in
theorem awake_any (w : World) (hT : Tabs w) : Calls Tryd.prog 10 #[] w fun e w' => e = .returned (.bool true) ∧ w.grownBy w' none := by
  go_enter Tryd.func10, Tryd.ntmps10
  go_wp2_with fail
  refine (psum_any none 0 0 [] _ (RdS.nil _ _ _) hT (by decide)).mono ?_
  rintro e w1 ⟨rfl, hg1⟩
  go_wp2_with fail
  refine (hex_any _ _ (by rw [digestS_size]; decide)).mono ?_
  rintro e w2 ⟨rfl, hg2⟩
  rw [example0]
  have hT2 := hT.grown (gb_trans hg1 hg2) (by simp)
  have kc := fun (w : World) (C : Array Value) (n c : Nat) => Lib.run_convert_bytes_const (P := Tryd.prog) w 22 5 C n c Tryd.underlying22 Tryd.underlying5
  go_wp2_with fail
  have hr : RdS (w2.alloc (.cells #[.int .u8 97, .int .u8 98, .int .u8 99] 5 (3, 4))) (some ⟨w2.heap.size, 0, none⟩) 3 3 [97, 98, 99] :=
    ⟨rfl, by decide, fun _ => ⟨_, rfl, by simp, fun j v hv => by
      rw [Addr.add_mid, Nat.zero_add, cell_of_row _ _ _ _ _ _ (heap_alloc_new w2 (.cells #[.int .u8 97, .int .u8 98, .int .u8 99] 5 (3, 4)))]
      simpa using hv⟩⟩
  have hg2' : w.grownBy (w2.alloc (.cells #[.int .u8 97, .int .u8 98, .int .u8 99] 5 (3, 4))) none := gb_alloc (gb_trans hg1 hg2) _
  refine (psum_any _ 3 3 [97, 98, 99] _ hr (hT.grown hg2' (by simp)) (by decide)).mono ?_
  rintro e w3 ⟨rfl, hg3⟩
  go_wp2_with fail
  refine (hex_any _ _ (by rw [digestS_size]; decide)).mono ?_
  rintro e w4 ⟨rfl, hg4⟩
  rw [example1]
  go_wp2_with fail
  go_ret
  exact ⟨rfl, gb_trans (gb_trans hg2' hg3) hg4⟩
end Go.Proofs.YtmedobeogdnkfaaDoor
