/- The walks over the reference's iv and sigma. -/
import Derived.Test.YtmedobeogdnkfaaDoorBref1
namespace Go.Proofs.YtmedobeogdnkfaaDoor
open Go.RowKit

def sigI (r : Nat) : Array Value := wordsK .i64 16 (fun j => (sig r j : Int))

set_option maxRecDepth 100000 in
set_option maxHeartbeats 1000000 in
theorem refiv_any (w : World) : Calls Tryd.prog 27 #[] w fun e w' => e = .returned (.agg (wordsK .u32 8 ivF)) ∧ w.grownBy w' none := by
  have I : (Tryd.prog.info? 47).map (·.size) = some 8 := by kernel_rfl
  have HI := Lib.hid I
  clear I
  go_enter Tryd.func27, Tryd.ntmps27
  go_wp2_with fail
  refine bodyPost_ret (results_cell_row rfl _ _ _ _ _ _ _ rfl (heap_alloc_new w _) Tryd.underlying47 rfl HI.out) rfl ?_
  exact ⟨by kernel_rfl, gb_alloc (gb_refl _ _) _⟩

set_option maxRecDepth 100000 in
set_option maxHeartbeats 2000000 in
theorem refsigma0 (w : World) : Calls Tryd.prog 32 #[.int .i64 0] w fun e w' => e = .returned (.agg (sigI 0)) ∧ w.grownBy w' none := by
  have I : (Tryd.prog.info? 67).map (·.size) = some 16 := by kernel_rfl
  have HI := Lib.hid I
  clear I
  go_enter Tryd.func32, Tryd.ntmps32
  go_wp2_with fail
  (try simp only [Exit.inBlock, Exit.then])
  refine bodyPost_ret (results_cell_row rfl _ _ _ _ _ _ _ rfl (heap_alloc_new w _) Tryd.underlying67 rfl HI.out) rfl ?_
  exact ⟨by kernel_rfl, gb_alloc (gb_refl _ _) _⟩
set_option maxRecDepth 100000 in
set_option maxHeartbeats 2000000 in
theorem refsigma1 (w : World) : Calls Tryd.prog 32 #[.int .i64 1] w fun e w' => e = .returned (.agg (sigI 1)) ∧ w.grownBy w' none := by
  have I : (Tryd.prog.info? 67).map (·.size) = some 16 := by kernel_rfl
  have HI := Lib.hid I
  clear I
  go_enter Tryd.func32, Tryd.ntmps32
  go_wp2_with fail
  (try simp only [Exit.inBlock, Exit.then])
  refine bodyPost_ret (results_cell_row rfl _ _ _ _ _ _ _ rfl (heap_alloc_new w _) Tryd.underlying67 rfl HI.out) rfl ?_
  exact ⟨by kernel_rfl, gb_alloc (gb_refl _ _) _⟩
set_option maxRecDepth 100000 in
set_option maxHeartbeats 2000000 in
theorem refsigma2 (w : World) : Calls Tryd.prog 32 #[.int .i64 2] w fun e w' => e = .returned (.agg (sigI 2)) ∧ w.grownBy w' none := by
  have I : (Tryd.prog.info? 67).map (·.size) = some 16 := by kernel_rfl
  have HI := Lib.hid I
  clear I
  go_enter Tryd.func32, Tryd.ntmps32
  go_wp2_with fail
  (try simp only [Exit.inBlock, Exit.then])
  refine bodyPost_ret (results_cell_row rfl _ _ _ _ _ _ _ rfl (heap_alloc_new w _) Tryd.underlying67 rfl HI.out) rfl ?_
  exact ⟨by kernel_rfl, gb_alloc (gb_refl _ _) _⟩
set_option maxRecDepth 100000 in
set_option maxHeartbeats 2000000 in
theorem refsigma3 (w : World) : Calls Tryd.prog 32 #[.int .i64 3] w fun e w' => e = .returned (.agg (sigI 3)) ∧ w.grownBy w' none := by
  have I : (Tryd.prog.info? 67).map (·.size) = some 16 := by kernel_rfl
  have HI := Lib.hid I
  clear I
  go_enter Tryd.func32, Tryd.ntmps32
  go_wp2_with fail
  (try simp only [Exit.inBlock, Exit.then])
  refine bodyPost_ret (results_cell_row rfl _ _ _ _ _ _ _ rfl (heap_alloc_new w _) Tryd.underlying67 rfl HI.out) rfl ?_
  exact ⟨by kernel_rfl, gb_alloc (gb_refl _ _) _⟩
set_option maxRecDepth 100000 in
set_option maxHeartbeats 2000000 in
theorem refsigma4 (w : World) : Calls Tryd.prog 32 #[.int .i64 4] w fun e w' => e = .returned (.agg (sigI 4)) ∧ w.grownBy w' none := by
  have I : (Tryd.prog.info? 67).map (·.size) = some 16 := by kernel_rfl
  have HI := Lib.hid I
  clear I
  go_enter Tryd.func32, Tryd.ntmps32
  go_wp2_with fail
  (try simp only [Exit.inBlock, Exit.then])
  refine bodyPost_ret (results_cell_row rfl _ _ _ _ _ _ _ rfl (heap_alloc_new w _) Tryd.underlying67 rfl HI.out) rfl ?_
  exact ⟨by kernel_rfl, gb_alloc (gb_refl _ _) _⟩
set_option maxRecDepth 100000 in
set_option maxHeartbeats 2000000 in
theorem refsigma5 (w : World) : Calls Tryd.prog 32 #[.int .i64 5] w fun e w' => e = .returned (.agg (sigI 5)) ∧ w.grownBy w' none := by
  have I : (Tryd.prog.info? 67).map (·.size) = some 16 := by kernel_rfl
  have HI := Lib.hid I
  clear I
  go_enter Tryd.func32, Tryd.ntmps32
  go_wp2_with fail
  (try simp only [Exit.inBlock, Exit.then])
  refine bodyPost_ret (results_cell_row rfl _ _ _ _ _ _ _ rfl (heap_alloc_new w _) Tryd.underlying67 rfl HI.out) rfl ?_
  exact ⟨by kernel_rfl, gb_alloc (gb_refl _ _) _⟩
set_option maxRecDepth 100000 in
set_option maxHeartbeats 2000000 in
theorem refsigma6 (w : World) : Calls Tryd.prog 32 #[.int .i64 6] w fun e w' => e = .returned (.agg (sigI 6)) ∧ w.grownBy w' none := by
  have I : (Tryd.prog.info? 67).map (·.size) = some 16 := by kernel_rfl
  have HI := Lib.hid I
  clear I
  go_enter Tryd.func32, Tryd.ntmps32
  go_wp2_with fail
  (try simp only [Exit.inBlock, Exit.then])
  refine bodyPost_ret (results_cell_row rfl _ _ _ _ _ _ _ rfl (heap_alloc_new w _) Tryd.underlying67 rfl HI.out) rfl ?_
  exact ⟨by kernel_rfl, gb_alloc (gb_refl _ _) _⟩
set_option maxRecDepth 100000 in
set_option maxHeartbeats 2000000 in
theorem refsigma7 (w : World) : Calls Tryd.prog 32 #[.int .i64 7] w fun e w' => e = .returned (.agg (sigI 7)) ∧ w.grownBy w' none := by
  have I : (Tryd.prog.info? 67).map (·.size) = some 16 := by kernel_rfl
  have HI := Lib.hid I
  clear I
  go_enter Tryd.func32, Tryd.ntmps32
  go_wp2_with fail
  (try simp only [Exit.inBlock, Exit.then])
  refine bodyPost_ret (results_cell_row rfl _ _ _ _ _ _ _ rfl (heap_alloc_new w _) Tryd.underlying67 rfl HI.out) rfl ?_
  exact ⟨by kernel_rfl, gb_alloc (gb_refl _ _) _⟩
set_option maxRecDepth 100000 in
set_option maxHeartbeats 2000000 in
theorem refsigma8 (w : World) : Calls Tryd.prog 32 #[.int .i64 8] w fun e w' => e = .returned (.agg (sigI 8)) ∧ w.grownBy w' none := by
  have I : (Tryd.prog.info? 67).map (·.size) = some 16 := by kernel_rfl
  have HI := Lib.hid I
  clear I
  go_enter Tryd.func32, Tryd.ntmps32
  go_wp2_with fail
  (try simp only [Exit.inBlock, Exit.then])
  refine bodyPost_ret (results_cell_row rfl _ _ _ _ _ _ _ rfl (heap_alloc_new w _) Tryd.underlying67 rfl HI.out) rfl ?_
  exact ⟨by kernel_rfl, gb_alloc (gb_refl _ _) _⟩
set_option maxRecDepth 100000 in
set_option maxHeartbeats 2000000 in
theorem refsigma9 (w : World) : Calls Tryd.prog 32 #[.int .i64 9] w fun e w' => e = .returned (.agg (sigI 9)) ∧ w.grownBy w' none := by
  have I : (Tryd.prog.info? 67).map (·.size) = some 16 := by kernel_rfl
  have HI := Lib.hid I
  clear I
  go_enter Tryd.func32, Tryd.ntmps32
  go_wp2_with fail
  (try simp only [Exit.inBlock, Exit.then])
  refine bodyPost_ret (results_cell_row rfl _ _ _ _ _ _ _ rfl (heap_alloc_new w _) Tryd.underlying67 rfl HI.out) rfl ?_
  exact ⟨by kernel_rfl, gb_alloc (gb_refl _ _) _⟩
theorem refsigma_any (r : Nat) (hr : r < 10) (w : World) : Calls Tryd.prog 32 #[.int .i64 r] w fun e w' => e = .returned (.agg (sigI r)) ∧ w.grownBy w' none := by
  rcases (show r = 0 ∨ r = 1 ∨ r = 2 ∨ r = 3 ∨ r = 4 ∨ r = 5 ∨ r = 6 ∨ r = 7 ∨ r = 8 ∨ r = 9 from by omega) with rfl | rfl | rfl | rfl | rfl | rfl | rfl | rfl | rfl | rfl
  · exact refsigma0 w
  · exact refsigma1 w
  · exact refsigma2 w
  · exact refsigma3 w
  · exact refsigma4 w
  · exact refsigma5 w
  · exact refsigma6 w
  · exact refsigma7 w
  · exact refsigma8 w
  · exact refsigma9 w
end Go.Proofs.YtmedobeogdnkfaaDoor
