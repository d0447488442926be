/- The walks over blake.start, New, (*State).Len, (*State).Clone. -/
import Derived.Test.YtmedobeogdnkfaaDoorBwrite
namespace Go.Proofs.YtmedobeogdnkfaaDoor
open Go.RowKit

/-- The words of a new state for a key of k bytes. -/
def hStart (k : Int) : Nat → Int := upd ivF 0 (bits BinOp.xor IntKind.u32 (ivF 0) (16842784 + k * 256))

theorem wpList_build {P : Program} {ops : Array Oper} {rest : List Oper} {o : Oper} {a : Act} {w : World} {Q : Exit → Act → World → Prop} (hgd : o.guard = none) (t : TypeId) (parts : Array (Nat × Operand)) (ho : o.op = .build t parts)
    (vs : Array (Nat × Value)) (hv : (parts.map fun (i, x) => (i, a.eval x)) = vs) (v : Value) (hr : (Instr.build t vs).run P w = .ok v w) (h : wpList P ops Q rest (a.put o.dst v) w) : wpList P ops Q (o :: rest) a w := by
  refine wpList_plain hgd fun K hK => ?_
  unfold Oper.wp
  simp [execOp, ho, hv, hr, Result.andThen]
  exact hK _ _ h
theorem build_state (W : World) : (Instr.build 51 #[(0, .agg #[.int .u32 (ivF 0), .int .u32 (ivF 1), .int .u32 (ivF 2), .int .u32 (ivF 3), .int .u32 (ivF 4), .int .u32 (ivF 5), .int .u32 (ivF 6), .int .u32 (ivF 7)])]).run Tryd.prog W = .ok (.agg (stCells ivF (fun _ => 0) 0 0 0)) W := by kernel_rfl

set_option maxRecDepth 1000000 in
set_option maxHeartbeats 1000000 in
theorem start_any (k : Int) (w : World) (hk0 : 0 ≤ k) (hk : k ≤ 32) (hT : Tabs w) : Calls Tryd.prog 25 #[.int .i64 k] w fun e w' =>
    ∃ g, e = .returned (.pointer (some ⟨g, 0, none⟩)) ∧ w.heap.size ≤ g ∧ Blk w' g 51 (stCells (hStart k) (fun _ => 0) 0 0 0) ∧ w.grownBy w' none := by
  have i0 := hT.1 0 (by decide)
  have i1 := hT.1 1 (by decide)
  have i2 := hT.1 2 (by decide)
  have i3 := hT.1 3 (by decide)
  have i4 := hT.1 4 (by decide)
  have i5 := hT.1 5 (by decide)
  have i6 := hT.1 6 (by decide)
  have i7 := hT.1 7 (by decide)
  have HT := Lib.hid hT
  clear hT
  go_enter Tryd.func25, Tryd.ntmps25
  have hnew := Blk.new w 51 (stCells ivF (fun _ => 0) 0 0 0)
  have n0 : (w.alloc (.cells (stCells ivF (fun _ => 0) 0 0 0) 51)).cell? ⟨w.heap.size, 0, none⟩ = some (.int .u32 (ivF 0)) := by rw [hnew.cell]; exact st_h _ _ _ _ _ (by decide)
  have nf := hnew.frozen 0
  go_wp2_with (refine wpList_build (o := ⟨some 5, _, _, _, _, _⟩) rfl _ _ rfl _ (by simp [Act.eval]) _ (build_state _) ?_)
  go_region
  go_wp2_with fail
  go_ret
  refine ⟨w.heap.size, rfl, Nat.le_refl _, ?_, gb_drew (gb_alloc (gb_refl _ _) _)⟩
  have P1 := Blk.new w 51 ((stCells ivF (fun _ => 0) 0 0 0).setIfInBounds 0 (.int .u32 (bits BinOp.xor IntKind.u32 (ivF 0) (16842784 + k * 256))))
  have E := st_put_h ivF (fun _ => 0) 0 0 0 (i := 0) (by decide) (bits BinOp.xor IntKind.u32 (ivF 0) (16842784 + k * 256))
  rw [E] at P1
  have P2 : Blk (w.alloc (.cells ((stCells ivF (fun _ => 0) 0 0 0).setIfInBounds 0 (.int .u32 (bits BinOp.xor IntKind.u32 (ivF 0) (16842784 + k * 256)))) 51)).drew w.heap.size 51 (stCells (hStart k) (fun _ => 0) 0 0 0) := by rw [E]; exact P1
  exact P2
theorem new_any (w : World) (hT : Tabs w) : Calls Tryd.prog 13 #[] w fun e w' =>
    ∃ g, e = .returned (.pointer (some ⟨g, 0, none⟩)) ∧ w.heap.size ≤ g ∧ Blk w' g 51 (stCells (hStart 0) (fun _ => 0) 0 0 0) ∧ w.grownBy w' none := by
  go_enter Tryd.func13, Tryd.ntmps13
  go_wp2_with fail
  refine (start_any 0 _ (by decide) (by decide) hT).mono ?_
  rintro e w' ⟨g, rfl, h1, h2, h3⟩
  go_wp2_with fail
  go_ret
  exact ⟨g, rfl, h1, h2, h3⟩
theorem st_one (h buf : Nat → Int) (filled done length : Int) : (stCells h buf filled done length).toList.toArray.all (·.oneCell') = true := by
  refine all_oneCell_toArray fun v hv => ?_
  simp only [stCells, List.mem_map] at hv
  obtain ⟨j, _, rfl⟩ := hv
  split
  · rfl
  · split
    · rfl
    · split
      · rfl
      · split <;> rfl
theorem zero_state (W : World) : (zeroValue 51).run Tryd.prog W = .ok (.agg (stCells (fun _ => 0) (fun _ => 0) 0 0 0)) W := by kernel_rfl
set_option maxRecDepth 1000000 in
set_option maxHeartbeats 1000000 in
theorem clone_any (g : Nat) (h buf : Nat → Int) (filled done length : Int) (w : World) (hb : Blk w g 51 (stCells h buf filled done length)) :
    Calls Tryd.prog 15 #[.pointer (some ⟨g, 0, none⟩)] w fun e w' =>
      ∃ g', e = .returned (.pointer (some ⟨g', 0, none⟩)) ∧ w.heap.size ≤ g' ∧ Blk w' g' 51 (stCells h buf filled done length) ∧ w.grownBy w' none := by
  have U := Tryd.underlying51
  have I : (Tryd.prog.info? 51).map (·.size) = some 75 := by kernel_rfl
  have HU := Lib.hid U
  have HI := Lib.hid I
  clear U I
  have hl : (stCells h buf filled done length).toList.length = 75 := by rw [Array.length_toList, st_size]
  have HL := Lib.hid hl
  clear hl
  have hz := fun W => zero_state W
  go_enter Tryd.func15, Tryd.ntmps15
  go_wp2_with (first
    | (refine wpList_load_mid rfl 51 _ rfl g 0 rfl (stCells h buf filled done length).toList _ hb.range HU.out rfl (by rw [HL.out]; exact HI.out) ?_)
    | (refine wpList_store_mid rfl 51 _ _ rfl w.heap.size 0 (stCells h buf filled done length).toList.toArray rfl rfl (there_blk (Blk.new w _ _) (by simp [stCells])) (by rw [List.size_toArray, HL.out]; exact HI.out) (st_one _ _ _ _ _) ?_))
  go_ret
  refine ⟨w.heap.size, rfl, Nat.le_refl _, ?_, gb_setCells_new (gb_alloc (gb_refl _ _) _) (Nat.le_refl _) _ _⟩
  exact (Blk.new w 51 (stCells (fun _ => 0) (fun _ => 0) 0 0 0)).whole (stCells h buf filled done length) (by rw [st_size, st_size])
theorem len_any (g : Nat) (h buf : Nat → Int) (filled done length : Int) (w : World) (hb : Blk w g 51 (stCells h buf filled done length)) :
    Calls Tryd.prog 16 #[.pointer (some ⟨g, 0, none⟩)] w fun e w' => e = .returned (.int .i64 length) ∧ w = w' := by
  have c := hb.cell 74
  rw [st_length] at c
  go_enter Tryd.func16, Tryd.ntmps16
  go_wp2
  go_ret
  exact ⟨rfl, rfl⟩
end Go.Proofs.YtmedobeogdnkfaaDoor
