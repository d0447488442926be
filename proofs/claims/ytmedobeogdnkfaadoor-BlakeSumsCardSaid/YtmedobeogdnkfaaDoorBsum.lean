/- The walk over (*blake.State).Sum. -/
import Derived.Test.YtmedobeogdnkfaaDoorBnew
import Derived.Lib.SliceRun
namespace Go.Proofs.YtmedobeogdnkfaaDoor
open Go.RowKit

/-- Byte i of the digest whose words are H. -/
def byteOf (H : Nat → Int) (i : Nat) : Int := H (i / 4) / 2 ^ (8 * (i % 4)) % 256
def outUpTo (H : Nat → Int) (i : Nat) : Nat → Int := fun j => if j < i then byteOf H j else 0
theorem outUpTo_step (H : Nat → Int) (i : Nat) : upd (outUpTo H i) i (byteOf H i) = outUpTo H (i + 1) := by
  funext j
  unfold upd outUpTo
  by_cases e : j = i
  · subst e; simp
  · by_cases hj : j < i
    · simp [e, hj, show j < i + 1 by omega]
    · simp [e, hj, show ¬ j < i + 1 by omega]
/-- The digest's bytes. -/
def outL (H : Nat → Int) : List Int := (List.range 32).map (byteOf H)
/-- The digest of the bytes xs, from the words h0. -/
def digestS (h0 : Nat → Int) (xs : List Int) : ByteArray := strOfNums (outL (finalF h0 xs))

def bufCut (buf : Nat → Int) (f : Nat) : Nat → Int := fun j => if j < f then buf j else 0
theorem st_clear (h buf : Nat → Int) (filled done length : Int) (f : Nat) (hf : f ≤ 64) : putAll (stCells h buf filled done length) (8 + f) (List.replicate (64 - f) (.int .u8 0)) = stCells h (bufCut buf f) filled done length := by
  apply Array.ext_getElem?
  intro j
  rw [putAll_get _ _ _ _ (by rw [st_size, List.length_replicate]; omega), List.length_replicate]
  by_cases hj : j < 75
  · rw [st_get _ _ _ _ _ hj, st_get _ _ _ _ _ hj]
    by_cases h1 : 8 + f ≤ j ∧ j < 8 + f + (64 - f)
    · rw [if_pos h1, List.getElem?_replicate, if_pos (by omega)]
      simp [show ¬ j < 8 by omega, show j < 72 by omega, bufCut, show ¬ j - 8 < f by omega]
    · rw [if_neg h1]
      by_cases h8 : j < 8
      · simp [h8]
      · by_cases h72 : j < 72
        · simp [h8, h72, bufCut, show j - 8 < f by omega]
        · simp [h8, h72]
  · rw [if_neg (by omega), st_none _ _ _ _ _ hj, st_none _ _ _ _ _ hj]
theorem slice_buf64 (g off : Nat) (W : World) : (Instr.sliceAt 48 (.pointer (some ⟨g, off, none⟩)) (some (.int .i64 64)) none none).run Tryd.prog W = .ok (.slice (some ⟨g, off, none⟩) 0 0) W := by
  have hA : Tryd.prog.arrayLen 48 = 64 := by kernel_rfl
  have hs : (sizeOf 5).run Tryd.prog W = .ok 1 W := by kernel_rfl
  have hE : Tryd.prog.elem 48 = 5 := by kernel_rfl
  rw [run_sliceAt_array_l (P := Tryd.prog) W 48 ⟨g, off, none⟩ (by rw [hA, hE]; exact Tryd.underlying48) .i64 64 (by omega) (by rw [hA]; omega), hA, hE, hs]
  simp [slicedAt]
theorem run_clear_none {P : Program} (w : World) (t e ty : TypeId) (ht : P.underlying t = some (.slice e)) (a : Option Addr) (c : Nat) : (Builtin.clear_ #[t] ty #[.slice a 0 c]).run P w = .ok (.tuple #[]) w := by
  cases a <;> simp [Builtin.clear_, run_underlying ht]

set_option maxRecDepth 1000000 in
set_option maxHeartbeats 4000000 in
theorem sum_any (g : Nat) (h0 : Nat → Int) (xs : List Int) (h buf : Nat → Int) (filled : Nat) (done length : Int) (w : World)
    (hb : Blk w g 51 (stCells h buf filled done length)) (hI : WInv h0 xs h buf filled done) (hT : Tabs w) (hx : xs.length < 1000000000) :
    Calls Tryd.prog 17 #[.pointer (some ⟨g, 0, none⟩)] w fun e w' => e = .returned (.string (digestS h0 xs)) ∧ w.grownBy w' none := by
  have U := Tryd.underlying51
  have I : (Tryd.prog.info? 51).map (·.size) = some 75 := by kernel_rfl
  have HU := Lib.hid U
  have HI := Lib.hid I
  clear U I
  have HL := Lib.hid (show (stCells h buf filled done length).toList.length = 75 by rw [Array.length_toList, st_size])
  have hle := hI.le
  have hf64 := hle.1
  have hd0 := hle.2.1
  have HD : Bx (done + filled < 1000000000) := ⟨by omega⟩
  have HW := Bx.mk hI
  clear hle hx hI
  have hz := fun W => zero_state W
  go_enter Tryd.func17, Tryd.ntmps17
  go_upto_region 1 with fail
  go_cut [3] from 6 to 34 (fun s3 wx => s3 = .pointer (some ⟨w.heap.size, 0, none⟩) ∧ Blk wx w.heap.size 51 (stCells h buf filled done length) ∧ w.grownBy wx none)
  case first =>
    go_wp2_with (first
      | (refine wpList_load_mid rfl 51 _ rfl g 0 rfl (stCells h buf filled done length).toList _ hb.range HU.out rfl (by rw [HL.out]; exact HI.out) ?_)
      | (refine wpList_store_mid rfl 51 _ _ rfl w.heap.size 0 (stCells h buf filled done length).toList.toArray rfl rfl (there_blk (Blk.new w _ _) (by simp [stCells])) (by rw [List.size_toArray, HL.out]; exact HI.out) (st_one _ _ _ _ _) ?_))
    go_meet
    exact ⟨rfl, (Blk.new w 51 (stCells (fun _ => 0) (fun _ => 0) 0 0 0)).whole (stCells h buf filled done length) (by rw [st_size, st_size]), gb_setCells_new (gb_alloc (gb_refl _ _) _) (Nat.le_refl _) _ _⟩
  case rest =>
    obtain ⟨rfl, hb1, hg1⟩ := hcut
    clear hz HL HU HI
    obtain ⟨w1, rfl⟩ : ∃ w1, w1 = wc := ⟨_, rfl⟩
    have cf : w1.cell? ⟨w.heap.size, 72, none⟩ = some (.int .i64 filled) := by rw [hb1.cell, st_filled]
    go_upto_region 2 with fail
    go_cut [] from 6 to 34 (fun wx => Blk wx w.heap.size 51 (stCells h (bufCut buf filled) filled done length) ∧ w.grownBy wx none)
    case first =>
      by_cases e64 : filled = 64
      · subst e64
        have hsl := fun W => slice_buf64 w.heap.size 8 W
        have hcl := fun ty a c W => run_clear_none (P := Tryd.prog) W 22 5 ty Tryd.underlying22 a c
        go_wp2_with fail
        go_meet
        have E := st_clear h buf ((64 : Nat) : Int) done length 64 (by decide)
        simp only [Nat.sub_self, List.replicate_zero, putAll] at E
        exact ⟨by rw [← E]; exact hb1, hg1⟩
      · have hlt : filled < 64 := by omega
        have hsl := fun W => slice_buf w.heap.size 8 filled hlt W
        have hzu : ∀ W, (zeroValue 5).run Tryd.prog W = .ok (.int .u8 0) W := fun _ => by kernel_rfl
        have hcl := fun ty => Lib.run_clear_slice (P := Tryd.prog) w1 22 5 ty (.int .u8 0) Tryd.underlying22 hzu rfl rfl w.heap.size (8 + filled) (64 - filled) (64 - filled) (by omega)
          (fun j hj => by rw [hb1.cell, Nat.add_assoc, st_buf _ _ _ _ _ (by omega)]; rfl) (fun j _ => hb1.frozen _)
        have P1 := hb1.putCells (List.replicate (64 - filled) (.int .u8 0)) (8 + filled)
        rw [st_clear _ _ _ _ _ _ hf64] at P1
        have H1 := Lib.hid P1
        clear P1 hzu
        go_wp2_with fail
        go_meet
        exact ⟨H1.out, gb_setCells_new hg1 (Nat.le_refl _) _ _⟩
    case rest =>
      obtain ⟨hb2, hg2⟩ := hcut
      obtain ⟨w2, rfl⟩ : ∃ w2, w2 = wc := ⟨_, rfl⟩
      clear cf hb1 hg1
      have hT2 := hT.grown hg2 (by simp)
      have cf : w2.cell? ⟨w.heap.size, 72, none⟩ = some (.int .i64 filled) := by rw [hb2.cell, st_filled]
      have hg3 : 3 ≤ w.heap.size := hT.2.2.2
      go_wp2_with fail
      refine (hash_any w.heap.size h (bufCut buf filled) _ done _ filled true _ (by omega) hd0 (by have := HD.out; omega) hb2 hg3 hT2).mono ?_
      rintro e w3 ⟨rfl, hb3, hg3'⟩
      have hfin := HW.out.final
      rw [show (fun j => if j < filled then buf j else 0) = bufCut buf filled from rfl] at hfin
      rw [hfin] at hb3
      have hgw : w.grownBy w3 none := gb_new hg2 hg3' (Nat.le_refl _)
      have hsz3 : w.heap.size < w3.heap.size := hb3.lt
      obtain ⟨H, hH⟩ : ∃ H, H = finalF h0 xs := ⟨_, rfl⟩
      rw [← hH] at hb3
      have HH := Bx.mk hH
      clear hH hfin hb2 hg2 hg3' hT hT2 cf
      go_wp2_with fail
      go_loopw [17] (fun c wr => ∃ i : Nat, i ≤ 32 ∧ c = .int .i64 i ∧ Blk wr w3.heap.size 54 (wordsK .u8 32 (outUpTo H i)) ∧ w3.grownBy wr none)
        (fun c _ => 32 - (intOf c).toNat)
      case atStart => exact ⟨0, by omega, rfl, Blk.new w3 54 (wordsK .u8 32 (outUpTo H 0)), gb_alloc (gb_refl _ _) _⟩
      case round =>
        obtain ⟨i, hi, rfl, ho, hgo⟩ := hrel
        by_cases hlt : i < 32
        · have hi1 : (i : Int) < 32 := by omega
          have ch : wr.cell? ⟨w.heap.size, i / 4, none⟩ = some (.int .u32 (H (i / 4))) := by rw [(hb3.grown hgo (by simp)).cell, st_h _ _ _ _ _ (by omega)]
          have co : wr.cell? ⟨w3.heap.size, i, none⟩ = some (.int .u8 (outUpTo H i i)) := by rw [ho.cell, wordsK_get _ _ _ hlt]
          have fo := ho.frozen i
          have P1 := ho.put i (.int .u8 (byteOf H i))
          rw [wordsK_put _ _ _ hlt, outUpTo_step] at P1
          have H1 := Lib.hid P1
          clear P1 ho
          go_wp2_with fail
          go_roundw
          case rel => exact ⟨i + 1, by omega, by go_num, H1.out, gb_put_new hgo (p := ⟨w3.heap.size, i, none⟩) (Nat.le_refl _) _⟩
          case measure => simp [intOf]; omega
        · have hi1 : ¬ (i : Int) < 32 := by omega
          obtain rfl : i = 32 := by omega
          have hcv := run_convert_bytes_arg (P := Tryd.prog) wr 22 5 Tryd.underlying22 Tryd.underlying5 w3.heap.size 0 32 32 (outL H) (by simp [outL])
            (fun i hi => by rw [ho.cell, Nat.zero_add, wordsK_get _ _ _ hi]; simp [outUpTo, hi, outL]) 9 Tryd.underlying9
          go_wp2_with fail
          go_ret
          refine ⟨?_, gb_trans hgw hgo⟩
          show Ending.returned (.string (strOfNums (outL H))) = _
          rw [digestS, ← HH.out]
end Go.Proofs.YtmedobeogdnkfaaDoor
