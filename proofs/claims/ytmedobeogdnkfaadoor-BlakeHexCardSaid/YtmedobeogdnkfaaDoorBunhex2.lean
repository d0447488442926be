/- The walks over the reference's Hex and Unhex. -/
import Derived.Test.YtmedobeogdnkfaaDoorBunhex
namespace Go.Proofs.YtmedobeogdnkfaaDoor
open Go.RowKit

set_option maxRecDepth 100000 in
set_option maxHeartbeats 1000000 in
theorem refhex_any (s : ByteArray) (w : World) (hs : s.size ≤ 1000000) :
    Calls Tryd.prog 23 #[.string s] w fun e w' => e = .returned (.string (strOfNums (hexL (bytesI s)))) ∧ w.grownBy w' none := by
  obtain ⟨i0, hi, hz0, hz1, hz2⟩ := info_parts Tryd.infoU8
  have U := Tryd.underlying22
  have hsz : (s.size : Int) ≤ 1000000 := by omega
  go_enter Tryd.func23, Tryd.ntmps23
  go_wp2_with fail
  go_loopw [3, 4] (fun v c wr => ∃ k : Nat, k ≤ s.size ∧ c = .int .i64 k ∧ wr.ownsRow w.heap.size 5 1 v (2 * k) ((hexL ((bytesI s).take k)).map (Value.int .u8)) ∧ w.grownBy wr none)
    (fun _ c _ => s.size - (intOf c).toNat)
  case atStart => exact ⟨0, by omega, rfl, own_empty w w.heap.size (Nat.le_refl _), gb_alloc (gb_refl _ _) _⟩
  case round =>
    obtain ⟨k, hk, rfl, hown', hg'⟩ := hrel
    by_cases hlt : k < s.size
    · have hb := bytesI_at s k
      obtain ⟨b, hbd⟩ : ∃ b, b = (bytesI s).getD k 0 := ⟨_, rfl⟩
      rw [← hbd] at hb
      obtain ⟨hb0, hb1⟩ := hb
      have hi1 : (k : Int) < s.size := by omega
      have hx1 : ∀ W, (Instr.index 9 (.string s) (.int .i64 k)).run Tryd.prog W = .ok (.int .u8 b) W := fun W => by rw [hbd]; exact index_str Tryd.underlying9 s hlt W
      have e1 : b.tmod 16 = b % 16 := Int.tmod_eq_emod_of_nonneg hb0
      have e2 : b.tdiv 16 = b / 16 := Int.tdiv_eq_ediv_of_nonneg hb0
      have e3 : IntKind.u8.wrap (b / 16) = b / 16 := by simp [IntKind.wrap_u8]; omega
      have e4 : IntKind.u8.wrap (b % 16) = b % 16 := by simp [IntKind.wrap_u8]; omega
      have hx2 : ∀ W, (Instr.index 9 (.string ⟨#[48, 49, 50, 51, 52, 53, 54, 55, 56, 57, 97, 98, 99, 100, 101, 102]⟩) (.int .u8 (b / 16))).run Tryd.prog W = .ok (.int .u8 (hexD (b / 16))) W := index_dig Tryd.underlying9 (by omega) (by omega)
      have hx3 : ∀ W, (Instr.index 9 (.string ⟨#[48, 49, 50, 51, 52, 53, 54, 55, 56, 57, 97, 98, 99, 100, 101, 102]⟩) (.int .u8 (b % 16))).run Tryd.prog W = .ok (.int .u8 (hexD (b % 16))) W := index_dig Tryd.underlying9 (by omega) (by omega)
      have HBd := Bx.mk hbd
      have hsz' := hg'.size
      clear hbd
      have F1 := Lib.hid (World.news_of_block (w := (wr.alloc (.cells #[.int .u8 (hexD (b / 16)), .int .u8 (hexD (b % 16))] 5)).drew) (heap_alloc_new wr _))
      have F2 := Lib.hid (show ∀ u ∈ [Value.int .u8 (hexD (b / 16)), .int .u8 (hexD (b % 16))], u.oneCell' = true by intro u hu; simp at hu; rcases hu with rfl | rfl <;> rfl)
      have F3 := Lib.hid (show 2 * k + 2 ≤ maxLen by unfold maxLen; omega)
      have F4 := Lib.hid (show (2 * k + 2) * 1 ≤ 140737488355328 by omega)
      have F5 := Lib.hid (show w.heap.size ≤ ((wr.alloc (.cells #[.int .u8 (hexD (b / 16)), .int .u8 (hexD (b % 16))] 5)).drew).heap.size by simp; omega)
      have F6 := Lib.hid (show ((wr.alloc (.cells #[.int .u8 (hexD (b / 16)), .int .u8 (hexD (b % 16))] 5)).drew).heap.size = wr.heap.size + 1 by simp)
      have E : (bytesI s).take (k + 1) = (bytesI s).take k ++ [b] := by
        rw [List.take_add_one, HBd.out, List.getD_eq_getElem?_getD, List.getElem?_eq_getElem (by rw [bytesI_length]; exact hlt)]
        rfl
      have HE := Bx.mk E
      clear E
      have hbase : ∀ b, u3.ownBlock = some b → w.heap.size ≤ b := fun b e => (hown'.lt b e).1
      have HG := Lib.hid hbase
      clear hbase
      go_wp2_with fail
      go_region_law (refine step_append_lies _ rfl _ _ _ rfl w.heap.size 5 i0 (.int .u8 0) 1 1 U hi hz0 hz1 hz2 rfl (by decide) _ (2 * k) _ rfl (World.ownsRow.drew (hown'.alloc _)) ⟨wr.heap.size, 0, none⟩ 2 2 [.int .u8 (hexD (b / 16)), .int .u8 (hexD (b % 16))] rfl rfl F1.out F2.out (by decide) F3.out F4.out F5.out (wr.heap.size + 1) F6.out ?_; intro g cap w2 hown2 hgrow2 hat2 hlt2)
      all_goals
        go_wp2_with fail
        go_roundw
        case rel =>
          refine ⟨k + 1, by omega, by go_num, ?_, gb_own (gb_drew (gb_alloc hg' _)) hgrow2 HG.out⟩
          rw [HE.out, hexL_snoc, List.map_append]; exact hown2
        case measure => simp [intOf]; omega
    · have hi1 : ¬ (k : Int) < s.size := by omega
      obtain rfl : k = s.size := by omega
      rw [List.take_of_length_le (by rw [bytesI_length]; exact Nat.le_refl _)] at hown'
      have hcv := convert_own hown'
      go_wp2_with fail
      go_ret
      exact ⟨rfl, hg'⟩
end Go.Proofs.YtmedobeogdnkfaaDoor
