/- The walk over the reference's Unhex. -/
import Derived.Test.YtmedobeogdnkfaaDoorBunhex2
namespace Go.Proofs.YtmedobeogdnkfaaDoor
open Go.RowKit

set_option maxRecDepth 100000 in
set_option maxHeartbeats 1000000 in
theorem refunhex_any (s : ByteArray) (w : World) (hs : s.size ≤ 1000000) :
    Calls Tryd.prog 24 #[.string s] w fun e w' => e = .returned (unhexV s) ∧ w.grownBy w' none := by
  obtain ⟨i0, hi, hz0, hz1, hz2⟩ := info_parts Tryd.infoU8
  have U := Tryd.underlying22
  have hsz : (s.size : Int) ≤ 1000000 := by omega
  by_cases hodd : s.size % 2 = 1
  · have e1 : (s.size : Int) % 2 = 1 := by omega
    have e2 : (s.size : Int).tmod 2 = 1 := by rw [Int.tmod_eq_emod_of_nonneg (by omega)]; exact e1
    go_enter Tryd.func24, Tryd.ntmps24
    go_wp2_with fail
    go_ret2
    refine ⟨?_, gb_refl _ _⟩
    rw [unhexV, if_neg (fun h => by omega)]; rfl
  · have e1 : ¬ (s.size : Int) % 2 = 1 := by omega
    have e2 : (s.size : Int).tmod 2 = 0 := by rw [Int.tmod_eq_emod_of_nonneg (by omega)]; omega
    go_enter Tryd.func24, Tryd.ntmps24
    go_wp2_with fail
    go_loopw [4, 5] (fun v c wr => ∃ k : Nat, 2 * k ≤ s.size ∧ c = .int .i64 (2 * (k : Int)) ∧ wr.ownsRow w.heap.size 5 1 v k ((unhexL (bytesI s) k).map (Value.int .u8)) ∧ okTo (bytesI s) k ∧ w.grownBy wr none)
      (fun _ c _ => s.size - (intOf c).toNat)
    case atStart => exact ⟨0, by omega, rfl, own_empty w w.heap.size (Nat.le_refl _), fun j hj => by omega, gb_alloc (gb_refl _ _) _⟩
    case round =>
      obtain ⟨k, hk, rfl, hown', hok, hg'⟩ := hrel
      have hsz' := hg'.size
      by_cases hlt : 2 * k < s.size
      · obtain ⟨b0, hb0⟩ : ∃ b, b = (bytesI s).getD (2 * k) 0 := ⟨_, rfl⟩
        obtain ⟨b1, hb1⟩ : ∃ b, b = (bytesI s).getD (2 * k + 1) 0 := ⟨_, rfl⟩
        obtain ⟨p0, p1⟩ : 0 ≤ b0 ∧ b0 < 256 := hb0 ▸ bytesI_at s (2 * k)
        obtain ⟨p2, p3⟩ : 0 ≤ b1 ∧ b1 < 256 := hb1 ▸ bytesI_at s (2 * k + 1)
        have hi1 : (2 * (k : Int)) < s.size := by omega
        have hx1 : ∀ W, (Instr.index 9 (.string s) (.int .i64 (2 * (k : Int)))).run Tryd.prog W = .ok (.int .u8 b0) W := fun W => by rw [hb0, show (2 * (k : Int)) = ((2 * k : Nat) : Int) by omega]; exact index_str Tryd.underlying9 s hlt W
        have hx2 : ∀ W, (Instr.index 9 (.string s) (.int .i64 ((2 * (k : Int)) + 1))).run Tryd.prog W = .ok (.int .u8 b1) W := fun W => by rw [hb1, show (2 * (k : Int) + 1) = ((2 * k + 1 : Nat) : Int) by omega]; exact index_str Tryd.underlying9 s (show 2 * k + 1 < s.size by omega) W
        obtain ⟨a0, ha0⟩ : ∃ a, a = digV b0 := ⟨_, rfl⟩
        obtain ⟨a1, ha1⟩ : ∃ a, a = digV b1 := ⟨_, rfl⟩
        have q0 := digV_eq b0
        have q1 := digV_eq b1
        rw [← ha0] at q0
        rw [← ha1] at q1
        have r0 := hexV_bd p0
        have r1 := hexV_bd p2
        have c1 : ∀ W, Calls Tryd.prog 30 #[.int .u8 b0] W fun e w' => e = .returned (.int .i64 a0) ∧ W = w' := fun W => by rw [ha0]; exact digit_any b0 W p0 p1
        have c2 : ∀ W, Calls Tryd.prog 30 #[.int .u8 b1] W fun e w' => e = .returned (.int .i64 a1) ∧ W = w' := fun W => by rw [ha1]; exact digit_any b1 W p2 p3
        have Q0 := Bx.mk q0; have Q1 := Bx.mk q1; have R0 := Bx.mk r0; have R1 := Bx.mk r1
        have HB0 := Bx.mk hb0; have HB1 := Bx.mk hb1
        have C1 := Lib.hid c1; have C2 := Lib.hid c2
        clear hb0 hb1 ha0 ha1 c1 c2 q0 q1 r0 r1
        by_cases hv0 : a0 < 0
        · go_wp2_with fail
          refine (C1.out _).mono ?_
          rintro e w1 ⟨rfl, rfl⟩
          go_wp2_with fail
          refine (C2.out _).mono ?_
          rintro e w1 ⟨rfl, rfl⟩
          go_wp2_with fail
          go_ret2
          refine ⟨?_, hg'⟩
          rw [unhexV, if_neg]
          · rfl
          · rintro ⟨_, h⟩
            have := (h k (by omega)).1
            rw [← HB0.out] at this
            rcases Q0.out with q | q <;> omega
        · by_cases hv1 : a1 < 0
          · go_wp2_with fail
            refine (C1.out _).mono ?_
            rintro e w1 ⟨rfl, rfl⟩
            go_wp2_with fail
            refine (C2.out _).mono ?_
            rintro e w1 ⟨rfl, rfl⟩
            go_wp2_with fail
            go_ret2
            refine ⟨?_, hg'⟩
            rw [unhexV, if_neg]
            · rfl
            · rintro ⟨_, h⟩
              have := (h k (by omega)).2
              rw [← HB1.out] at this
              rcases Q1.out with q | q <;> omega
          · have E0 : a0 = hexV b0 ∧ hexV b0 < 16 := by rcases Q0.out with q | q <;> omega
            have E1 : a1 = hexV b1 ∧ hexV b1 < 16 := by rcases Q1.out with q | q <;> omega
            have y0 : 0 ≤ a0 ∧ a0 < 16 := by have := R0.out; omega
            have y1 : 0 ≤ a1 ∧ a1 < 16 := by have := R1.out; omega
            obtain ⟨y00, y01⟩ := y0
            obtain ⟨y10, y11⟩ := y1
            have o1 : (16 * a0 + a1) % 256 = 16 * a0 + a1 := by omega
            have HE0 := Bx.mk E0; have HE1 := Bx.mk E1
            clear E0 E1
            have F1 := Lib.hid (World.ownsRow.alloc hown' (.cells #[.int .u8 (16 * a0 + a1)] 5))
            have F2 := Lib.hid (show w.heap.size ≤ (wr.alloc (.cells #[.int .u8 (16 * a0 + a1)] 5)).heap.size by simp; omega)
            have F3 := Lib.hid (show k + 1 ≤ maxLen by unfold maxLen; omega)
            have F4 := Lib.hid (show (k + 1) * 1 ≤ 140737488355328 by omega)
            go_wp2_with fail
            refine (C1.out _).mono ?_
            rintro e w1 ⟨rfl, rfl⟩
            go_wp2_with fail
            refine (C2.out _).mono ?_
            rintro e w1 ⟨rfl, rfl⟩
            go_wp2_with (at_builtin; refine wpList_append_own _ rfl _ _ 22 rfl w.heap.size 5 i0 (.int .u8 0) 1 1 U hi hz0 hz1 hz2 rfl (by decide) _ k _ rfl F1.out ⟨wr.heap.size, 0, none⟩ 1 1 [.int .u8 (16 * a0 + a1)] rfl rfl (cell_one_new _ _ _) (fun x hx => by simp at hx; subst hx; rfl) F3.out F4.out F2.out ?_; intro v' w3 hown3 hgrow3 hnil3)
            go_roundw
            case rel =>
              refine ⟨k + 1, by omega, by go_num, ?_, okTo_succ hok (by rw [← HB0.out]; exact HE0.out.2) (by rw [← HB1.out]; exact HE1.out.2), gb_own (gb_alloc hg' _) hgrow3 (fun b e => (hown'.lt b e).1)⟩
              rw [unhexL_succ, List.map_append, ← HB0.out, ← HE0.out.1, ← HB1.out, ← HE1.out.1]; exact hown3
            case measure => simp [intOf]; omega
      · have hi1 : ¬ (2 * (k : Int)) < s.size := by omega
        obtain rfl : k = s.size / 2 := by omega
        have hcv := convert_own hown'
        go_wp2_with fail
        go_ret2
        refine ⟨?_, hg'⟩
        rw [unhexV, if_pos ⟨by omega, hok⟩]; rfl
end Go.Proofs.YtmedobeogdnkfaaDoor
