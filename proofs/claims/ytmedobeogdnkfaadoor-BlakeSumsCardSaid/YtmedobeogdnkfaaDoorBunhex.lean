/- The walks over blake.Unhex and the reference's Hex, digit, Unhex, and what they answer. -/
import Derived.Test.YtmedobeogdnkfaaDoorBhex
import Derived.Test.YtmedobeogdnkfaaDoorBapp
namespace Go.Proofs.YtmedobeogdnkfaaDoor
open Go.RowKit

def okTo (xs : List Int) (k : Nat) : Prop := ∀ j, j < k → hexV (xs.getD (2 * j) 0) < 16 ∧ hexV (xs.getD (2 * j + 1) 0) < 16
instance (xs : List Int) (k : Nat) : Decidable (okTo xs k) := inferInstanceAs (Decidable (∀ j, j < k → hexV (xs.getD (2 * j) 0) < 16 ∧ hexV (xs.getD (2 * j + 1) 0) < 16))
def unhexL (xs : List Int) (k : Nat) : List Int := (List.range k).map fun j => 16 * hexV (xs.getD (2 * j) 0) + hexV (xs.getD (2 * j + 1) 0)
def unhexV (s : ByteArray) : Value :=
  if s.size % 2 = 0 ∧ okTo (bytesI s) (s.size / 2) then .tuple #[.string (strOfNums (unhexL (bytesI s) (s.size / 2))), .bool true] else .tuple #[.string ⟨#[]⟩, .bool false]
theorem hexV_bd {c : Int} (_h0 : 0 ≤ c) : 0 ≤ hexV c ∧ hexV c ≤ 16 := by unfold hexV; split <;> (try split) <;> omega
theorem okTo_succ {xs : List Int} {k : Nat} (h : okTo xs k) (h0 : hexV (xs.getD (2 * k) 0) < 16) (h1 : hexV (xs.getD (2 * k + 1) 0) < 16) : okTo xs (k + 1) := by
  intro j hj
  rcases Nat.lt_or_ge j k with h' | h'
  · exact h j h'
  · obtain rfl : j = k := by omega
    exact ⟨h0, h1⟩
theorem unhexL_succ (xs : List Int) (k : Nat) : unhexL xs (k + 1) = unhexL xs k ++ [16 * hexV (xs.getD (2 * k) 0) + hexV (xs.getD (2 * k + 1) 0)] := by
  simp [unhexL, List.range_succ]
theorem or_nib {a b : Int} (h0 : 0 ≤ a) (h1 : a < 16) (h2 : 0 ≤ b) (h3 : b < 16) : bits BinOp.or IntKind.u8 (16 * a) b = 16 * a + b := by
  obtain ⟨n, rfl⟩ := Int.eq_ofNat_of_zero_le h0
  obtain ⟨m, rfl⟩ := Int.eq_ofNat_of_zero_le h2
  have all : ∀ n : Nat, n < 16 → ∀ m : Nat, m < 16 → bits BinOp.or IntKind.u8 (16 * (n : Int)) (m : Int) = 16 * n + m := by decide +kernel
  exact all n (by omega) m (by omega)

/-- The value of a digit, or -1. -/
def digV (c : Int) : Int := if 48 ≤ c ∧ c ≤ 57 then c - 48 else if 97 ≤ c ∧ c ≤ 102 then c - 87 else -1
theorem digV_eq (c : Int) : (digV c = hexV c ∧ 0 ≤ digV c ∧ hexV c < 16) ∨ (digV c = -1 ∧ hexV c = 16) := by unfold digV hexV; split <;> (try split) <;> omega

set_option maxHeartbeats 400000 in
theorem digit_any (c : Int) (w : World) (h0 : 0 ≤ c) (h1 : c < 256) : Calls Tryd.prog 30 #[.int .u8 c] w fun e w' => e = .returned (.int .i64 (digV c)) ∧ w = w' := by
  unfold digV
  by_cases a : 48 ≤ c
  · by_cases b : c ≤ 57
    · rw [if_pos ⟨a, b⟩]
      go_enter Tryd.func30, Tryd.ntmps30
      go_wp2
      go_ret
      exact ⟨rfl, rfl⟩
    · rw [if_neg (fun h => b h.2)]
      by_cases d : 97 ≤ c
      · by_cases e : c ≤ 102
        · rw [if_pos ⟨d, e⟩]
          go_enter Tryd.func30, Tryd.ntmps30
          go_wp2
          go_ret
          refine ⟨?_, rfl⟩
          show Ending.returned (.int .i64 _) = _
          congr 2; omega
        · rw [if_neg (fun h => e h.2)]
          go_enter Tryd.func30, Tryd.ntmps30
          go_wp2
          go_ret
          exact ⟨rfl, rfl⟩
      · rw [if_neg (fun h => d h.1)]
        go_enter Tryd.func30, Tryd.ntmps30
        go_wp2
        go_ret
        exact ⟨rfl, rfl⟩
  · rw [if_neg (fun h => a h.1), if_neg (fun h => by omega)]
    have d : ¬ 97 ≤ c := by omega
    go_enter Tryd.func30, Tryd.ntmps30
    go_wp2
    go_ret
    exact ⟨rfl, rfl⟩

set_option maxRecDepth 100000 in
set_option maxHeartbeats 1000000 in
theorem unhex_any (s : ByteArray) (w : World) (hs : s.size ≤ 1000000) :
    Calls Tryd.prog 22 #[.string s] w fun e w' => e = .returned (unhexV s) ∧ w.grownBy w' none := by
  obtain ⟨i0, hi, hz0, hz1, hz2⟩ := info_parts Tryd.infoU8
  have U := Tryd.underlying22
  have hsz : (s.size : Int) ≤ 1000000 := by omega
  by_cases hodd : s.size % 2 = 1
  · have e1 : (s.size : Int) % 2 = 1 := by omega
    have e2 : (s.size : Int).tmod 2 = 1 := by rw [Int.tmod_eq_emod_of_nonneg (by omega)]; exact e1
    go_enter Tryd.func22, Tryd.ntmps22
    go_wp2_with fail
    go_ret2
    refine ⟨?_, gb_refl _ _⟩
    rw [unhexV, if_neg (fun h => by omega)]; rfl
  · have e1 : ¬ (s.size : Int) % 2 = 1 := by omega
    have e2 : (s.size : Int).tmod 2 = 0 := by rw [Int.tmod_eq_emod_of_nonneg (by omega)]; omega
    go_enter Tryd.func22, Tryd.ntmps22
    go_wp2_with fail
    go_loopw [4, 5] (fun v c wr => ∃ k : Nat, 2 * k ≤ s.size ∧ c = .int .i64 (2 * (k : Int)) ∧ wr.ownsRow w.heap.size 5 1 v k ((unhexL (bytesI s) k).map (Value.int .u8)) ∧ okTo (bytesI s) k ∧ w.grownBy wr none)
      (fun _ c _ => s.size - (intOf c).toNat)
    case atStart => exact ⟨0, by omega, rfl, World.ownsRow_nil _ _ _ _, fun j hj => by omega, gb_refl _ _⟩
    case round =>
      obtain ⟨k, hk, rfl, hown', hok, hg'⟩ := hrel
      have hsz' := hg'.size
      by_cases hlt : 2 * k < s.size
      · obtain ⟨b0, hb0⟩ : ∃ b, b = (bytesI s).getD (2 * k) 0 := ⟨_, rfl⟩
        obtain ⟨b1, hb1⟩ : ∃ b, b = (bytesI s).getD (2 * k + 1) 0 := ⟨_, rfl⟩
        obtain ⟨p0, p1⟩ : 0 ≤ b0 ∧ b0 < 256 := hb0 ▸ bytesI_at s (2 * k)
        obtain ⟨p2, p3⟩ : 0 ≤ b1 ∧ b1 < 256 := hb1 ▸ bytesI_at s (2 * k + 1)
        have hi1 : (2 * (k : Int)) < s.size := by omega
        have hx1 : ∀ W, (Instr.index 9 (.string s) (.int .i64 (2 * (k : Int)))).run Tryd.prog W = .ok (.int .u8 b0) W := fun W => by rw [hb0, show (2 * (k : Int)) = ((2 * k : Nat) : Int) by omega]; exact index_str Tryd.underlying9 s hlt W
        have hx2 : ∀ W, (Instr.index 9 (.string s) (.int .i64 ((2 * (k : Int)) + 1))).run Tryd.prog W = .ok (.int .u8 b1) W := fun W => by rw [hb1, show (2 * (k : Int) + 1) = ((2 * k + 1 : Nat) : Int) by omega]; exact index_str Tryd.underlying9 s (show 2 * k + 1 < s.size by omega) W
        obtain ⟨a0, ha0⟩ : ∃ a, a = hexV b0 := ⟨_, rfl⟩
        obtain ⟨a1, ha1⟩ : ∃ a, a = hexV b1 := ⟨_, rfl⟩
        obtain ⟨q0, q1⟩ : 0 ≤ a0 ∧ a0 ≤ 16 := ha0 ▸ hexV_bd p0
        obtain ⟨q2, q3⟩ : 0 ≤ a1 ∧ a1 ≤ 16 := ha1 ▸ hexV_bd p2
        have c1 : ∀ W, Calls Tryd.prog 29 #[.int .u8 b0] W fun e w' => e = .returned (.int .u8 a0) ∧ w' = W := fun W => by rw [ha0]; exact (value_any b0 W p0 p1).mono fun e w' h => ⟨h.1, h.2.symm⟩
        have c2 : ∀ W, Calls Tryd.prog 29 #[.int .u8 b1] W fun e w' => e = .returned (.int .u8 a1) ∧ w' = W := fun W => by rw [ha1]; exact (value_any b1 W p2 p3).mono fun e w' h => ⟨h.1, h.2.symm⟩
        have HB0 := Bx.mk hb0; have HB1 := Bx.mk hb1; have HA0 := Bx.mk ha0; have HA1 := Bx.mk ha1
        have C1 := Lib.hid c1; have C2 := Lib.hid c2
        clear hb0 hb1 ha0 ha1 c1 c2
        go_wp2_with fail
        go_quiet (first | (go_at_call_of 29 (Value.int .u8 b0); exact Calls.quiet_of_same (C1.out _)) | (go_at_call_of 29 (Value.int .u8 b1); exact Calls.quiet_of_same (C2.out _)))
        by_cases hv0 : 15 < a0
        · go_wp2_with fail
          go_ret2
          refine ⟨?_, gb_drewN hg' _⟩
          rw [unhexV, if_neg]
          · rfl
          · rintro ⟨_, h⟩
            have := (h k (by omega)).1
            rw [← HB0.out, ← HA0.out] at this
            omega
        · by_cases hv1 : 15 < a1
          · go_wp2_with fail
            go_ret2
            refine ⟨?_, gb_drewN hg' _⟩
            rw [unhexV, if_neg]
            · rfl
            · rintro ⟨_, h⟩
              have := (h k (by omega)).2
              rw [← HB1.out, ← HA1.out] at this
              omega
          · have o1 : bits BinOp.or IntKind.u8 (a0 * 16) a1 = 16 * a0 + a1 := by rw [Int.mul_comm]; exact or_nib q0 (by omega) q2 (by omega)
            have hN : (wr.drewN nq).ownsRow w.heap.size 5 1 u4 k ((unhexL (bytesI s) k).map (Value.int .u8)) := hown'
            have F1 := Lib.hid (World.ownsRow.alloc hN (.cells #[.int .u8 (16 * a0 + a1)] 5))
            have F2 := Lib.hid (show w.heap.size ≤ ((wr.drewN nq).alloc (.cells #[.int .u8 (16 * a0 + a1)] 5)).heap.size by simp; omega)
            have F3 := Lib.hid (show k + 1 ≤ maxLen by unfold maxLen; omega)
            have F4 := Lib.hid (show (k + 1) * 1 ≤ 140737488355328 by omega)
            go_wp2_with (at_builtin; refine wpList_append_own _ rfl _ _ 22 rfl w.heap.size 5 i0 (.int .u8 0) 1 1 U hi hz0 hz1 hz2 rfl (by decide) _ k _ rfl F1.out ⟨wr.heap.size, 0, none⟩ 1 1 [.int .u8 (16 * a0 + a1)] rfl rfl (cell_one_new _ _ _) (fun x hx => by simp at hx; subst hx; rfl) F3.out F4.out F2.out ?_; intro v' w3 hown3 hgrow3 hnil3)
            go_roundw
            case rel =>
              refine ⟨k + 1, by omega, by go_num, ?_, okTo_succ hok (by rw [← HB0.out, ← HA0.out]; omega) (by rw [← HB1.out, ← HA1.out]; omega), gb_own (gb_alloc (gb_drewN hg' _) _) hgrow3 (fun b e => (hN.lt b e).1)⟩
              rw [unhexL_succ, List.map_append, ← HB0.out, ← HA0.out, ← HB1.out, ← HA1.out]; exact hown3
            case measure => simp [intOf]; omega
      · have hi1 : ¬ (2 * (k : Int)) < s.size := by omega
        obtain rfl : k = s.size / 2 := by omega
        have hcv := convert_own hown'
        go_wp2_with fail
        go_ret2
        refine ⟨?_, hg'⟩
        rw [unhexV, if_pos ⟨by omega, hok⟩]; rfl
end Go.Proofs.YtmedobeogdnkfaaDoor
