/- ident.every with whatever function value, ident.Code: its Lean function and its contract, in the print's form. -/
import Derived.Test.YthaglbgembfpeaaP0
import Derived.Test.YthaglbgembfpeaaP5
import Derived.WalkKit
import Derived.WalkSpells
import Derived.WalkLawsBesides
import Derived.Lib.Hide
namespace Go.Proofs.Ythaglbgembfpeaa
open Go.RowKit Go.Proofs.Ythaglbgembfpeaa.P Go.Proofs.YthaglbgembfpeaaW.PrintWords Go.Proofs.YthaglbgembfpeaaW.PrintLast

/-- s has from 1 to most bytes, all of them accepted. -/
def evB (s : ByteArray) (most : Int) (p : Int → Bool) : Bool := decide (1 ≤ s.size) && (decide ((s.size : Int) ≤ most) && (bytesOf s).all p)
theorem bytes_take (s : ByteArray) {k : Nat} (h : k < s.size) : (bytesOf s).take (k + 1) = (bytesOf s).take k ++ [bt s k] := by
  have hl : k < (bytesOf s).length := by rw [bytesOf_length]; exact h
  rw [List.take_succ_eq_append_getElem hl]
  congr 2
  have := rd_bytesOf s k
  rw [← this, rd, Int.toNat_natCast, List.getD_eq_getElem?_getD, List.getElem?_eq_getElem hl]
  rfl

set_option maxRecDepth 100000 in
set_option maxHeartbeats 1000000 in
theorem every_any (s : ByteArray) (most : Int) (f : FuncId) (caps : Array Value) (p : Int → Bool) (I : Nat → World → Prop) (w : World) (hs : s.size ≤ 140737488351232) (hcf : ∀ (b : Int) (W : World), (callFunc f (#[.int .u8 b] ++ caps)).run Try.prog W = .ok (.enter f (#[.int .u8 b] ++ caps)) W)
    (h0 : I 0 w) (hstep : (s.size : Int) ≤ most → ∀ (k : Nat) (W : World), k < s.size → I k W → Calls Try.prog f (#[.int .u8 (bt s k)] ++ caps) W fun e w' => e = .returned (.bool (p (bt s k))) ∧ I (k + 1) w') :
    Calls Try.prog 36 #[.string s, .int .i64 most, .func (.func f) #[] caps] w fun e w' => e = .returned (.bool (evB s most p)) ∧ ∃ k, k ≤ s.size ∧ I k w' ∧ (evB s most p = true → k = s.size) := by
  by_cases c1 : s.size < 1
  · clear hstep
    have c1b : decide ((s.size : Int) < 1) = true := decide_eq_true (by omega)
    have c1n : decide (s.size < 1) = true := decide_eq_true c1
    go_enter Try.func36, Try.ntmps36
    go_wp2
    go_ret
    have e : evB s most p = false := by simp [evB]; intro h; omega
    exact ⟨by rw [e]; rfl, 0, by omega, h0, by rw [e]; intro h; cases h⟩
  · have c1b : decide ((s.size : Int) < 1) = false := decide_eq_false (by omega)
    have c1n : decide (s.size < 1) = false := decide_eq_false c1
    by_cases c2 : (s.size : Int) ≤ most
    · have c2b : decide (most < (s.size : Int)) = false := decide_eq_false (by omega)
      have HS := Lib.hid (hstep c2)
      clear hstep
      go_enter Try.func36, Try.ntmps36
      go_wp2
      go_loopw [7, 19] (fun _ v wr => ∃ k : Nat, k ≤ s.size ∧ v = .int .i64 k ∧ I k wr ∧ ((bytesOf s).take k).all p = true) (fun _ v _ => s.size - (intOf v).toNat)
      case atStart => exact ⟨0, by omega, rfl, h0, rfl⟩
      case round =>
        obtain ⟨k, hk, rfl, hI, hall⟩ := hrel
        have HI := Lib.hid hI
        have HA := Lib.hid hall
        clear hI hall h0
        by_cases hlt : k < s.size
        · have HBt := Lib.hid (show ∀ h : k < s.size, ((s[k]'h).toNat : Int) = bt s k from fun h => bt_at s (k : Int) (by rw [Int.toNat_natCast]; exact h))
          have l1 : decide ((k : Int) < (s.size : Int)) = true := decide_eq_true (by omega)
          have l2 : decide (k < s.size) = true := decide_eq_true hlt
          go_wp2_with fail
          have h2 : Calls Try.prog f (#[Value.int .u8 ((s[k]'hlt).toNat : Int)] ++ caps) wr (fun e w' => e = .returned (.bool (p (bt s k))) ∧ I (k + 1) w') := by rw [HBt.out hlt]; exact HS.out k _ hlt HI.out
          refine h2.mono ?_
          clear h2
          rintro e w' ⟨rfl, hI⟩
          have HI' := Lib.hid hI
          clear hI
          cases hp : p (bt s k) with
          | true =>
            go_wp2_with fail
            go_roundw
            case rel => exact ⟨k + 1, by omega, by go_num, HI'.out, by rw [bytes_take s hlt, List.all_append, HA.out]; simp [hp]⟩
            case measure => simp [intOf]; omega
          | false =>
            go_wp2_with fail
            go_ret
            have e : evB s most p = false := by
              have hm : bt s k ∈ bytesOf s := by
                have := bytes_take s hlt
                exact List.mem_of_mem_take (this ▸ List.mem_append.2 (.inr (by simp)))
              have : (bytesOf s).all p = false := by
                rw [List.all_eq_false]
                exact ⟨_, hm, by simp [hp]⟩
              simp [evB, this]
            exact ⟨by rw [e]; rfl, k + 1, by omega, HI'.out, by rw [e]; intro h; cases h⟩
        · obtain rfl : k = s.size := by omega
          have l1 : decide ((s.size : Int) < (s.size : Int)) = false := decide_eq_false (by omega)
          have l2 : decide (s.size < s.size) = false := decide_eq_false (by omega)
          go_wp2_with fail
          go_ret
          have e : evB s most p = true := by
            have := HA.out
            rw [List.take_of_length_le (by rw [bytesOf_length]; exact Nat.le_refl _)] at this
            simp [evB, this, c2]; omega
          exact ⟨by rw [e]; rfl, s.size, by omega, HI.out, fun _ => rfl⟩
    · clear hstep
      have c2b : decide (most < (s.size : Int)) = true := decide_eq_true (by omega)
      go_enter Try.func36, Try.ntmps36
      go_wp2
      go_ret
      have e : evB s most p = false := by
        have : decide ((s.size : Int) ≤ most) = false := decide_eq_false (by omega)
        simp only [evB, this, Bool.false_and, Bool.and_false]
      exact ⟨by rw [e]; rfl, 0, by omega, h0, by rw [e]; intro h; cases h⟩

def ltrB (b : Int) : Bool := decide (65 ≤ b ∧ b ≤ 90) || decide (97 ≤ b ∧ b ≤ 122)
def digI (b : Int) : Bool := decide (48 ≤ b ∧ b ≤ 57)
/-- s is a code. -/
def codeB (s : ByteArray) : Bool := evB s 8 (fun b => ltrB b || digI b) && (bytesOf s).any ltrB

theorem upper_any (b : Int) (w : World) : Calls Try.prog 38 #[.int .u8 b] w fun e w' => e = .returned (.bool (decide (65 ≤ b ∧ b ≤ 90))) ∧ Drawn0 w w' := by
  refine (ident_upper.calls b _ w ?_)
  unfold ident_upper.f
  by_cases h : 65 ≤ b <;> simp [h]
theorem lower_any (b : Int) (w : World) : Calls Try.prog 39 #[.int .u8 b] w fun e w' => e = .returned (.bool (decide (97 ≤ b ∧ b ≤ 122))) ∧ Drawn0 w w' := by
  refine (ident_lower.calls b _ w ?_)
  unfold ident_lower.f
  by_cases h : 97 ≤ b <;> simp [h]
theorem digit_any (b : Int) (w : World) : Calls Try.prog 40 #[.int .u8 b] w fun e w' => e = .returned (.bool (digI b)) ∧ Drawn0 w w' := by
  refine (ident_digit.calls b _ w ?_)
  unfold ident_digit.f digI
  by_cases h : 48 ≤ b <;> simp [h]

/-- What the closure leaves: a byte that is a letter is counted. -/
def LitPost (w : World) (g n : Nat) (b : Int) (e : Ending) (w' : World) : Prop :=
  e = .returned (.bool (ltrB b || digI b)) ∧ w'.heap[g]? = some (.cells #[.int .i64 ((if ltrB b then n + 1 else n : Nat) : Int)] 3 (0, 0)) ∧ w.grownBy w' (some g)
theorem lit_yes {w W : World} {g n : Nat} {b : Int} (he : ltrB b = true) (h1 : W.heap[g]? = some (.cells #[.int .i64 n] 3 (0, 0))) (h2 : w.grownBy W (some g)) : LitPost w g n b (.returned (.bool true)) (W.setCell ⟨g, 0, none⟩ (.int .i64 ((n : Int) + 1))) := by
  refine ⟨by rw [he]; rfl, ?_, World.grownBy.trans h2 ⟨rfl, rfl, rfl, by simp [World.setCell], fun k _ hk => heap_setCell_other W _ k _ (fun e => hk (by rw [e]))⟩⟩
  rw [he, if_pos rfl]
  exact heap_setCell_same W g 0 _ _ _ h1
theorem lit_no {w W : World} {g n : Nat} {b : Int} (he : ltrB b = false) (h1 : W.heap[g]? = some (.cells #[.int .i64 n] 3 (0, 0))) (h2 : w.grownBy W (some g)) : LitPost w g n b (.returned (.bool (digI b))) W := by
  refine ⟨by rw [he]; rfl, ?_, h2⟩
  rw [he]
  exact h1
theorem gb_drewN0 {w : World} (row : Option Nat) (n : Nat) : w.grownBy (w.drewN n) row := by
  have h := World.grownBy.refl w row
  exact ⟨h.os, h.tape, h.output, h.size, h.block⟩
theorem lit_any (g : Nat) (n : Nat) (b : Int) (w : World) (hn : n ≤ 1000) (hb : w.heap[g]? = some (.cells #[.int .i64 n] 3 (0, 0))) :
    Calls Try.prog 37 #[.int .u8 b, .pointer (some ⟨g, 0, none⟩)] w (LitPost w g n b) := by
  have HB := Lib.hid hb
  have hc : w.cell? ⟨g, 0, none⟩ = some (.int .i64 n) := by rw [cell_of_row w g 0 _ _ _ hb]; rfl
  have hf : w.frozen? ⟨g, 0, none⟩ = false := frozen_of_row w g 0 _ _ hb
  clear hb
  go_enter Try.func37, Try.ntmps37
  go_wp2_with fail
  refine (upper_any b _).mono ?_
  rintro e w1 ⟨rfl, ⟨n1, rfl⟩⟩
  cases h1 : decide (65 ≤ b ∧ b ≤ 90) with
  | true =>
    have e1 : ltrB b = true := by simp only [ltrB, h1, Bool.true_or]
    have HE := Lib.hid e1
    clear e1 h1
    go_wp2_with fail
    go_ret
    exact lit_yes (W := w.drewN n1) HE.out HB.out (gb_drewN0 _ _)
  | false =>
    go_wp2_with fail
    refine (lower_any b _).mono ?_
    rintro e w2 ⟨rfl, ⟨n2, rfl⟩⟩
    cases h2 : decide (97 ≤ b ∧ b ≤ 122) with
    | true =>
      have e1 : ltrB b = true := by simp only [ltrB, h2, Bool.or_true]
      have HE := Lib.hid e1
      clear e1 h1 h2
      go_wp2_with fail
      go_ret
      exact lit_yes (W := w.drewN (n1 + n2)) HE.out HB.out (gb_drewN0 _ _)
    | false =>
      have e1 : ltrB b = false := by simp only [ltrB, h1, h2, Bool.or_false]
      have HE := Lib.hid e1
      clear e1 h1 h2
      go_wp2_with fail
      refine (digit_any b _).mono ?_
      rintro e w3 ⟨rfl, ⟨n3, rfl⟩⟩
      go_wp2_with fail
      go_ret
      exact lit_no (W := w.drewN (n1 + n2 + n3)) HE.out HB.out (gb_drewN0 _ _)

/-- How many of the first k bytes are letters. -/
def lets (s : ByteArray) (k : Nat) : Nat := (((bytesOf s).take k).filter ltrB).length
theorem lets_step (s : ByteArray) {k : Nat} (h : k < s.size) : lets s (k + 1) = if ltrB (bt s k) then lets s k + 1 else lets s k := by
  unfold lets
  rw [bytes_take s h, List.filter_append, List.length_append]
  cases hb : ltrB (bt s k) <;> simp [hb]
theorem lets_le (s : ByteArray) (k : Nat) : lets s k ≤ k := Nat.le_trans (List.length_filter_le _ _) (List.length_take_le _ _)
theorem lets_all (s : ByteArray) : decide (0 < lets s s.size) = (bytesOf s).any ltrB := by
  have e : lets s s.size = ((bytesOf s).filter ltrB).length := by
    unfold lets; rw [List.take_of_length_le (by rw [bytesOf_length]; exact Nat.le_refl _)]
  rw [e, Bool.eq_iff_iff, decide_eq_true_iff, List.any_eq_true]
  constructor
  · intro h
    obtain ⟨x, hx⟩ := List.length_pos_iff_exists_mem.1 (show 0 < ((bytesOf s).filter ltrB).length by omega)
    exact ⟨x, (List.mem_filter.1 hx).1, (List.mem_filter.1 hx).2⟩
  · rintro ⟨x, hx, hb⟩
    have := List.length_pos_of_mem (List.mem_filter.2 ⟨hx, hb⟩)
    omega

namespace P
def ident_Code.f (a0 : ByteArray) : Option (Bool) := if a0.size ≤ 140737488351232 then some (codeB a0) else none
set_option maxHeartbeats 1000000 in
theorem ident_Code.calls (a0 : ByteArray) (r : Bool) (w : World) (h : ident_Code.f a0 = some r) :
    Calls Try.prog 27 #[.string a0] w fun e w' => e = .returned (.bool r) ∧ Below w.heap.size w w' := by
  unfold ident_Code.f at h
  split at h
  case isFalse => cases h
  rename_i hs
  injection h with h
  subst h
  have HS := Lib.hid hs
  clear hs
  go_enter Try.func27, Try.ntmps27
  go_wp2_with fail
  have h1 := every_any a0 8 37 #[.pointer (some ⟨w.heap.size, 0, none⟩)] (fun b => ltrB b || digI b)
    (fun k W => W.heap[w.heap.size]? = some (.cells #[.int .i64 (lets a0 k)] 3 (0, 0)) ∧ w.grownBy W none) (w.alloc (.cells #[.int .i64 0] 3)) HS.out (fun _ _ => by kernel_rfl)
    ⟨heap_alloc_new w _, World.grownBy_alloc w _ none⟩ (fun h8 k W hk hI => by
      have hl := lets_le a0 k
      refine (lit_any w.heap.size (lets a0 k) (bt a0 k) W (by omega) hI.1).mono ?_
      rintro e w' ⟨rfl, hc, hg⟩
      refine ⟨rfl, by rw [lets_step a0 hk]; exact hc, ?_⟩
      exact ⟨hg.os.trans hI.2.os, hg.tape.trans hI.2.tape, hg.output.trans hI.2.output, Nat.le_trans hI.2.size hg.size, fun j hj hn => (hg.block j (Nat.lt_of_lt_of_le hj hI.2.size) (by intro e; injection e with e; omega)).trans (hI.2.block j hj hn)⟩)
  refine h1.mono ?_
  clear h1
  rintro e w' ⟨rfl, k, hk, ⟨hc, hg⟩, hall⟩
  have hgb : Below w.heap.size w w' := ⟨hg.os, hg.tape, hg.output, hg.size, fun j hj => hg.block j hj (by simp)⟩
  have HG := Lib.hid hgb
  clear hg hgb
  cases hev : evB a0 8 (fun b => ltrB b || digI b) with
  | false =>
    have e : codeB a0 = false := by rw [codeB, hev, Bool.false_and]
    have HE := Lib.hid e
    clear hev hall hc e
    go_wp2_with fail
    go_ret
    exact ⟨by rw [HE.out]; rfl, HG.out⟩
  | true =>
    obtain rfl := hall hev
    have e : codeB a0 = decide (0 < lets a0 a0.size) := by rw [codeB, hev, Bool.true_and, lets_all]
    have HE := Lib.hid e
    have c0 : w'.cell? ⟨w.heap.size, 0, none⟩ = some (.int .i64 (lets a0 a0.size)) := by rw [cell_of_row w' _ 0 _ _ _ hc]; rfl
    clear hev hall hc e
    go_wp2_with fail
    go_ret
    exact ⟨by rw [HE.out]; rfl, HG.out⟩
end P
end Go.Proofs.Ythaglbgembfpeaa
