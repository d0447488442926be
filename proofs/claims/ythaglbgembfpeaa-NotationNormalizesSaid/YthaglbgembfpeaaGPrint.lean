/- notation.Print: its Lean function and its contract, in the print's form. -/
import Derived.Test.YthaglbgembfpeaaGBuild
import Derived.Test.YthaglbgembfpeaaP12
import Derived.Lib.OthersKept
import Derived.Lib.Hide
import Derived.Deep.RegionHeld3
import Derived.Deep.Cut
import Derived.Deep.CutRange
import Derived.WalkKit
namespace Go.Proofs.Ythaglbgembfpeaa
open Go.Shelf Go.RowKit Go.Proofs Go.Proofs.Ythaglbgembfpeaa.P Go.Proofs.YthaglbgembfpeaaW.PrintWords Go.Proofs.YthaglbgembfpeaaW.PrintLast

/-- The canonical text of an item. -/
def itemU (x : S49) : List UInt8 := x.f0.data.toList ++ List.replicate x.f1.toNat 60 ++ (if x.f2 = true then [63] else []) ++ (if x.f3 = true then [42] else []) ++ (if x.f4 = true then [43] else [])
def sepU (l : List S49) (i : Nat) : List UInt8 := if 0 < i ∧ (rd_T49 l ((i : Int) - 1)).f4 = false then [32] else []
def outTo (l : List S49) : Nat → List UInt8
  | 0 => []
  | i + 1 => outTo l i ++ sepU l i ++ itemU (rd_T49 l i)

theorem w64_in (n : Int) (h0 : -9223372036854775808 ≤ n) (h1 : n < 9223372036854775808) : wrap64 n = n := by unfold wrap64; omega
/-- What Check lets through. -/
def okItem (x : S49) : Prop := codeB x.f0 = true ∧ 0 ≤ x.f1 ∧ x.f1 ≤ 9
theorem codeB_size {s : ByteArray} (h : codeB s = true) : 1 ≤ s.size ∧ s.size ≤ 8 := by
  simp only [codeB, evB, Bool.and_eq_true, decide_eq_true_eq] at h
  omega
theorem at49_ok (l : List S49) (hl : l.length ≤ 1000) : ∀ k (i : Int) r, api_Item_58_at49.l0 k l (l.length : Int) i = some r → 0 ≤ i → r < 0 → ∀ j : Nat, i ≤ j → j < l.length → codeB (rd_T49 l j).f0 = true
  | 0, i, r, h, _, _ => by simp [api_Item_58_at49.l0] at h
  | k + 1, i, r, h, h0, hr => by
    intro j hij hj
    rw [api_Item_58_at49.l0, if_pos (by omega), if_pos h0, if_pos (by omega)] at h
    obtain ⟨b, hb, h⟩ := Option.bind_eq_some_iff.1 h
    unfold notation_check_1.f at hb
    obtain ⟨c, hc, hb⟩ := Option.bind_eq_some_iff.1 hb
    unfold ident_Code.f at hc
    split at hc
    · injection hc with hc
      injection hb with hb
      split at h
      · injection h with h; omega
      · rename_i hnb
        have hc1 : codeB (rd_T49 l i).f0 = true := by
          rw [hc]; cases c
          · rw [← hb] at hnb; simp at hnb
          · rfl
        by_cases e : (j : Int) = i
        · rw [e]; exact hc1
        · have hw : wrap64 (i + 1) = i + 1 := w64_in _ (by omega) (by omega)
          rw [hw] at h
          exact at49_ok l hl k (i + 1) r h (by omega) hr j (by omega) hj
    · cases hc
theorem at50_ok (l : List S49) (hl : l.length ≤ 1000) : ∀ k (i : Int) r, api_Item_58_at50.l0 k l (l.length : Int) i = some r → 0 ≤ i → r < 0 → ∀ j : Nat, i ≤ j → j < l.length → 0 ≤ (rd_T49 l j).f1 ∧ (rd_T49 l j).f1 ≤ 9
  | 0, i, r, h, _, _ => by simp [api_Item_58_at50.l0] at h
  | k + 1, i, r, h, h0, hr => by
    intro j hij hj
    rw [api_Item_58_at50.l0, if_pos (by omega), if_pos h0, if_pos (by omega)] at h
    obtain ⟨b, hb, h⟩ := Option.bind_eq_some_iff.1 h
    unfold notation_check_2.f at hb
    split at h
    · injection h with h; omega
    · rename_i hnb
      have hc1 : 0 ≤ (rd_T49 l i).f1 ∧ (rd_T49 l i).f1 ≤ 9 := by
        split at hb
        · injection hb with hb; exact absurd hb.symm hnb
        · injection hb with hb
          rw [← hb] at hnb
          simp at hnb
          omega
      by_cases e : (j : Int) = i
      · rw [e]; exact hc1
      · have hw : wrap64 (i + 1) = i + 1 := w64_in _ (by omega) (by omega)
        rw [hw] at h
        exact at50_ok l hl k (i + 1) r h (by omega) hr j (by omega) hj
theorem check0_ok {k : Nat} {l : List S49} (h : notation_check.f k l = some 0) : l.length ≤ 30 ∧ ∀ j : Nat, j < l.length → okItem (rd_T49 l j) := by
  unfold notation_check.f at h
  split at h
  · cases h
  · rename_i hl
    have hl' : l.length ≤ 30 := by omega
    refine ⟨hl', fun j hj => ?_⟩
    obtain ⟨b, hb, h⟩ := Option.bind_eq_some_iff.1 h
    split at h
    · cases h
    · rename_i nb
      obtain ⟨c, hc, h⟩ := Option.bind_eq_some_iff.1 h
      split at h
      · cases h
      · rename_i nc
        unfold api_Item_48_at49.f at hb
        obtain ⟨x, hx, hb⟩ := Option.bind_eq_some_iff.1 hb
        unfold api_Item_48_at50.f at hc
        obtain ⟨y, hy, hc⟩ := Option.bind_eq_some_iff.1 hc
        injection hb with hb
        injection hc with hc
        have x0 : x < 0 := by rw [← hb] at nb; simp at nb; omega
        have y0 : y < 0 := by rw [← hc] at nc; simp at nc; omega
        exact ⟨at49_ok l (by omega) k 0 x hx (by omega) x0 j (by omega) hj, at50_ok l (by omega) k 0 y hy (by omega) y0 j (by omega) hj⟩
theorem checkF_ok {k : Nat} {l : List S49} (h : notation_Check.f k l = some 0) : l.length ≤ 30 ∧ ∀ j : Nat, j < l.length → okItem (rd_T49 l j) := by
  unfold notation_Check.f at h
  obtain ⟨e, he, h⟩ := Option.bind_eq_some_iff.1 h
  split at h
  · rename_i e0; rw [e0] at he; exact check0_ok he
  · rename_i e0; injection h with h; exact absurd h e0
theorem itemU_len {x : S49} (h : okItem x) : (itemU x).length ≤ 20 := by
  have h1 := codeB_size h.1
  have h2 := h.2
  have h3 : x.f0.data.toList.length = x.f0.size := by rw [Array.length_toList]; rfl
  simp only [itemU, List.length_append, List.length_replicate, h3]
  have t : ∀ (b : Bool) (c : UInt8), (if b = true then [c] else []).length ≤ 1 := fun b c => by cases b <;> simp
  have := t x.f2 63; have := t x.f3 42; have := t x.f4 43
  omega
theorem outTo_len {l : List S49} (h : ∀ j : Nat, j < l.length → okItem (rd_T49 l j)) : ∀ i, i ≤ l.length → (outTo l i).length ≤ 21 * i
  | 0, _ => by simp [outTo]
  | i + 1, hi => by
    have h1 := outTo_len h i (by omega)
    have h2 := itemU_len (h i (by omega))
    have h3 : (sepU l i).length ≤ 1 := by unfold sepU; split <;> simp
    simp only [outTo, List.length_append]
    omega

def notation_Print.f (k : Nat) (l0 : List S49) : Option (ByteArray × Int) := (notation_Check.f k l0).bind fun e => if e = 0 then some (⟨(outTo l0 l0.length).toArray⟩, 0) else some (⟨#[]⟩, e)
theorem notation_Print.mono : ∀ a0 k, LeO (notation_Print.f k a0) (notation_Print.f (k + 1) a0) := by
  intro a0 k r h
  unfold notation_Print.f at h ⊢
  obtain ⟨e, he, h⟩ := Option.bind_eq_some_iff.1 h
  exact Option.bind_eq_some_iff.2 ⟨e, notation_Check.mono a0 k e he, h⟩

theorem below_gb {w w' : World} (h : Below w.heap.size w w') : w.grownBy w' none := ⟨h.os, h.tape, h.output, h.size, fun k hk _ => h.block k hk⟩
/-- Within a round: the builder holds X, the copy of the item stands, below base nothing has turned. -/
def RP (w0 : World) (b gx : Nat) (x : S49) (X : List UInt8) (wx : World) : Prop :=
  Lib.IsBuilderF 57 5 w0.heap.size b (Lib.byteCells X) wx ∧ wx.heap[gx]? = some (.cells #[.string x.f0, .int .i64 x.f1, .bool x.f2, .bool x.f3, .bool x.f4] 49 (0, 0)) ∧ gx ≠ b ∧ Below w0.heap.size w0 wx
theorem RP.drew {w0 : World} {b gx : Nat} {x : S49} {X : List UInt8} {wx : World} (h : RP w0 b gx x X wx) : RP w0 b gx x X wx.drew := ⟨h.1, h.2.1, h.2.2.1, h.2.2.2.drew⟩
theorem RP.cell {w0 : World} {b gx : Nat} {x : S49} {X : List UInt8} {wx : World} (h : RP w0 b gx x X wx) (j : Nat) : wx.cell? ⟨gx, j, none⟩ = (#[Value.string x.f0, .int .i64 x.f1, .bool x.f2, .bool x.f3, .bool x.f4] : Array Value)[j]? := cell_of_row wx gx j _ _ _ h.2.1
theorem isF_kept {T e : TypeId} {B b : Nat} {bs : List Value} {w w' : World} (h : Lib.IsBuilderF T e B b bs w) (hb : Below w.heap.size w w') : Lib.IsBuilderF T e B b bs w' := by
  have key : ∀ p, Lib.BuilderAtF T e B b p bs w → Lib.BuilderAtF T e B b p bs w' := fun p h => by
    have hlt := h.lt
    obtain ⟨hB, v, hv, hown, hne⟩ := h
    exact ⟨hB, v, (hb.block b hlt).trans hv, hown.kept (below_gb hb) (by cases hv : v.ownBlock <;> simp), hne⟩
  rcases h with h | h
  · exact .inl (key _ h)
  · exact .inr (key _ h)
theorem rp_byte {w0 : World} {b gx : Nat} {x : S49} {X : List UInt8} {wx : World} (h : RP w0 b gx x X wx) (c : UInt8) (hl : X.length ≤ 1000) :
    Calls Try.prog 30 #[.pointer (some ⟨b, 0, none⟩), .int .u8 c.toNat] wx fun e w' => e = .returned .nilIface ∧ RP w0 b gx x (X ++ [c]) w' := by
  obtain ⟨h1, h2, h3, h4⟩ := h
  refine (Any.Builder_WriteByte_k laysWB extraWB w0.heap.size b (Lib.byteCells X) c.toNat wx h1 (by rw [Lib.byteCells_length]; omega) h4.size).mono ?_
  rintro e w' ⟨rfl, k1, k2, k3⟩
  exact ⟨rfl, .inr (by rw [Lib.byteCells, List.map_append]; exact k1), k3 gx _ h2 (by simpa using h3) (fun _ _ e => by injection e with _ e _; exact (show ¬ (49 : Nat) = 5 by decide) e), h3, h4.trans k2⟩
theorem rp_str {w0 : World} {b gx : Nat} {x : S49} {X : List UInt8} {wx : World} (h : RP w0 b gx x X wx) (s : ByteArray) (hl : X.length + s.size ≤ 1000) :
    Calls Try.prog 31 #[.pointer (some ⟨b, 0, none⟩), .string s] wx fun e w' => e = .returned (.tuple #[.int .i64 s.size, .nilIface]) ∧ RP w0 b gx x (X ++ s.data.toList) w' := by
  obtain ⟨h1, h2, h3, h4⟩ := h
  refine (Any.Builder_WriteString_k { Try.lays105 with } Try.Builder_Extra_105 w0.heap.size b (Lib.byteCells X) s wx h1 (by rw [Lib.byteCells_length]; omega) h4.size).mono ?_
  rintro e w' ⟨rfl, k1, k2, k3⟩
  exact ⟨rfl, .inr (by rw [Lib.byteCells, List.map_append]; exact k1), k3 gx _ h2 (by simpa using h3) (fun _ _ e => by injection e with _ e _; exact (show ¬ (49 : Nat) = 5 by decide) e), h3, h4.trans k2⟩
theorem repeatL_one (c : UInt8) : ∀ n, Lib.repeatL [c] n = List.replicate n c
  | 0 => rfl
  | n + 1 => by rw [List.replicate_succ, ← repeatL_one c n]; rfl
theorem rp_rep {w0 : World} {b gx : Nat} {x : S49} {X : List UInt8} {wx : World} (h : RP w0 b gx x X wx) (c : Int) (h0 : 0 ≤ c) (h9 : c ≤ 9) :
    Calls Try.prog 32 #[.string ⟨#[60]⟩, .int .i64 c] wx fun e w' => e = .returned (.string ⟨(List.replicate c.toNat 60).toArray⟩) ∧ RP w0 b gx x X w' := by
  obtain ⟨h1, h2, h3, h4⟩ := h
  obtain ⟨n, rfl⟩ := Int.eq_ofNat_of_zero_le h0
  have hlt : gx < wx.heap.size := (Array.getElem?_eq_some_iff.1 h2).1
  refine (Try.strings_Repeat ⟨#[60]⟩ n wx (by omega) (by show 1 * n ≤ _; omega)).mono ?_
  rintro e w' ⟨rfl, k1⟩
  rw [show (⟨#[60]⟩ : ByteArray).data.toList = [60] from rfl, repeatL_one]
  exact ⟨rfl, isF_kept h1 k1, (k1.block gx hlt).trans h2, h3, h4.trans (k1.mono h4.size)⟩

set_option maxRecDepth 100000 in
set_option maxHeartbeats 4000000 in
theorem notation_Print.calls (k : Nat) (A0 : Option Addr) (c0 : Nat) (l0 : List S49) (r1 : ByteArray) (r2 : Int) (w : World) (hr0 : Kd.C k49 w A0 l0.length l0) (hc0 : l0.length ≤ c0) (h : notation_Print.f k l0 = some (r1, r2)) :
    Calls Try.prog 16 #[.slice A0 l0.length c0] w fun e w' => e = .returned (.tuple #[.string r1, .int .i64 r2]) ∧ Below w.heap.size w w' := by
  unfold notation_Print.f at h
  obtain ⟨e, he, h⟩ := Option.bind_eq_some_iff.1 h
  have C := Lib.hid (notation_Check.calls k A0 c0 l0 e w hr0 hc0 he)
  by_cases h0 : e = 0
  · subst h0
    rw [if_pos rfl] at h
    injection h with h
    injection h with h1 h2
    subst h1 h2
    have OK := Lib.hid (checkF_ok he)
    have HR := Lib.hid hr0
    have hn := OK.out.1
    clear he hr0
    go_enter Try.func16, Try.ntmps16
    go_wp2_with fail
    refine C.out.mono ?_
    rintro e w1 ⟨rfl, hb1⟩
    have HB1 := Lib.hid hb1
    clear hb1 C
    go_wp2_with fail
    go_loopw [15] (fun v wr => ∃ i : Nat, i ≤ l0.length ∧ v = .int .i64 i ∧ Lib.IsBuilderF 57 5 w.heap.size w1.heap.size (Lib.byteCells (outTo l0 i)) wr ∧ Below w.heap.size w wr ∧ w1.heap.size < wr.heap.size) (fun v _ => l0.length - (intOf v).toNat)
    case atStart =>
      refine ⟨0, by omega, rfl, .inl ⟨HB1.out.size, _, heap_alloc_new w1 _, World.ownsRowF_nil _ _ _ _, by simp [Value.ownBlock]⟩, HB1.out.alloc HB1.out.size _, by simp⟩
    case round =>
      obtain ⟨i, hi, rfl, hbu, hbe, hw1⟩ := hrel
      have HBu := Lib.hid hbu
      have HBe := Lib.hid hbe
      clear hbu hbe
      by_cases hlt : i < l0.length
      · have l1 : decide ((i : Int) < (l0.length : Int)) = true := decide_eq_true (by omega)
        have l2 : decide (i < l0.length) = true := decide_eq_true hlt
        obtain ⟨ad, eA, hx0, hx1, hx2, hx3, hx4⟩ := at_T49 HR.out (i : Int) (by omega) (by omega)
        cases eA
        rw [Int.toNat_natCast] at hx0 hx1 hx2 hx3 hx4
        replace hx0 := (HBe.out.cell (World.block_lt_of_cell? w _ hx0)).trans hx0
        replace hx1 := (HBe.out.cell (World.block_lt_of_cell? w _ hx1)).trans hx1
        replace hx2 := (HBe.out.cell (World.block_lt_of_cell? w _ hx2)).trans hx2
        replace hx3 := (HBe.out.cell (World.block_lt_of_cell? w _ hx3)).trans hx3
        replace hx4 := (HBe.out.cell (World.block_lt_of_cell? w _ hx4)).trans hx4
        have HX := Lib.hid (OK.out.2 i hlt)
        obtain ⟨x, hxe⟩ : ∃ x, x = rd_T49 l0 i := ⟨_, rfl⟩
        rw [← hxe] at hx0 hx1 hx2 hx3 hx4 HX
        have HXE := Lib.hid hxe
        clear hxe
        have RP0 := Lib.hid (show RP w w1.heap.size wr.heap.size x (outTo l0 i) (wr.alloc (.cells #[.string x.f0, .int .i64 x.f1, .bool x.f2, .bool x.f3, .bool x.f4] 49)) from
          ⟨HBu.out.alloc _, heap_alloc_new wr _, by omega, HBe.out.alloc HBe.out.size _⟩)
        have LEN := Lib.hid (show (outTo l0 i).length ≤ 630 from Nat.le_trans (outTo_len OK.out.2 i (by omega)) (by omega))
        have LS := Lib.hid (show (sepU l0 i).length ≤ 1 by unfold sepU; split <;> simp)
        have LX := Lib.hid (itemU_len HX.out)
        clear HBu
        go_upto_region 8 with fail
        clear hx0 hx1 hx2 hx3 hx4
        obtain ⟨B, hBe⟩ : ∃ B : Bool, B = decide (0 < i ∧ (rd_T49 l0 ((i : Int) - 1)).f4 = false) := ⟨_, rfl⟩
        have HBB := Lib.hid hBe
        clear hBe
        go_cut [30] from 20 to 30 (fun v30 wx => v30 = .bool B ∧ RP w w1.heap.size wr.heap.size x (outTo l0 i) wx)
        case first =>
          rcases Nat.eq_zero_or_pos i with e0 | e0
          · have g1 : decide ((0 : Int) < (i : Int)) = false := decide_eq_false (by omega)
            have g2 : decide (0 < i) = false := decide_eq_false (by omega)
            go_wp2_with fail
            go_meet
            exact ⟨by rw [HBB.out, decide_eq_false (by omega)], RP0.out⟩
          · have g1 : decide ((0 : Int) < (i : Int)) = true := decide_eq_true (by omega)
            have g2 : decide (0 < i) = true := decide_eq_true (by omega)
            obtain ⟨ad', eA, _, _, _, _, hy4⟩ := at_T49 HR.out ((i : Int) - 1) (by omega) (by omega)
            cases eA
            replace hy4 := (RP0.out.2.2.2.cell (World.block_lt_of_cell? w _ hy4)).trans hy4
            have gw : IntKind.i64.wrap ((i : Int) - 1) = (i : Int) - 1 := IntWalk.i64_in _ (by omega)
            have gt : ((i : Int) - 1).toNat = i - 1 := by omega
            have gs : (0 : Int) ≤ (i : Int) - 1 := by omega
            have gl : (i : Int) - 1 < (l0.length : Int) := by omega
            rw [gt] at hy4
            cases hj : (rd_T49 l0 ((i : Int) - 1)).f4 with
            | true =>
              rw [hj] at hy4
              go_wp2_with fail
              go_meet
              exact ⟨by rw [HBB.out, decide_eq_false (by rw [hj]; simp)], RP0.out⟩
            | false =>
              rw [hj] at hy4
              go_wp2_with fail
              go_meet
              exact ⟨by rw [HBB.out, decide_eq_true ⟨e0, hj⟩], RP0.out⟩
        case rest =>
        obtain ⟨rfl, hrp⟩ := hcut
        have RP0' := Lib.hid hrp
        clear hrp RP0
        go_upto_if 30 with fail
        go_cut [] from 31 to 31 (fun wx => RP w w1.heap.size wr.heap.size x (outTo l0 i ++ sepU l0 i) wx)
        case first =>
          cases B with
          | false =>
            go_wp2_with fail
            go_meet
            have : sepU l0 i = [] := by unfold sepU; rw [if_neg (of_decide_eq_false HBB.out.symm)]
            rw [this, List.append_nil]
            exact RP0'.out
          | true =>
            go_wp2_with fail
            refine (rp_byte RP0'.out 32 (by have := LEN.out; omega)).mono ?_
            rintro e w3 ⟨rfl, h3⟩
            go_wp2_with fail
            go_meet
            have : sepU l0 i = [32] := by unfold sepU; rw [if_pos (of_decide_eq_true HBB.out.symm)]
            rw [this]
            exact h3
        case rest =>
          have RP1 := Lib.hid hcut
          clear hcut RP0'
          have f0 : wc.drew.cell? ⟨wr.heap.size, 0, none⟩ = some (.string x.f0) := RP1.out.drew.cell 0
          have f1 : wc.drew.cell? ⟨wr.heap.size, 1, none⟩ = some (.int .i64 x.f1) := RP1.out.drew.cell 1
          have RD := Lib.hid RP1.out.drew
          have LXS := Lib.hid (show x.f0.size + x.f1.toNat ≤ 17 by have := codeB_size HX.out.1; have := HX.out.2; omega)
          obtain ⟨S, hS⟩ : ∃ S : ByteArray, S = ⟨(List.replicate x.f1.toNat 60).toArray⟩ := ⟨_, rfl⟩
          have HS := Lib.hid hS
          have HSs := Lib.hid (show S.size = x.f1.toNat by rw [hS]; show (List.replicate x.f1.toNat (60 : UInt8)).toArray.size = _; simp)
          have CR := Lib.hid (show ∀ W, RP w w1.heap.size wr.heap.size x (outTo l0 i ++ sepU l0 i) W → Calls Try.prog 32 #[.string ⟨#[60]⟩, .int .i64 x.f1] W fun e w' => e = .returned (.string S) ∧ RP w w1.heap.size wr.heap.size x (outTo l0 i ++ sepU l0 i) w' from fun W h => by rw [hS]; exact rp_rep h x.f1 HX.out.2.1 HX.out.2.2)
          clear hS
          have z0 : x.f0.size + S.size ≤ 9223372036854775807 := by have := LXS.out; have := HSs.out; omega
          have z1 : ¬ 9223372036854775807 < x.f0.size + S.size := by omega
          have z2 : ¬ 9223372036854775807 < (x.f0 ++ S).size := by rw [ByteArray.size_append]; omega
          go_upto_region 10 with fail
          go_region_held3 (fun w' => w'.cell? ⟨wr.heap.size, 0, none⟩ = some (.string x.f0) ∧ w'.cell? ⟨wr.heap.size, 1, none⟩ = some (.int .i64 x.f1)) (first | exact ⟨f0, f1⟩ | exact ⟨RP.cell (by assumption) 0, RP.cell (by assumption) 1⟩ | go_keep) ((first
            | (go_at_call 32; refine (CR.out _ RD.out).mono ?_; rintro e w2 ⟨rfl, h2⟩)
            | (go_at_call 31; refine (rp_str (by assumption) _ (by have := LEN.out; have := LS.out; have := LXS.out; have := HSs.out; rw [List.length_append, ByteArray.size_append]; omega)).mono ?_; rintro e w3 ⟨rfl, h3⟩)))
          obtain ⟨X1, hX1⟩ : ∃ X, X = (outTo l0 i ++ sepU l0 i) ++ (x.f0 ++ S).data.toList := ⟨_, rfl⟩
          have HX1 := Lib.hid hX1
          rw [← hX1] at h3
          have RP3 := Lib.hid h3
          have RP3l := Lib.hid (show X1.length ≤ 700 from by
            have := LEN.out; have := LS.out; have := LXS.out; have := HSs.out
            have e : (x.f0 ++ S).data.toList.length = (x.f0 ++ S).size := by rw [Array.length_toList]; rfl
            rw [hX1, List.length_append, List.length_append, e, ByteArray.size_append]; omega)
          clear h3 hX1 f0 f1 RD CR z0 z1 z2 RP1 h2
          simp only [Exit.then]
          obtain ⟨b2, hb2⟩ : ∃ b, b = x.f2 := ⟨_, rfl⟩
          have hc2 : w3.cell? ⟨wr.heap.size, 2, none⟩ = some (.bool b2) := by rw [hb2]; exact RP3.out.cell 2
          have HB2 := Lib.hid hb2
          clear hb2
          go_upto_if 40 with fail
          clear hc2
          go_cut [] from 41 to 41 (fun wx => RP w w1.heap.size wr.heap.size x (X1 ++ (if x.f2 = true then [63] else [])) wx)
          case first =>
            cases b2 with
            | false =>
              go_wp2_with fail
              go_meet
              rw [if_neg (by rw [← HB2.out]; decide), List.append_nil]
              exact RP3.out
            | true =>
              go_wp2_with fail
              refine (rp_byte RP3.out 63 (by have := RP3l.out; omega)).mono ?_
              rintro e w4 ⟨rfl, h4⟩
              go_wp2_with fail
              go_meet
              rw [if_pos HB2.out.symm]
              exact h4
          case rest =>
          obtain ⟨X2, hX2⟩ : ∃ X, X = X1 ++ (if x.f2 = true then [63] else []) := ⟨_, rfl⟩
          have HX2 := Lib.hid hX2
          rw [← hX2] at hcut
          have RP4 := Lib.hid hcut
          have RP4l := Lib.hid (show X2.length ≤ 702 from by have := RP3l.out; rw [hX2, List.length_append]; split <;> simp <;> omega)
          clear hcut hX2
          obtain ⟨b3, hb3⟩ : ∃ b, b = x.f3 := ⟨_, rfl⟩
          have hc3 : wc.cell? ⟨wr.heap.size, 3, none⟩ = some (.bool b3) := by rw [hb3]; exact RP4.out.cell 3
          have HB3 := Lib.hid hb3
          clear hb3
          go_upto_if 43 with fail
          clear hc3
          go_cut [] from 44 to 44 (fun wx => RP w w1.heap.size wr.heap.size x (X2 ++ (if x.f3 = true then [42] else [])) wx)
          case first =>
            cases b3 with
            | false =>
              go_wp2_with fail
              go_meet
              rw [if_neg (by rw [← HB3.out]; decide), List.append_nil]
              exact RP4.out
            | true =>
              go_wp2_with fail
              refine (rp_byte RP4.out 42 (by have := RP4l.out; omega)).mono ?_
              rintro e w4 ⟨rfl, h4⟩
              go_wp2_with fail
              go_meet
              rw [if_pos HB3.out.symm]
              exact h4
          case rest =>
          obtain ⟨X3, hX3⟩ : ∃ X, X = X2 ++ (if x.f3 = true then [42] else []) := ⟨_, rfl⟩
          have HX3 := Lib.hid hX3
          rw [← hX3] at hcut
          have RP5 := Lib.hid hcut
          have RP5l := Lib.hid (show X3.length ≤ 703 from by have := RP4l.out; rw [hX3, List.length_append]; split <;> simp <;> omega)
          clear hcut hX3
          obtain ⟨b4, hb4⟩ : ∃ b, b = x.f4 := ⟨_, rfl⟩
          have hc4 : wc.cell? ⟨wr.heap.size, 4, none⟩ = some (.bool b4) := by rw [hb4]; exact RP5.out.cell 4
          have HB4 := Lib.hid hb4
          clear hb4
          go_upto_if 46 with fail
          clear hc4
          cases b4 with
          | false =>
            go_wp2_with fail
            go_roundw
            case rel =>
              refine ⟨i + 1, by omega, by go_num, ?_, RP5.out.2.2.2, ?_⟩
              · have e : X3 = outTo l0 (i + 1) := by
                  rw [HX3.out, HX2.out, HX1.out, outTo, ← HXE.out, itemU, HS.out, ← HB4.out]
                  simp [List.append_assoc]
                rw [← e]; exact RP5.out.1
              · rcases RP5.out.1 with h | h <;> exact h.lt
            case measure => simp [intOf]; omega
          | true =>
            go_wp2_with fail
            refine (rp_byte RP5.out 43 (by have := RP5l.out; omega)).mono ?_
            rintro e w4 ⟨rfl, h4⟩
            go_wp2_with fail
            go_roundw
            case rel =>
              refine ⟨i + 1, by omega, by go_num, ?_, h4.2.2.2, ?_⟩
              · have e : X3 ++ [43] = outTo l0 (i + 1) := by
                  rw [HX3.out, HX2.out, HX1.out, outTo, ← HXE.out, itemU, HS.out, ← HB4.out]
                  simp [List.append_assoc]
                rw [← e]; exact h4.1
              · rcases h4.1 with h | h <;> exact h.lt
            case measure => simp [intOf]; omega
      · obtain rfl : i = l0.length := by omega
        have l1 : decide ((l0.length : Int) < (l0.length : Int)) = false := decide_eq_false (by omega)
        have l2 : decide (l0.length < l0.length) = false := decide_eq_false (by omega)
        go_wp2_with fail
        refine (Try.Builder_String_any_f w.heap.size w1.heap.size (outTo l0 l0.length) wr HBu.out HBe.out.size).mono ?_
        rintro e w5 ⟨rfl, _, h5⟩
        go_wp2_with fail
        go_ret2
        exact ⟨rfl, HBe.out.trans h5⟩
  · rw [if_neg h0] at h
    injection h with h
    injection h with h1 h2
    subst h1 h2
    clear he hr0
    go_enter Try.func16, Try.ntmps16
    go_wp2_with fail
    refine C.out.mono ?_
    rintro e' w1 ⟨rfl, hb1⟩
    go_wp2_with fail
    go_ret2
    exact ⟨rfl, hb1⟩
end Go.Proofs.Ythaglbgembfpeaa
