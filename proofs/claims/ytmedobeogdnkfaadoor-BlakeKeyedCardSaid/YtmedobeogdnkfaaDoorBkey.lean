/- The walks over blake.Sum, NewKeyed, Keyed. -/
import Derived.Test.YtmedobeogdnkfaaDoorBsum
namespace Go.Proofs.YtmedobeogdnkfaaDoor
open Go.RowKit

/-- A slice of bytes that reads as xs. -/
def RdS (w : World) (A : Option Addr) (n c : Nat) (xs : List Int) : Prop :=
  xs.length = n ∧ n ≤ c ∧ (0 < n → ∃ ad, A = some ad ∧ ad.block < w.heap.size ∧ ∀ j v, (xs.map (Value.int .u8))[j]? = some v → w.cell? (ad.add j) = some v)
theorem RdS.keep {w w' : World} {A : Option Addr} {n c : Nat} {xs : List Int} (h : RdS w A n c xs) (hs : w.heap.size ≤ w'.heap.size) (hk : ∀ k, k < w.heap.size → w'.heap[k]? = w.heap[k]?) : RdS w' A n c xs := by
  obtain ⟨h1, h2, h3⟩ := h
  refine ⟨h1, h2, fun hn => ?_⟩
  obtain ⟨ad, rfl, hb, hc⟩ := h3 hn
  refine ⟨ad, rfl, Nat.lt_of_lt_of_le hb hs, fun j v hv => ?_⟩
  rw [← hc j v hv]
  exact World.cell?_of_block (hk _ (by rw [add_block]; exact hb))
theorem RdS.grown {w w' : World} {A : Option Addr} {n c : Nat} {xs : List Int} (h : RdS w A n c xs) (hg : w.grownBy w' none) : RdS w' A n c xs := h.keep hg.size fun k hk => hg.block k hk (by simp)
theorem RdS.apart {w w' : World} {A : Option Addr} {n c : Nat} {xs : List Int} (h : RdS w A n c xs) (hg : w.grownBy w' none) {g : Nat} (hgs : w.heap.size ≤ g) : RdB w' A n c xs g := by
  obtain ⟨h1, h2, h3⟩ := h.grown hg
  refine ⟨h1, h2, fun hn => ?_⟩
  obtain ⟨ad, e, hb, hc⟩ := h3 hn
  obtain ⟨ad', e', hb', _⟩ := h.2.2 hn
  rw [e] at e'
  injection e' with e'
  subst e'
  exact ⟨ad, e, hb, by omega, hc⟩
theorem RdS.nil (w : World) (A : Option Addr) (c : Nat) : RdS w A 0 c [] := ⟨rfl, by omega, fun h => absurd h (by omega)⟩

set_option maxHeartbeats 400000 in
theorem psum_any (A : Option Addr) (n c : Nat) (xs : List Int) (w : World) (hr : RdS w A n c xs) (hT : Tabs w) (hn : n < 900000000) :
    Calls Tryd.prog 11 #[.slice A n c] w fun e w' => e = .returned (.string (digestS (hStart 0) xs)) ∧ w.grownBy w' none := by
  have HN := Bx.mk hn
  have hl := hr.1
  clear hn
  go_enter Tryd.func11, Tryd.ntmps11
  go_wp2_with fail
  refine (new_any _ hT).mono ?_
  rintro e w1 ⟨g, rfl, h1, h2, h3⟩
  have hT1 := hT.grown h3 (by simp)
  have h3g : 3 ≤ g := Nat.le_trans hT.2.2.2 h1
  go_wp2_with fail
  refine (write_any g (hStart 0) [] xs (hStart 0) (fun _ => 0) 0 0 0 A n c _ h2 (WInv.start _ _) (hr.apart h3 h1) h3g hT1 (by decide) (by have := HN.out; omega) (by have := HN.out; simp; omega)).mono ?_
  rintro e w2 ⟨rfl, h', buf', f', d', hb2, hI2, hg2⟩
  have hT2 := hT1.grown hg2 (fun k e => by injection e with e; omega)
  rw [List.nil_append] at hI2
  have HI2 := Bx.mk hI2
  clear hI2
  go_wp2_with fail
  refine (sum_any g (hStart 0) xs h' buf' f' d' _ _ hb2 HI2.out hT2 (by have := HN.out; omega)).mono ?_
  rintro e w3 ⟨rfl, hg3⟩
  go_wp2_with fail
  go_ret
  exact ⟨rfl, gb_trans (gb_new h3 hg2 h1) hg3⟩

/-- The block that a key is laid into. -/
def keyBlock (ks : List Int) : List Int := ks ++ List.replicate (64 - ks.length) 0
theorem keyBlock_length {ks : List Int} (h : ks.length ≤ 64) : (keyBlock ks).length = 64 := by simp [keyBlock]; omega

theorem key_cells {ks : List Int} (h : ks.length ≤ 64) : ((wordsK .u8 64 (fun _ => 0)).toList.take 0 ++ (ks.map (Value.int .u8) ++ (wordsK .u8 64 (fun _ => 0)).toList.drop (0 + (ks.map (Value.int .u8)).length))).toArray = wordsK .u8 64 (fun j => (keyBlock ks).getD j 0) := by
  apply Array.ext_getElem?
  intro j
  simp only [List.take_zero, List.nil_append, List.length_map, Nat.zero_add, List.getElem?_toArray]
  have hlen : (wordsK .u8 64 (fun _ => 0)).toList.length = 64 := by rw [Array.length_toList, wordsK_size]
  by_cases hj : j < 64
  · rw [wordsK_get _ _ _ hj]
    by_cases hk : j < ks.length
    · rw [List.getElem?_append_left (by rw [List.length_map]; exact hk), List.getElem?_map, List.getElem?_eq_getElem hk, keyBlock, getD_app_l _ _ hk, List.getD_eq_getElem?_getD, List.getElem?_eq_getElem hk]
      rfl
    · rw [List.getElem?_append_right (by rw [List.length_map]; omega), List.length_map, List.getElem?_drop, Array.getElem?_toList, show ks.length + (j - ks.length) = j from by omega, wordsK_get _ _ _ hj, keyBlock, getD_app_r _ _ (by omega), List.getD_eq_getElem?_getD, List.getElem?_replicate]
      split <;> rfl
  · rw [List.getElem?_eq_none (by simp only [List.length_append, List.length_map, List.length_drop, hlen]; omega), Array.getElem?_eq_none (by rw [wordsK_size]; omega)]
theorem rdb_block {w : World} {o : Nat} {xs : List Int} {n : Nat} (hb : Blk w o 48 (wordsK .u8 n (fun j => xs.getD j 0))) (hn : xs.length = n) {g : Nat} (hg : o ≠ g) : RdB w (some ⟨o, 0, none⟩) n n xs g :=
  ⟨hn, Nat.le_refl _, fun _ => ⟨⟨o, 0, none⟩, rfl, hb.lt, hg, fun j v hv => by
    have hj : j < n := by have := (List.getElem?_eq_some_iff.1 hv).1; simpa [hn] using this
    rw [Addr.add_mid, Nat.zero_add, hb.cell, wordsK_get _ _ _ hj, ← hv, List.getElem?_map, List.getElem?_eq_getElem (by omega), List.getD_eq_getElem?_getD, List.getElem?_eq_getElem (by omega)]
    rfl⟩⟩

theorem newKeyed_no (A : Option Addr) (n c : Nat) (w : World) (hn : n < 1 ∨ 32 < n) :
    Calls Tryd.prog 20 #[.slice A n c] w fun e w' => e = .returned (.tuple #[.pointer none, .int .i64 5]) ∧ w = w' := by
  rcases hn with h | h
  · have h1 : ((n : Nat) : Int) < 1 := by omega
    go_enter Tryd.func20, Tryd.ntmps20
    go_wp2
    go_ret2
    exact ⟨rfl, rfl⟩
  · have h1 : ¬ ((n : Nat) : Int) < 1 := by omega
    have h2 : (32 : Int) < n := by omega
    go_enter Tryd.func20, Tryd.ntmps20
    go_wp2
    go_ret2
    exact ⟨rfl, rfl⟩
set_option maxRecDepth 1000000 in
set_option maxHeartbeats 1000000 in
theorem newKeyed_yes (A : Option Addr) (n c : Nat) (ks : List Int) (w : World) (hr : RdS w A n c ks) (hT : Tabs w) (h1 : 1 ≤ n) (h2 : n ≤ 32) :
    Calls Tryd.prog 20 #[.slice A n c] w fun e w' => ∃ (g : Nat) (h' buf' : Nat → Int) (f' : Nat) (d' : Int), e = .returned (.tuple #[.pointer (some ⟨g, 0, none⟩), .int .i64 0]) ∧ w.heap.size ≤ g ∧
      Blk w' g 51 (stCells h' buf' f' d' 0) ∧ WInv (hStart n) (keyBlock ks) h' buf' f' d' ∧ w.grownBy w' none := by
  have z1 : ¬ ((n : Nat) : Int) < 1 := by omega
  have z2 : ¬ (32 : Int) < n := by omega
  have U := Tryd.underlying22
  have I : (Tryd.prog.info? 5).map (·.size) = some 1 := by kernel_rfl
  have hkl := hr.1
  obtain ⟨ad, rfl, hadb, hadc⟩ := hr.2.2 (by omega)
  have HC := Lib.hid hadc
  clear hadc
  go_enter Tryd.func20, Tryd.ntmps20
  go_wp2_with fail
  refine (start_any n _ (by omega) (by omega) hT).mono ?_
  rintro e w1 ⟨g, rfl, hg, hb1, hgw1⟩
  have hT1 := hT.grown hgw1 (by simp)
  go_upto_region 5 with fail
  have K1 := Lib.hid (show (ks.map (Value.int .u8)).length = Nat.min n 64 by rw [List.length_map, hkl]; exact (Nat.min_eq_left (by omega)).symm)
  have K2 := Lib.hid (show ∀ j v, (ks.map (Value.int .u8))[j]? = some v → (w1.alloc (.cells (wordsK .u8 64 (fun _ => 0)) 48)).cell? (ad.add j) = some v by
    intro j v hv
    have h1 := hgw1.cell (HC.out j v hv) (by simp)
    rw [World.cell?_alloc_lt _ _ _ (by rw [add_block]; exact Nat.lt_of_lt_of_le hadb hgw1.size)]
    exact h1)
  have K3 := Lib.hid (show 0 + (ks.map (Value.int .u8)).length ≤ (wordsK .u8 64 (fun _ => 0)).size by rw [wordsK_size, List.length_map]; omega)
  have K4 := Lib.hid (show ∀ v ∈ ks.map (Value.int .u8), v.oneCell' = true from ints_oneCell _ _)
  have KE := Lib.hid (key_cells (ks := ks) (by omega))
  have HK := Lib.hid hkl
  have hgo : g ≠ w1.heap.size := Nat.ne_of_lt hb1.lt
  clear hkl
  go_cut [] from 17 to 26 (fun wx => Blk wx w1.heap.size 48 (wordsK .u8 64 (fun j => (keyBlock ks).getD j 0)) ∧ w1.grownBy wx none)
  case first =>
    go_wp2_with (refine wpList_copy_own rfl _ _ _ _ rfl 5 U I w1.heap.size 0 64 64 ad n c rfl rfl (wordsK .u8 64 (fun _ => 0)) 48 (Blk.new w1 _ _) (ks.map (Value.int .u8)) K1.out K2.out K3.out K4.out ?_)
    go_meet
    refine ⟨?_, ?_⟩
    · have KE0 := KE.out
      first
        | rw [KE0]
        | (simp only [List.take_zero, List.nil_append, List.length_map, Nat.zero_add] at KE0; rw [KE0])
      exact setRow_heap (w1.alloc (.cells (wordsK .u8 64 (fun _ => 0)) 48)) _ _ _ _ _ (Blk.new w1 48 (wordsK .u8 64 (fun _ => 0)))
    · exact gb_new (gb_alloc (gb_refl _ _) _) (gb_setRow (gb_refl _ _) _) (Nat.le_refl _)
  case rest =>
    obtain ⟨hk2, hg2⟩ := hcut
    obtain ⟨w2, rfl⟩ : ∃ w2, w2 = wc := ⟨_, rfl⟩
    have hT2 := hT1.grown hg2 (by simp)
    have hb2 := hb1.grown hg2 (by simp)
    have h3g : 3 ≤ g := Nat.le_trans hT.2.2.2 hg
    have hkb : (keyBlock ks).length = 64 := keyBlock_length (by rw [HK.out]; omega)
    have HR := Lib.hid (rdb_block hk2 hkb (g := g) (Ne.symm hgo))
    clear hkb
    go_wp2_with fail
    refine (write_any g (hStart n) [] (keyBlock ks) (hStart n) (fun _ => 0) 0 0 0 _ 64 64 _ hb2 (WInv.start _ _) HR.out h3g hT2 (by decide) (by decide) (by decide)).mono ?_
    rintro e w3 ⟨rfl, h', buf', f', d', hb3, hI3, hg3⟩
    rw [List.nil_append] at hI3
    have HI3 := Bx.mk hI3
    have c74 : w3.cell? ⟨g, 74, none⟩ = some (.int .i64 64) := by rw [hb3.cell]; exact st_length _ _ _ _ _
    have f74 := hb3.frozen 74
    clear hI3
    have P1 := hb3.put 74 (.int .i64 0)
    rw [st_put_length] at P1
    have H1 := Lib.hid P1
    clear P1
    go_wp2_with fail
    go_ret2
    refine ⟨g, h', buf', f', d', rfl, hg, H1.out, HI3.out, gb_new (gb_trans hgw1 hg2) (gb_put hg3 74 _) hg⟩

/-- The input of the digest with a key. -/
def keyedS (ks xs : List Int) : ByteArray := digestS (hStart ks.length) (keyBlock ks ++ xs)
theorem keyed_no (A A2 : Option Addr) (n c n2 c2 : Nat) (w : World) (hn : n < 1 ∨ 32 < n) :
    Calls Tryd.prog 18 #[.slice A n c, .slice A2 n2 c2] w fun e w' => e = .returned (.tuple #[.string ⟨#[]⟩, .int .i64 5]) ∧ w = w' := by
  go_enter Tryd.func18, Tryd.ntmps18
  go_wp2_with fail
  refine (newKeyed_no A n c _ hn).mono ?_
  rintro e w1 ⟨rfl, rfl⟩
  go_wp2_with fail
  go_ret2
  exact ⟨rfl, rfl⟩
set_option maxHeartbeats 400000 in
theorem keyed_yes (A A2 : Option Addr) (n c n2 c2 : Nat) (ks xs : List Int) (w : World) (hr : RdS w A n c ks) (hr2 : RdS w A2 n2 c2 xs) (hT : Tabs w) (h1 : 1 ≤ n) (h2 : n ≤ 32) (h3 : n2 < 900000000) :
    Calls Tryd.prog 18 #[.slice A n c, .slice A2 n2 c2] w fun e w' => e = .returned (.tuple #[.string (keyedS ks xs), .int .i64 0]) ∧ w.grownBy w' none := by
  have HN := Bx.mk h3
  have hl := hr2.1
  have hkb : (keyBlock ks).length = 64 := keyBlock_length (by rw [hr.1]; omega)
  have hE : keyedS ks xs = digestS (hStart n) (keyBlock ks ++ xs) := by rw [keyedS, hr.1]
  have HE := Bx.mk hE
  clear h3 hE
  go_enter Tryd.func18, Tryd.ntmps18
  go_wp2_with fail
  refine (newKeyed_yes A n c ks _ hr hT h1 h2).mono ?_
  rintro e w1 ⟨g, h', buf', f', d', rfl, hg, hb1, hI1, hgw1⟩
  have hT1 := hT.grown hgw1 (by simp)
  have h3g : 3 ≤ g := Nat.le_trans hT.2.2.2 hg
  have HI1 := Bx.mk hI1
  clear hI1
  go_wp2_with fail
  refine (write_any g (hStart n) (keyBlock ks) xs h' buf' f' d' 0 A2 n2 c2 _ hb1 HI1.out (hr2.apart hgw1 hg) h3g hT1 (by decide) (by have := HN.out; omega) (by have := HN.out; rw [hkb]; omega)).mono ?_
  rintro e w2 ⟨rfl, h2', buf2', f2', d2', hb2, hI2, hg2⟩
  have hT2 := hT1.grown hg2 (fun k e => by injection e with e; omega)
  have HI2 := Bx.mk hI2
  clear hI2
  go_wp2_with fail
  refine (sum_any g (hStart n) (keyBlock ks ++ xs) h2' buf2' f2' d2' _ _ hb2 HI2.out hT2 (by have := HN.out; rw [List.length_append, hkb]; omega)).mono ?_
  rintro e w3 ⟨rfl, hg3⟩
  go_wp2_with fail
  go_ret2
  exact ⟨by rw [HE.out]; rfl, gb_trans (gb_new hgw1 hg2 hg) hg3⟩
end Go.Proofs.YtmedobeogdnkfaaDoor
