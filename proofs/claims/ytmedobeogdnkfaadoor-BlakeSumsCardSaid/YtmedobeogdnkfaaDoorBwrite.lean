/- The walk over (*blake.State).Write. -/
import Derived.Test.YtmedobeogdnkfaaDoorBhash
import Derived.Test.YtmedobeogdnkfaaDoorBpure
import Derived.Deep.RegionLaw
import Derived.Laws.CopyOwn
namespace Go.Proofs.YtmedobeogdnkfaaDoor
open Go.RowKit

/-- A slice of bytes that reads as xs, and shares no memory with block g. -/
def RdB (w : World) (A : Option Addr) (n c : Nat) (xs : List Int) (g : Nat) : Prop :=
  xs.length = n ∧ n ≤ c ∧ (0 < n → ∃ ad, A = some ad ∧ ad.block < w.heap.size ∧ ad.block ≠ g ∧ ∀ j v, (xs.map (Value.int .u8))[j]? = some v → w.cell? (ad.add j) = some v)

theorem add_block (a : Addr) (n : Nat) : (a.add n).block = a.block := by unfold Addr.add; split <;> rfl
theorem add_add' (a : Addr) (i j : Nat) : (a.add i).add j = a.add (i + j) := by
  unfold Addr.add
  by_cases hi : i = 0 <;> by_cases hj : j = 0 <;> simp [hi, hj, Nat.add_assoc]
theorem RdB.grown {w w' : World} {A : Option Addr} {n c : Nat} {xs : List Int} {g : Nat} (h : RdB w A n c xs g) (hg : w.grownBy w' (some g)) : RdB w' A n c xs g := by
  obtain ⟨h1, h2, h3⟩ := h
  refine ⟨h1, h2, fun hn => ?_⟩
  obtain ⟨ad, rfl, hb, hne, hc⟩ := h3 hn
  refine ⟨ad, rfl, Nat.lt_of_lt_of_le hb hg.size, hne, fun j v hv => ?_⟩
  rw [← hc j v hv]
  exact World.cell?_of_block (hg.block _ (by rw [add_block]; exact hb) (by rw [add_block]; intro e; injection e with e; exact hne e))
theorem RdB.cut {w : World} {ad : Addr} {n c : Nat} {xs : List Int} {g m : Nat} (h : RdB w (some ad) n c xs g) (hm : m ≤ n) : RdB w (if c = m then some ad else some (ad.add m)) (n - m) (c - m) (xs.drop m) g := by
  obtain ⟨h1, h2, h3⟩ := h
  refine ⟨by simp [h1], by omega, fun hn => ?_⟩
  obtain ⟨ad', e, hb, hne, hc⟩ := h3 (by omega)
  injection e with e
  subst e
  rw [if_neg (by omega)]
  refine ⟨ad.add m, rfl, by rw [add_block]; exact hb, by rw [add_block]; exact hne, fun j v hv => ?_⟩
  rw [add_add']
  refine hc _ v ?_
  simpa [List.getElem?_map, List.getElem?_drop] using hv

theorem step_copy_row {P : Program} {ops : Array Oper} {o : Oper} {a : Act} {w : World} {K : Act → World → Prop} {Q : Exit → Act → World → Prop} {E : Prop} (hgd : o.guard = none) (d s : Operand) (dT sT : TypeId)
    (ho : o.op = .call { callee := .builtin .copy, args := #[d, s], argTypes := #[dT, sT] }) (elem : TypeId) (hu : P.underlying dT = some (.slice elem)) (hsz : (P.info? elem).map (·.size) = some 1)
    (g off dLen dCap : Nat) (ad : Addr) (sLen sCap : Nat) (hd : a.eval d = .slice (some ⟨g, off, none⟩) dLen dCap) (hs : a.eval s = .slice (some ad) sLen sCap)
    (cur : Array Value) (t : TypeId) (hg : w.heap[g]? = some (.cells cur t (0, 0))) (cs : List Value) (hn : cs.length = Nat.min sLen dLen)
    (hsrc : ∀ j v, cs[j]? = some v → w.cell? (ad.add j) = some v) (hfit : off + cs.length ≤ cur.size) (h1 : ∀ v ∈ cs, v.oneCell' = true)
    (h : K (a.put o.dst (goInt cs.length)) (w.setRow g (cur.toList.take off ++ (cs ++ cur.toList.drop (off + cs.length))).toArray)) :
    if Region.wanted o (yielded ops a.tmps) = true then Oper.wp P o a w K Q else E := by
  have hw : Region.wanted o (yielded ops a.tmps) = true := by simp [Region.wanted, hgd]
  rw [if_pos hw]
  have hrun := run_copy_row (P := P) w dT sT o.type elem g off dLen dCap ad sLen sCap cur t cs hu hsz hg hn hsrc hfit h1
  unfold Oper.wp
  simp [execOp, ho, resolve, invoke, builtin, hd, hs, hrun, Result.andThen]
  exact h

theorem st_splice (h buf : Nat → Int) (filled done length : Int) (f : Nat) (ys : List Int) (hf : f + ys.length ≤ 64) :
    ((stCells h buf filled done length).toList.take (8 + f) ++ (ys.map (Value.int .u8) ++ (stCells h buf filled done length).toList.drop (8 + f + ys.length))).toArray = stCells h (bufPut buf f ys) filled done length := by
  apply Array.ext_getElem?
  intro j
  have hlen : (stCells h buf filled done length).toList.length = 75 := by simp [stCells]
  simp only [List.getElem?_toArray]
  by_cases hj : j < 75
  · rw [st_get _ _ _ _ _ hj]
    by_cases h1 : j < 8 + f
    · rw [List.getElem?_append_left (by rw [List.length_take, hlen]; omega), List.getElem?_take_of_lt h1, Array.getElem?_toList, st_get _ _ _ _ _ hj]
      by_cases h8 : j < 8
      · simp [h8]
      · simp [h8, bufPut, show ¬ f ≤ j - 8 by omega]
    · rw [List.getElem?_append_right (by rw [List.length_take, hlen]; omega), List.length_take, hlen, Nat.min_eq_left (by omega)]
      by_cases h2 : j < 8 + f + ys.length
      · rw [List.getElem?_append_left (by rw [List.length_map]; omega), List.getElem?_map, List.getElem?_eq_getElem (by omega)]
        simp only [Option.map_some, show ¬ j < 8 by omega, show j < 72 by omega, if_false, if_true, bufPut]
        rw [if_pos ⟨by omega, by omega⟩, List.getD_eq_getElem?_getD, show j - 8 - f = j - (8 + f) from by omega, List.getElem?_eq_getElem (by omega)]
        rfl
      · rw [List.getElem?_append_right (by rw [List.length_map]; omega), List.length_map, List.getElem?_drop, Array.getElem?_toList, show 8 + f + ys.length + (j - (8 + f) - ys.length) = j from by omega, st_get _ _ _ _ _ hj]
        simp only [show ¬ j < 8 by omega, if_false, bufPut]
        by_cases h72 : j < 72
        · simp [h72, show ¬ (f ≤ j - 8 ∧ j - 8 < f + ys.length) by omega]
        · simp [h72]
  · rw [st_none _ _ _ _ _ hj, List.getElem?_eq_none]
    simp only [List.length_append, List.length_take, List.length_map, List.length_drop, hlen]
    omega
theorem Blk.splice {w : World} {g : Nat} {h buf : Nat → Int} {filled done length : Int} (hb : Blk w g 51 (stCells h buf filled done length)) (f : Nat) (ys : List Int) (hf : f + ys.length ≤ 64) :
    Blk (w.setRow g ((stCells h buf filled done length).toList.take (8 + f) ++ (ys.map (Value.int .u8) ++ (stCells h buf filled done length).toList.drop (8 + f + (ys.map (Value.int .u8)).length))).toArray) g 51 (stCells h (bufPut buf f ys) filled done length) := by
  have := setRow_heap w g _ ((stCells h buf filled done length).toList.take (8 + f) ++ (ys.map (Value.int .u8) ++ (stCells h buf filled done length).toList.drop (8 + f + (ys.map (Value.int .u8)).length))).toArray _ _ hb
  rw [List.length_map, st_splice _ _ _ _ _ _ _ hf] at this ⊢
  exact this
theorem gb_setRow {w w' : World} {g : Nat} (h : w.grownBy w' (some g)) (cs : Array Value) : w.grownBy (w'.setRow g cs) (some g) :=
  gb_trans h ⟨rfl, rfl, rfl, by simp [World.setRow], fun k _ hk => setRow_other w' g k cs (fun e => hk (by rw [e]))⟩

/-- The cut buffer[f:]. -/
theorem slice_buf (g off f : Nat) (hf : f < 64) (W : World) : (Instr.sliceAt 48 (.pointer (some ⟨g, off, none⟩)) (some (.int .i64 f)) none none).run Tryd.prog W = .ok (.slice (some ⟨g, off + f, none⟩) (64 - f) (64 - f)) W := by
  have hA : Tryd.prog.arrayLen 48 = 64 := by kernel_rfl
  have hs : (sizeOf 5).run Tryd.prog W = .ok 1 W := by kernel_rfl
  have hE : Tryd.prog.elem 48 = 5 := by kernel_rfl
  rw [run_sliceAt_array_l (P := Tryd.prog) W 48 ⟨g, off, none⟩ (by rw [hA, hE]; exact Tryd.underlying48) .i64 f (by omega) (by rw [hA]; omega), hA, hE, hs]
  have : ¬ 64 = f := by omega
  simp [slicedAt, this, Addr.add_mid]

set_option maxRecDepth 1000000 in
set_option maxHeartbeats 4000000 in
theorem write_any (g : Nat) (h0 : Nat → Int) (bytes xs : List Int) (h buf : Nat → Int) (filled : Nat) (done length : Int) (A : Option Addr) (n c : Nat) (w : World)
    (hb : Blk w g 51 (stCells h buf filled done length)) (hI : WInv h0 bytes h buf filled done) (hr : RdB w A n c xs g) (hg3 : 3 ≤ g) (hT : Tabs w) (hl0 : 0 ≤ length) (hln : length + n < 1000000000) (hbn : (bytes.length : Int) + n < 1000000000) :
    Calls Tryd.prog 14 #[.pointer (some ⟨g, 0, none⟩), .slice A n c] w fun e w' =>
      e = .returned (.tuple #[]) ∧ ∃ (h' buf' : Nat → Int) (filled' : Nat) (done' : Int), Blk w' g 51 (stCells h' buf' filled' done' (length + n)) ∧ WInv h0 (bytes ++ xs) h' buf' filled' done' ∧ w.grownBy w' (some g) := by
  have c74 : w.cell? ⟨g, 74, none⟩ = some (.int .i64 length) := by rw [hb.cell, st_length]
  have f74 := hb.frozen 74
  go_enter Tryd.func14, Tryd.ntmps14
  go_wp2_with fail
  have hb1 := hb.put 74 (.int .i64 (length + n))
  rw [st_put_length] at hb1
  have hg1 : w.grownBy (w.setCell ⟨g, 74, none⟩ (.int .i64 (length + n))) (some g) := gb_put (gb_refl _ _) _ _
  clear c74 f74
  go_loopw [1] (fun s wr => ∃ (k : Nat) (A' : Option Addr) (c' : Nat) (h' buf' : Nat → Int) (filled' : Nat) (done' : Int), k ≤ n ∧ s = .slice A' (n - k) c' ∧ RdB wr A' (n - k) c' (xs.drop k) g ∧ Blk wr g 51 (stCells h' buf' filled' done' (length + n)) ∧ WInv h0 (bytes ++ xs.take k) h' buf' filled' done' ∧ w.grownBy wr (some g))
    (fun s _ => match s with | .slice _ m _ => m | _ => 0)
  case atStart => exact ⟨0, A, c, h, buf, filled, done, by omega, rfl, by simpa using hr.grown hg1, hb1, by simpa using hI, hg1⟩
  case round =>
    obtain ⟨k, A', c', h', buf', f', d', hk, rfl, hr', hb', hI', hg'⟩ := hrel
    have hxl : xs.length = n := hr.1
    by_cases hlt : k < n
    · have hpos : 0 < n - k := by omega
      have hposZ : (0 : Int) < ((n - k : Nat) : Int) := by omega
      have hle := hI'.le
      have hlen : (bytes ++ xs.take k).length = bytes.length + k := by simp [hxl]; omega
      rw [hlen] at hle
      have cf : wr.cell? ⟨g, 72, none⟩ = some (.int .i64 f') := by rw [hb'.cell, st_filled]
      have ff := hb'.frozen 72
      have hT' := hT.grown hg' (fun k e => by injection e with e; omega)
      obtain ⟨ad, rfl, hadb, hadg, hadc⟩ := hr'.2.2 hpos
      have HR := Lib.hid hr'
      have HC := Lib.hid hadc
      have HI := Lib.hid hI'
      have Hlen := Lib.hid hlen
      have Hxl := Lib.hid hxl
      have hf64 := hle.1
      have hd0 := hle.2.1
      have HD : Bx (d' ≤ 1000000000) := ⟨by omega⟩
      have HB := Bx.mk hbn
      have HL := Bx.mk hln
      clear hr' hadc hI' hlen hle hxl hbn hln
      go_upto_if 21 with fail
      go_cut [] from 14 to 50 (fun wx => ∃ (h2 : Nat → Int) (f2 : Nat) (d2 : Int), Blk wx g 51 (stCells h2 buf' f2 d2 (length + n)) ∧ PInv h0 (bytes ++ xs.take k) h2 buf' f2 d2 ∧ w.grownBy wx (some g) ∧ wr.grownBy wx (some g))
      case first =>
        by_cases e64 : f' = 64
        · subst e64
          go_wp2_with fail
          refine (hash_any g h' buf' _ d' _ 64 false _ (by decide) hd0 (by have := HD.out; omega) hb' hg3 hT').mono ?_
          rintro e w2 ⟨rfl, hb2, hg2⟩
          have cf2 : w2.cell? ⟨g, 72, none⟩ = some (.int .i64 64) := by rw [hb2.cell]; exact st_filled _ _ _ _ _
          have ff2 := hb2.frozen 72
          go_wp2_with fail
          go_meet
          have P1 := hb2.put 72 (.int .i64 0)
          rw [st_put_filled] at P1
          have g1 := gb_put (gb_trans (gb_refl _ _) hg2) 72 (.int .i64 0)
          exact ⟨_, 0, _, P1, HI.out.full, gb_trans hg' g1, g1⟩
        · have e64' : ((f' : Int) == 64) = false := by rw [beq_eq_false_iff_ne]; omega
          go_wp2_with fail
          go_meet
          exact ⟨h', f', d', hb', HI.out.room e64, hg', gb_refl _ _⟩
      case rest =>
        obtain ⟨h2, f2, d2, hb2, hP, hg2, hgr⟩ := hcut
        obtain ⟨q2, hf2, hq2⟩ := hP
        have hf2Z : (f2 : Int) < 64 := by omega
        have cf2 : wc.cell? ⟨g, 72, none⟩ = some (.int .i64 f2) := by rw [hb2.cell, st_filled]
        have ff2 := hb2.frozen 72
        have U := Tryd.underlying22
        have I := (show (Tryd.prog.info? 5).map (·.size) = some 1 by kernel_rfl)
        have HQ := Lib.hid hq2
        clear hq2
        have hsl := fun W => slice_buf g 8 f2 hf2 W
        obtain ⟨m, hm⟩ : ∃ m, m = Nat.min (n - k) (64 - f2) := ⟨_, rfl⟩
        have hm1 : m ≤ n - k := by rw [hm]; exact Nat.min_le_left _ _
        have hm2 : m ≤ 64 - f2 := by rw [hm]; exact Nat.min_le_right _ _
        have hm3 : 0 < m := by rw [hm]; exact Nat.lt_min.2 ⟨hpos, by omega⟩
        obtain ⟨ys, hys⟩ : ∃ ys, ys = (xs.drop k).take m := ⟨_, rfl⟩
        have hyl : ys.length = m := by rw [hys]; simp [Hxl.out]; omega
        have K1 := Lib.hid (show (ys.map (Value.int .u8)).length = Nat.min (n - k) (64 - f2) by rw [List.length_map, hyl, hm])
        have K2 := Lib.hid (show ∀ j v, (ys.map (Value.int .u8))[j]? = some v → wc.drew.cell? (ad.add j) = some v by
          intro j v hv
          have hv' : ((xs.drop k).map (Value.int .u8))[j]? = some v := by
            rw [hys, List.map_take] at hv
            rw [List.getElem?_take] at hv
            split at hv
            · exact hv
            · cases hv
          have h1 := HC.out j v hv'
          have h2 := hgr.cell h1 (by rw [add_block]; intro e; injection e with e; exact hadg e)
          exact h2)
        have K3 := Lib.hid (show 8 + f2 + (ys.map (Value.int .u8)).length ≤ (stCells h2 buf' f2 d2 (length + n)).size by rw [st_size, List.length_map, hyl]; omega)
        have K4 := Lib.hid (show ∀ v ∈ ys.map (Value.int .u8), v.oneCell' = true from ints_oneCell _ _)
        have Hm := Lib.hid hm
        have Hys := Lib.hid hys
        have Hyl := Lib.hid hyl
        have hyl' := hyl
        clear hm hys hyl
        have K5 := Lib.hid (hb2.drew.splice f2 ys (by rw [hyl']; omega))
        clear hyl'
        go_wp2_with fail
        go_cut [4] from 14 to 50 (fun s4 wx => s4 = .int .i64 m ∧ Blk wx g 51 (stCells h2 (bufPut buf' f2 ys) f2 d2 (length + n)) ∧ wc.grownBy wx (some g))
        case first =>
          go_region_law (refine step_copy_row rfl _ _ _ _ rfl 5 U I g (8 + f2) (64 - f2) (64 - f2) ad (n - k) c' rfl rfl _ _ hb2 (ys.map (Value.int .u8)) K1.out K2.out K3.out K4.out ?_)
          go_wp2_with fail
          go_meet
          have K5' := K5.out
          rw [List.length_map] at K5'
          exact ⟨by rw [← Hyl.out], K5', gb_setRow (gb_drew (gb_refl _ _)) _⟩
        case rest =>
          obtain ⟨rfl, hb3, hg3'⟩ := hcut
          obtain ⟨w3, rfl⟩ : ∃ w3, w3 = wc := ⟨_, rfl⟩
          have cf3 : w3.cell? ⟨g, 72, none⟩ = some (.int .i64 f2) := by rw [hb3.cell, st_filled]
          have ff3 := hb3.frozen 72
          have hmz : (m : Int) ≤ ((n - k : Nat) : Int) := by omega
          have hmc : (f2 : Int) + m ≤ 64 := by omega
          have hm0 : (0 : Int) < m := by omega
          have hkc : n - k ≤ c' := HR.out.2.1
          have P1 := hb3.put 72 (.int .i64 ((f2 : Int) + m))
          rw [st_put_filled] at P1
          have P2 := gb_trans (gb_trans hg2 hg3') (gb_put (gb_refl w3 (some g)) 72 (.int .i64 ((f2 : Int) + m)))
          have P3 := (HR.out.cut hm1).grown (gb_trans (gb_trans hgr hg3') (gb_put (gb_refl w3 (some g)) 72 (.int .i64 ((f2 : Int) + m))))
          have K6 := Lib.hid P1
          have K7 := Lib.hid P2
          have K8 := Lib.hid P3
          clear P1 P2 P3
          go_wp2_with fail
          go_roundw
          case rel =>
            have E1 : n - (k + m) = n - k - m := by omega
            have E2 : xs.drop (k + m) = (xs.drop k).drop m := by rw [List.drop_drop]
            have E3 : bytes ++ xs.take (k + m) = bytes ++ xs.take k ++ ys := by rw [List.take_add, List.append_assoc, Hys.out]
            have hP : PInv h0 (bytes ++ xs.take k) h2 buf' f2 d2 := ⟨q2, hf2, HQ.out⟩
            have hW := hP.put (ys := ys) (by rw [Hyl.out]; exact hm3) (by rw [Hyl.out]; omega)
            rw [Hyl.out] at hW
            refine ⟨k + m, _, _, h2, bufPut buf' f2 ys, f2 + m, d2, by omega, by rw [E1], ?_, ?_, by rw [E3]; exact hW, K7.out⟩
            · rw [E1, E2]; exact K8.out
            · rw [Int.natCast_add]; exact K6.out
          case measure => simp; omega
    · have hz : n - k = 0 := by omega
      obtain rfl : k = n := by omega
      have hkk : ((k - k : Nat) : Int) = 0 := by omega
      go_wp2_with fail
      go_end0
      rw [List.take_of_length_le (by omega)] at hI'
      exact ⟨rfl, h', buf', f', d', hb', hI', hg'⟩
end Go.Proofs.YtmedobeogdnkfaaDoor
