/- The walk over (*blake.State).hash. -/
import Derived.Test.YtmedobeogdnkfaaDoorBst
import Derived.WalkSpells
import Derived.WalkLawsBesides
import Derived.Deep.QuietTactic
import Derived.BigQuiet
import Derived.BigRegion
import Derived.Deep.RegionHeld3
import Derived.Deep.MidRow
import Derived.Lib.Hide
import Derived.Deep.Cut
import Derived.Deep.CutRange
import Derived.IntWalk
namespace Go.Proofs.YtmedobeogdnkfaaDoor
open Go.RowKit

/-- What the program's three tables hold. -/
def Tabs (w : World) : Prop := (∀ j, j < 8 → w.cell? ⟨0, j, none⟩ = some (.int .u32 (ivF j))) ∧ w.rangeAt 1 0 sigCells ∧ w.rangeAt 2 0 lanCells ∧ 3 ≤ w.heap.size
theorem Tabs.keep {w w' : World} (h : Tabs w) (hs : 3 ≤ w'.heap.size) (hk : ∀ k, k < 3 → w'.heap[k]? = w.heap[k]?) : Tabs w' := by
  obtain ⟨h1, h2, h3, _⟩ := h
  refine ⟨fun j hj => ?_, fun j v hv => ?_, fun j v hv => ?_, hs⟩
  · exact (World.cell?_of_block (hk _ (by simp))).trans (h1 j hj)
  · exact (World.cell?_of_block (hk _ (by simp))).trans (h2 j v hv)
  · exact (World.cell?_of_block (hk _ (by simp))).trans (h3 j v hv)
theorem Tabs.grown {w w' : World} {row : Option Nat} (h : Tabs w) (hg : w.grownBy w' row) (hr : ∀ k, row = some k → 3 ≤ k) : Tabs w' :=
  h.keep (Nat.le_trans h.2.2.2 hg.size) fun k hk => hg.block k (Nat.lt_of_lt_of_le hk h.2.2.2) (fun e => by have := hr k e.symm; omega)

/-- A row of a table that is an array of arrays. -/
theorem index_sig {r : Nat} (hr : r < 10) (W : World) : (Instr.index 62 (.agg sigCells.toArray) (.int .i64 r)).run Tryd.prog W = .ok (.agg (sigRow r).toArray) W := by
  have hs : (sizeOf 61).run Tryd.prog W = .ok 16 W := by kernel_rfl
  simp [Instr.index, asIntOf, run_underlying Tryd.underlying62, hs, part, sig_cut hr, hr]
theorem index_lan {i : Nat} (hr : i < 8) (W : World) : (Instr.index 64 (.agg lanCells.toArray) (.int .i64 i)).run Tryd.prog W = .ok (.agg #[.int .u8 (lan i 0), .int .u8 (lan i 1), .int .u8 (lan i 2), .int .u8 (lan i 3)]) W := by
  have hs : (sizeOf 63).run Tryd.prog W = .ok 4 W := by kernel_rfl
  simp [Instr.index, asIntOf, run_underlying Tryd.underlying64, hs, part, lan_cut hr, hr]

set_option maxRecDepth 1000000 in
set_option maxHeartbeats 8000000 in
theorem hash_any (g : Nat) (h buf : Nat → Int) (filled done length count : Int) (last : Bool) (w : World) (hc0 : 0 ≤ count) (hd0 : 0 ≤ done) (hdc : done + count < 9223372036854775807)
    (hb : Blk w g 51 (stCells h buf filled done length)) (hg3 : 3 ≤ g) (hT : Tabs w) :
    Calls Tryd.prog 26 #[.pointer (some ⟨g, 0, none⟩), .pointer (some ⟨g, 8, none⟩), .int .i64 count, .bool last] w fun e w' =>
      e = .returned (.tuple #[]) ∧ Blk w' g 51 (stCells (compressF h buf (done + count) last) buf filled (done + count) length) ∧ w.grownBy w' (some g) := by
  have c73 : w.cell? ⟨g, 73, none⟩ = some (.int .u64 done) := by rw [hb.cell, st_done]
  have f73 := hb.frozen 73
  go_enter Tryd.func26, Tryd.ntmps26
  go_wp2_with fail
  have hsz := hb.lt
  go_loopw [27] (fun c wr => ∃ i : Nat, i ≤ 16 ∧ c = .int .i64 i ∧ Blk wr w.heap.size 60 (wordsK .u32 16 (wordsUpTo buf i 0)) ∧ Blk wr g 51 (stCells h buf filled (done + count) length) ∧ w.grownBy wr (some g))
    (fun c _ => 16 - (intOf c).toNat)
  case atStart =>
    refine ⟨0, by omega, rfl, ?_, ?_, ?_⟩
    · have h1 := Blk.new (w.setCell ⟨g, 73, none⟩ (.int .u64 (done + count))) 60 (wordsK .u32 16 (wordsUpTo buf 0 0))
      rw [show (w.setCell ⟨g, 73, none⟩ (.int .u64 (done + count))).heap.size = w.heap.size from by simp [World.setCell]] at h1
      exact h1
    · have h1 := (hb.put 73 (.int .u64 (done + count))).alloc (.cells (wordsK .u32 16 (wordsUpTo buf 0 0)) 60)
      rw [st_put_done] at h1
      exact h1
    · exact gb_alloc (gb_put (gb_refl _ _) _ _) _
  case round =>
    obtain ⟨i, hi, rfl, hm, hs, hg⟩ := hrel
    by_cases hlt : i < 16
    · have hi1 : (i : Int) < 16 := by omega
      go_wp2_with fail
      obtain ⟨wo, rfl⟩ : ∃ wo : World, wo = wr := ⟨_, rfl⟩
      go_loopw [30] (fun c wr => ∃ k : Nat, k ≤ 4 ∧ c = .int .i64 k ∧ Blk wr w.heap.size 60 (wordsK .u32 16 (wordsUpTo buf i k)) ∧ Blk wr g 51 (stCells h buf filled (done + count) length) ∧ w.grownBy wr (some g))
        (fun c _ => 4 - (intOf c).toNat)
      case atStart => exact ⟨0, by omega, rfl, hm, hs, hg⟩
      case round =>
        obtain ⟨k, hk, rfl, hm, hs, hg⟩ := hrel
        by_cases hklt : k < 4
        · have cm : wr.cell? ⟨w.heap.size, i, none⟩ = some (.int .u32 (wpart buf i k)) := by rw [hm.cell, wordsK_get _ _ _ hlt, wordsUpTo_at]
          have fm := hm.frozen i
          have cb : wr.cell? ⟨g, 8 + (4 * i + k), none⟩ = some (.int .u8 (buf (4 * i + k))) := by rw [hs.cell, st_buf _ _ _ _ _ (by omega)]
          have P : ∀ V : Int, V = bits BinOp.or IntKind.u32 (wpart buf i k) (buf (4 * i + k) * 2 ^ (8 * k) % 4294967296) →
              Blk (wr.setCell ⟨w.heap.size, i, none⟩ (.int .u32 V)).drew w.heap.size 60 (wordsK .u32 16 (wordsUpTo buf i (k + 1))) ∧ Blk (wr.setCell ⟨w.heap.size, i, none⟩ (.int .u32 V)).drew g 51 (stCells h buf filled (done + count) length) ∧ w.grownBy (wr.setCell ⟨w.heap.size, i, none⟩ (.int .u32 V)).drew (some g) := by
            rintro V rfl
            refine ⟨?_, hs.far (p := ⟨w.heap.size, i, none⟩) (by simp; omega) _, gb_drew (gb_put_new hg (p := ⟨w.heap.size, i, none⟩) (by simp) _)⟩
            have P1 := hm.put i (.int .u32 (bits BinOp.or IntKind.u32 (wpart buf i k) (buf (4 * i + k) * 2 ^ (8 * k) % 4294967296)))
            rw [wordsK_put _ _ _ hlt, wordsUpTo_step] at P1
            exact P1
          have H := Lib.hid P
          clear P hm hs hg
          rcases (show k = 0 ∨ k = 1 ∨ k = 2 ∨ k = 3 from by omega) with rfl | rfl | rfl | rfl
          all_goals
            try simp only [Nat.add_zero] at cb
            go_wp2_with fail
            go_region
            go_wp2_with fail
            go_roundw
            case rel =>
              clear c73 f73 cm fm cb
              first
                | (refine ⟨1, by decide, rfl, H.out _ ?_⟩; first | (simp; done) | (simp; congr 1; omega))
                | (refine ⟨2, by decide, rfl, H.out _ ?_⟩; first | (simp; done) | (simp; congr 1; omega))
                | (refine ⟨3, by decide, rfl, H.out _ ?_⟩; first | (simp; done) | (simp; congr 1; omega))
                | (refine ⟨4, by decide, rfl, H.out _ ?_⟩; first | (simp; done) | (simp; congr 1; omega))
                | go_goals
            case measure => simp [intOf]
        · have hk1 : ¬ (k : Int) < 4 := by omega
          obtain rfl : k = 4 := by omega
          go_wp2_with fail
          go_roundw
          case rel => exact ⟨i + 1, by omega, by go_num, by rw [← wordsUpTo_next]; exact hm, hs, hg⟩
          case measure => simp [intOf]; omega
    · have hi1 : ¬ (i : Int) < 16 := by omega
      obtain rfl : i = 16 := by omega
      rw [wordsK_congr .u32 fun j hj => wordsUpTo_all buf hj] at hm
      have hT1 := hT.grown hg (fun k e => by injection e with e; omega)
      clear hT c73 f73
      go_wp2_with fail
      obtain ⟨wo, rfl⟩ : ∃ wo : World, wo = wr := ⟨_, rfl⟩
      have hms := hm.lt
      go_loopw [52] (fun c wr => ∃ i : Nat, i ≤ 8 ∧ c = .int .i64 i ∧ Blk wr wo.heap.size 60 (wordsK .u32 16 (vUpTo h i)) ∧ wo.grownBy wr none)
        (fun c _ => 8 - (intOf c).toNat)
      case atStart => exact ⟨0, by omega, rfl, Blk.new wo 60 (wordsK .u32 16 (vUpTo h 0)), gb_alloc (gb_refl _ _) _⟩
      case round =>
        obtain ⟨i, hi, rfl, hv, hgw⟩ := hrel
        by_cases hlt : i < 8
        · have hi2 : (i : Int) < 8 := by omega
          have ch : wr.cell? ⟨g, i, none⟩ = some (.int .u32 (h i)) := by rw [(hs.grown hgw (by simp)).cell, st_h _ _ _ _ _ hlt]
          have ci : wr.cell? ⟨0, i, none⟩ = some (.int .u32 (ivF i)) := (hT1.grown hgw (by simp)).1 i hlt
          have cv : wr.cell? ⟨wo.heap.size, i, none⟩ = some (.int .u32 (vUpTo h i i)) := by rw [hv.cell, wordsK_get _ _ _ (by omega)]
          have cv8 : wr.cell? ⟨wo.heap.size, i + 8, none⟩ = some (.int .u32 (vUpTo h i (i + 8))) := by rw [hv.cell, wordsK_get _ _ _ (by omega)]
          have fv := hv.frozen i
          have fv8 := hv.frozen (i + 8)
          have hgs : g < wo.heap.size := hs.lt
          go_wp2_with fail
          go_region
          go_wp2_with fail
          go_roundw
          case rel =>
            have P1 := (hv.put i (.int .u32 (h i))).put (i + 8) (.int .u32 (ivF i))
            rw [wordsK_put _ _ _ (by omega), wordsK_put _ _ _ (by omega), vUpTo_step h hlt] at P1
            exact ⟨i + 1, by omega, by go_num, P1, gb_drew (gb_put_new (gb_put_new hgw (p := ⟨wo.heap.size, i, none⟩) (by simp) _) (p := ⟨wo.heap.size, i + 8, none⟩) (by simp) _)⟩
          case measure => simp [intOf]; omega
        · have hi2 : ¬ (i : Int) < 8 := by omega
          obtain rfl : i = 8 := by omega
          rw [wordsK_congr .u32 fun j hj => vUpTo_all h hj] at hv
          have hmv := hm.grown hgw (by simp)
          have hsv := hs.grown hgw (by simp)
          have hTv := hT1.grown hgw (by simp)
          have cd : wr.cell? ⟨g, 73, none⟩ = some (.int .u64 (done + count)) := by rw [hsv.cell, st_done]
          have c12 : wr.cell? ⟨wo.heap.size, 12, none⟩ = some (.int .u32 (vInit h 12)) := by rw [hv.cell, wordsK_get _ _ _ (by omega)]
          have c13 : wr.cell? ⟨wo.heap.size, 13, none⟩ = some (.int .u32 (vInit h 13)) := by rw [hv.cell, wordsK_get _ _ _ (by omega)]
          have c14 : wr.cell? ⟨wo.heap.size, 14, none⟩ = some (.int .u32 (vInit h 14)) := by rw [hv.cell, wordsK_get _ _ _ (by omega)]
          have f12 := hv.frozen 12
          have f13 := hv.frozen 13
          have f14 := hv.frozen 14
          have hne : g < wo.heap.size := hs.lt
          go_wp2_with fail
          go_cut [] from 27 (fun wx => Blk wx wo.heap.size 60 (wordsK .u32 16 (upd (vInit h) 12 (bits BinOp.xor IntKind.u32 (vInit h 12) ((done + count) % 4294967296)))) ∧ wo.grownBy wx none)
          case first =>
            have P1 := hv.put 12 (.int .u32 (bits BinOp.xor IntKind.u32 (vInit h 12) ((done + count) % 4294967296)))
            rw [wordsK_put _ _ _ (by omega)] at P1
            have H := Lib.hid P1
            clear P1
            go_region
            go_wp2_with fail
            go_meet
            exact ⟨H.out, gb_drew (gb_put_new hgw (p := ⟨wo.heap.size, 12, none⟩) (by simp) _)⟩
          case rest =>
            obtain ⟨hv1, hgw1⟩ := hcut
            clear hv hgw hmv hsv hTv cd c12 c13 c14 f12 f13 f14
            have hs1 := hs.grown hgw1 (by simp)
            have cd : wc.cell? ⟨g, 73, none⟩ = some (.int .u64 (done + count)) := by rw [hs1.cell, st_done]
            have c13 : wc.cell? ⟨wo.heap.size, 13, none⟩ = some (.int .u32 (vInit h 13)) := by rw [hv1.cell, wordsK_get _ _ _ (by omega), upd_other _ _ (by omega)]
            have f13 := hv1.frozen 13
            go_wp2_with fail
            go_cut [] from 27 (fun wx => Blk wx wo.heap.size 60 (wordsK .u32 16 (vCount h (done + count))) ∧ wo.grownBy wx none)
            case first =>
              have P1 := hv1.put 13 (.int .u32 (bits BinOp.xor IntKind.u32 (vInit h 13) ((done + count) / 4294967296)))
              rw [wordsK_put _ _ _ (by omega)] at P1
              have H := Lib.hid P1
              clear P1
              go_region
              go_wp2_with fail
              go_meet
              exact ⟨H.out, gb_drew (gb_put_new hgw1 (p := ⟨wo.heap.size, 13, none⟩) (by simp) _)⟩
            case rest =>
              obtain ⟨hv2, hgw2⟩ := hcut
              clear hv1 hgw1 hs1 cd c13 f13
              obtain ⟨w2, rfl⟩ : ∃ w2, w2 = wc := ⟨_, rfl⟩
              have c14 : w2.cell? ⟨wo.heap.size, 14, none⟩ = some (.int .u32 (vInit h 14)) := by rw [hv2.cell, wordsK_get _ _ _ (by omega), vCount_14]
              have f14 := hv2.frozen 14
              go_upto_if 89 with fail
              go_cut [] from 27 (fun wx => Blk wx wo.heap.size 60 (wordsK .u32 16 (vStart h (done + count) last)) ∧ wo.grownBy wx none)
              case first =>
                cases last
                · go_wp2_with fail
                  go_meet
                  exact ⟨hv2, hgw2⟩
                · have P1 := hv2.put 14 (.int .u32 (bits BinOp.xor IntKind.u32 IntKind.u32.max (vInit h 14)))
                  rw [wordsK_put _ _ _ (by omega)] at P1
                  have H := Lib.hid P1
                  clear P1
                  go_wp2_with fail
                  go_meet
                  exact ⟨H.out, gb_put_new hgw2 (p := ⟨wo.heap.size, 14, none⟩) (by simp) _⟩
              case rest =>
                obtain ⟨hv3, hgw3⟩ := hcut
                clear hv2 hgw2 c14 f14
                obtain ⟨w3, rfl⟩ : ∃ w3, w3 = wc := ⟨_, rfl⟩
                have hT3 := hT1.grown hgw3 (by simp)
                have hm3 := hm.grown hgw3 (by simp)
                have hs3 := hs.grown hgw3 (by simp)
                have U1 := Tryd.underlying62
                have I1 : (Tryd.prog.info? 62).map (·.size) = some sigCells.length := by kernel_rfl
                have U2 := Tryd.underlying64
                have I2 : (Tryd.prog.info? 64).map (·.size) = some lanCells.length := by kernel_rfl
                have I3 : (Tryd.prog.info? 61).map (·.size) = some 16 := by kernel_rfl
                have HU1 := Lib.hid U1; have HU2 := Lib.hid U2; have HI1 := Lib.hid I1; have HI2 := Lib.hid I2; have HI3 := Lib.hid I3
                clear U1 U2 I1 I2 I3
                go_wp2_with (refine wpList_load_mid rfl 62 _ rfl 1 0 rfl sigCells _ hT3.2.1 HU1.out rfl HI1.out ?_)
                have hBv : wo.heap.size < w3.heap.size := hv3.lt
                go_loopw [95] (fun c wr => ∃ r : Nat, r ≤ 10 ∧ c = .int .i64 r ∧ Blk wr wo.heap.size 60 (wordsK .u32 16 (roundsF (wordsOf buf) (vStart h (done + count) last) r)) ∧ w3.grownBy wr (some wo.heap.size))
                  (fun c _ => 10 - (intOf c).toNat)
                case atStart => exact ⟨0, by omega, rfl, hv3, gb_refl _ _⟩
                case round =>
                  obtain ⟨r, hr, rfl, hv4, hg4⟩ := hrel
                  obtain ⟨w4, rfl⟩ : ∃ w4, w4 = wr := ⟨_, rfl⟩
                  by_cases hlt : r < 10
                  · have hi3 : (r : Int) < 10 := by omega
                    have hT4 := hT3.grown hg4 (fun k e => by injection e with e; have := hT1.2.2.2; omega)
                    have hm4 := hm3.grown hg4 (by intro e; injection e with e; omega)
                    have hidx : ∀ W, (Instr.index 62 (.agg sigCells.toArray) (.int .i64 r)).run Tryd.prog W = .ok (.agg (sigRow r).toArray) W := index_sig hlt
                    go_upto_region 23 with fail
                    go_cut [14, 95] from 96 to 119 (fun a14 a95 wx => ∃ o : Nat, a14 = .pointer (some ⟨o, 0, none⟩) ∧ a95 = .int .i64 r ∧ w3.heap.size ≤ o ∧ o < wx.heap.size ∧ wx.rangeAt o 0 (sigRow r) ∧ Blk wx wo.heap.size 60 (wordsK .u32 16 (roundsF (wordsOf buf) (vStart h (done + count) last) r)) ∧ w3.grownBy wx (some wo.heap.size))
                    case first =>
                      go_wp2_with (refine wpList_store_mid rfl 61 _ _ rfl w4.heap.size 0 (sigRow r).toArray rfl rfl (there_blk (Blk.new w4 _ _) (by simp [sigRow])) HI3.out (sigRow_one r) ?_)
                      go_meet
                      have hsz4 := hg4.size
                      exact ⟨w4.heap.size, rfl, rfl, hsz4, by rw [size_setCells]; simp, World.rangeAt_setCells_same _ _ _ _ (there_blk (Blk.new w4 _ _) (by simp [sigRow])), (hv4.alloc _).farCells (by omega) _ _, gb_setCells_new (gb_alloc hg4 _) hsz4 _ _⟩
                    case rest =>
                      obtain ⟨o, rfl, rfl, ho1, ho2, hord, hv5, hg5⟩ := hcut
                      clear hidx hv4 hg4 hT4 hm4
                      obtain ⟨w5, rfl⟩ : ∃ w5, w5 = wc := ⟨_, rfl⟩
                      have hT5 := hT3.grown hg5 (fun k e => by injection e with e; have := hT1.2.2.2; omega)
                      have hm5 := hm3.grown hg5 (by intro e; injection e with e; omega)
                      go_wp2_with (refine wpList_load_mid rfl 64 _ rfl 2 0 rfl lanCells _ hT5.2.2.1 HU2.out rfl HI2.out ?_)
                      go_loopw [99] (fun c wr => ∃ k : Nat, k ≤ 8 ∧ c = .int .i64 k ∧ Blk wr wo.heap.size 60 (wordsK .u32 16 (mixesF (wordsOf buf) r (roundsF (wordsOf buf) (vStart h (done + count) last) r) k)) ∧ w5.grownBy wr (some wo.heap.size))
                        (fun c _ => 8 - (intOf c).toNat)
                      case atStart => exact ⟨0, by omega, rfl, hv5, gb_refl _ _⟩
                      case round =>
                        obtain ⟨k, hk, rfl, hv6, hg6⟩ := hrel
                        by_cases hklt : k < 8
                        · have hk3 : (k : Int) < 8 := by omega
                          obtain ⟨l0, l1, l2, l3, l01, l02, l03, l12, l13, l23⟩ := lan_ok hklt
                          have hidx : ∀ W, (Instr.index 64 (.agg lanCells.toArray) (.int .i64 k)).run Tryd.prog W = .ok (.agg #[.int .u8 (lan k 0), .int .u8 (lan k 1), .int .u8 (lan k 2), .int .u8 (lan k 3)]) W := index_lan hklt
                          have s0 := sig_lt hlt (show 2 * k < 16 by omega)
                          have s1 := sig_lt hlt (show 2 * k + 1 < 16 by omega)
                          have hm6 := hm5.grown hg6 (by intro e; injection e with e; omega)
                          have co0 : wr.cell? ⟨o, 2 * k, none⟩ = some (.int .u8 (sig r (2 * k))) := by
                            have := hord (2 * k) _ (sigRow_at r (by omega))
                            rw [Nat.zero_add] at this
                            exact hg6.cell this (by intro e; injection e with e; simp at e; omega)
                          have co1 : wr.cell? ⟨o, 2 * k + 1, none⟩ = some (.int .u8 (sig r (2 * k + 1))) := by
                            have := hord (2 * k + 1) _ (sigRow_at r (by omega))
                            rw [Nat.zero_add] at this
                            exact hg6.cell this (by intro e; injection e with e; simp at e; omega)
                          have cm0 : wr.cell? ⟨w.heap.size, sig r (2 * k), none⟩ = some (.int .u32 (wordsOf buf (sig r (2 * k)))) := by rw [hm6.cell, wordsK_get _ _ _ s0]
                          have cm1 : wr.cell? ⟨w.heap.size, sig r (2 * k + 1), none⟩ = some (.int .u32 (wordsOf buf (sig r (2 * k + 1)))) := by rw [hm6.cell, wordsK_get _ _ _ s1]
                          have t0 : (sig r (2 * k) : Int) < 16 := by omega
                          have t1 : (sig r (2 * k + 1) : Int) < 16 := by omega
                          have oz : o < wr.heap.size := Nat.lt_of_lt_of_le ho2 hg6.size
                          have bz : w.heap.size < wr.heap.size := hm6.lt
                          go_upto_region 27 with fail
                          have q1 : IntKind.i64.wrap (2 * (k : Int)) = 2 * (k : Int) := IntWalk.i64_in _ (by omega)
                          have q2 : IntKind.i64.wrap (2 * (k : Int) + 1) = 2 * (k : Int) + 1 := IntWalk.i64_in _ (by omega)
                          have q3 : (2 * (k : Int)).toNat = 2 * k := by omega
                          have q4 : (2 * (k : Int) + 1).toNat = 2 * k + 1 := by omega
                          have q5 : 2 * (k : Int) < 16 := by omega
                          have q6 : 2 * (k : Int) + 1 < 16 := by omega
                          have q7 : 0 ≤ 2 * (k : Int) := by omega
                          have q8 : 0 ≤ 2 * (k : Int) + 1 := by omega
                          go_region_with (go_at_call 31; refine (mix_blk wo.heap.size (lan k 0) (lan k 1) (lan k 2) (lan k 3) _ _ _ _ l0 l1 l2 l3 l01 l02 l03 l12 l13 l23 (hv6.alloc _).drew).mono ?_; rintro e w' ⟨rfl, hbm, hgm⟩)
                          all_goals
                            go_wp2_with fail
                            go_roundw
                            case rel => exact ⟨k + 1, by omega, by go_num, hbm, gb_trans hg6 (gb_trans (gb_drew (gb_alloc (gb_refl _ _) _)) hgm)⟩
                            case measure => simp [intOf]; omega
                        · have hk3 : ¬ (k : Int) < 8 := by omega
                          obtain rfl : k = 8 := by omega
                          go_wp2_with fail
                          go_roundw
                          case rel => exact ⟨r + 1, by omega, by go_num, hv6, gb_trans hg5 hg6⟩
                          case measure => simp [intOf]; omega
                  · have hi3 : ¬ (r : Int) < 10 := by omega
                    obtain rfl : r = 10 := by omega
                    have hs4 := hs3.grown hg4 (by intro e; injection e with e; omega)
                    have hgw4 : w.grownBy w4 (some g) := gb_new (gb_trans hg (gb_some hgw3 _)) hg4 (by have := hg.size; omega)
                    clear hs3 hm3 hT3 hT1 hs hgw3 hg4 hm hg
                    go_wp2_with fail
                    generalize hV : roundsF (wordsOf buf) (vStart h (done + count) last) 10 = V at *
                    have HV := Lib.hid hV
                    clear hV
                    go_loopw [120] (fun c wr => ∃ i : Nat, i ≤ 8 ∧ c = .int .i64 i ∧ Blk wr g 51 (stCells (hUpTo h V i) buf filled (done + count) length) ∧ w4.grownBy wr (some g))
                      (fun c _ => 8 - (intOf c).toNat)
                    case atStart => exact ⟨0, by omega, rfl, by rw [hUpTo_zero]; exact hs4, gb_refl _ _⟩
                    case round =>
                      obtain ⟨i, hi, rfl, hs5, hg5⟩ := hrel
                      by_cases hilt : i < 8
                      · have hi5 : (i : Int) < 8 := by omega
                        have hv5 := hv4.grown hg5 (by intro e; injection e with e; omega)
                        have ch : wr.cell? ⟨g, i, none⟩ = some (.int .u32 (h i)) := by rw [hs5.cell, st_h _ _ _ _ _ hilt, hUpTo_at]
                        have fh := hs5.frozen i
                        have cv : wr.cell? ⟨wo.heap.size, i, none⟩ = some (.int .u32 (V i)) := by rw [hv5.cell, wordsK_get _ _ _ (by omega)]
                        have cv8 : wr.cell? ⟨wo.heap.size, i + 8, none⟩ = some (.int .u32 (V (i + 8))) := by rw [hv5.cell, wordsK_get _ _ _ (by omega)]
                        have P1 := hs5.put i (.int .u32 (bits BinOp.xor IntKind.u32 (h i) (bits BinOp.xor IntKind.u32 (V i) (V (i + 8)))))
                        rw [st_put_h _ _ _ _ _ hilt, hUpTo_step] at P1
                        have P2 := gb_put hg5 i (.int .u32 (bits BinOp.xor IntKind.u32 (h i) (bits BinOp.xor IntKind.u32 (V i) (V (i + 8)))))
                        have H1 := Lib.hid P1
                        have H2 := Lib.hid P2
                        clear P1 P2 hv5 hv4 hs5 hg5
                        go_wp2_with fail
                        go_region
                        go_wp2_with fail
                        go_roundw
                        case rel => exact ⟨i + 1, by omega, by go_num, H1.out, gb_drew H2.out⟩
                        case measure => simp [intOf]; omega
                      · have hi5 : ¬ (i : Int) < 8 := by omega
                        obtain rfl : i = 8 := by omega
                        go_wp2_with fail
                        go_end0
                        refine ⟨rfl, ?_, gb_trans hgw4 hg5⟩
                        rw [← HV.out] at hs5
                        exact hs5
end Go.Proofs.YtmedobeogdnkfaaDoor
