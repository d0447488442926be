/- The walk over the reference's mix. -/
import Derived.Test.YtmedobeogdnkfaaDoorBref1
namespace Go.Proofs.YtmedobeogdnkfaaDoor
open Go.RowKit

set_option maxRecDepth 100000 in
set_option maxHeartbeats 4000000 in
theorem refmix_any (p0 p1 p2 p3 : Nat) (v : Nat → Int) (x y : Int) (w : World) (h0 : p0 < 16) (h1 : p1 < 16) (h2 : p2 < 16) (h3 : p3 < 16)
    (d01 : ¬ p0 = p1) (d02 : ¬ p0 = p2) (d03 : ¬ p0 = p3) (d12 : ¬ p1 = p2) (d13 : ¬ p1 = p3) (d23 : ¬ p2 = p3) :
    Calls Tryd.prog 33 #[.agg (wordsK .u32 16 v), .int .i64 p0, .int .i64 p1, .int .i64 p2, .int .i64 p3, .int .u32 x, .int .u32 y] w fun e w' =>
      e = .returned (.agg (wordsK .u32 16 (mixF v p0 p1 p2 p3 x y))) ∧ w.grownBy w' none := by
  have d01' : p0 ≠ p1 := d01
  have d02' : p0 ≠ p2 := d02
  have d03' : p0 ≠ p3 := d03
  have d12' : p1 ≠ p2 := d12
  have d13' : p1 ≠ p3 := d13
  have d23' : p2 ≠ p3 := d23
  have i0 : (p0 : Int) < 16 := by omega
  have i1 : (p1 : Int) < 16 := by omega
  have i2 : (p2 : Int) < 16 := by omega
  have i3 : (p3 : Int) < 16 := by omega
  go_enter Tryd.func33, Tryd.ntmps33
  go_wp2_with fail
  obtain ⟨f0, hf0⟩ : ∃ f, f = v := ⟨_, rfl⟩
  obtain ⟨va, hva⟩ : ∃ z, z = v p0 := ⟨_, rfl⟩
  obtain ⟨vb, hvb⟩ : ∃ z, z = v p1 := ⟨_, rfl⟩
  obtain ⟨vc, hvc⟩ : ∃ z, z = v p2 := ⟨_, rfl⟩
  obtain ⟨vd, hvd⟩ : ∃ z, z = v p3 := ⟨_, rfl⟩
  have HV := Bx.mk (show va = v p0 ∧ vb = v p1 ∧ vc = v p2 ∧ vd = v p3 from ⟨hva, hvb, hvc, hvd⟩)
  have F0 := Bx.mk (show f0 p0 = va ∧ f0 p1 = vb ∧ f0 p2 = vc ∧ f0 p3 = vd from by rw [hf0]; exact ⟨hva.symm, hvb.symm, hvc.symm, hvd.symm⟩)
  have HF0 := Bx.mk hf0
  have hv0 : Blk ((w.alloc (.cells (wordsK .u32 16 v) 60)).alloc (.cells #[.int .u32 0, .int .u32 0, .int .u32 0, .int .u32 0, .int .u32 0, .int .u32 0, .int .u32 0, .int .u32 0, .int .u32 0, .int .u32 0, .int .u32 0, .int .u32 0, .int .u32 0, .int .u32 0, .int .u32 0, .int .u32 0] 60)) w.heap.size 60 (wordsK .u32 16 f0) := by rw [hf0]; exact (Blk.new w _ _).alloc _
  have hr0 : ∃ cs, Blk ((w.alloc (.cells (wordsK .u32 16 v) 60)).alloc (.cells #[.int .u32 0, .int .u32 0, .int .u32 0, .int .u32 0, .int .u32 0, .int .u32 0, .int .u32 0, .int .u32 0, .int .u32 0, .int .u32 0, .int .u32 0, .int .u32 0, .int .u32 0, .int .u32 0, .int .u32 0, .int .u32 0] 60)) (w.heap.size + 1) 60 cs ∧ cs.size = 16 := ⟨#[.int .u32 0, .int .u32 0, .int .u32 0, .int .u32 0, .int .u32 0, .int .u32 0, .int .u32 0, .int .u32 0, .int .u32 0, .int .u32 0, .int .u32 0, .int .u32 0, .int .u32 0, .int .u32 0, .int .u32 0, .int .u32 0], by have h := Blk.new (w.alloc (.cells (wordsK .u32 16 v) 60)) 60 #[.int .u32 0, .int .u32 0, .int .u32 0, .int .u32 0, .int .u32 0, .int .u32 0, .int .u32 0, .int .u32 0, .int .u32 0, .int .u32 0, .int .u32 0, .int .u32 0, .int .u32 0, .int .u32 0, .int .u32 0, .int .u32 0]; rw [show (w.alloc (.cells (wordsK .u32 16 v) 60)).heap.size = w.heap.size + 1 by simp] at h; exact h, rfl⟩
  have hg0 : w.grownBy ((w.alloc (.cells (wordsK .u32 16 v) 60)).alloc (.cells #[.int .u32 0, .int .u32 0, .int .u32 0, .int .u32 0, .int .u32 0, .int .u32 0, .int .u32 0, .int .u32 0, .int .u32 0, .int .u32 0, .int .u32 0, .int .u32 0, .int .u32 0, .int .u32 0, .int .u32 0, .int .u32 0] 60)) none := gb_alloc (gb_alloc (gb_refl _ _) _) _
  clear hva hvb hvc hvd hf0
  have ca : ((w.alloc (.cells (wordsK .u32 16 v) 60)).alloc (.cells #[.int .u32 0, .int .u32 0, .int .u32 0, .int .u32 0, .int .u32 0, .int .u32 0, .int .u32 0, .int .u32 0, .int .u32 0, .int .u32 0, .int .u32 0, .int .u32 0, .int .u32 0, .int .u32 0, .int .u32 0, .int .u32 0] 60)).cell? ⟨w.heap.size, p0, none⟩ = some (.int .u32 va) := by rw [hv0.cell, wordsK_get _ _ _ h0, F0.out.1]
  have cb : ((w.alloc (.cells (wordsK .u32 16 v) 60)).alloc (.cells #[.int .u32 0, .int .u32 0, .int .u32 0, .int .u32 0, .int .u32 0, .int .u32 0, .int .u32 0, .int .u32 0, .int .u32 0, .int .u32 0, .int .u32 0, .int .u32 0, .int .u32 0, .int .u32 0, .int .u32 0, .int .u32 0] 60)).cell? ⟨w.heap.size, p1, none⟩ = some (.int .u32 vb) := by rw [hv0.cell, wordsK_get _ _ _ h1, F0.out.2.1]
  have cc : ((w.alloc (.cells (wordsK .u32 16 v) 60)).alloc (.cells #[.int .u32 0, .int .u32 0, .int .u32 0, .int .u32 0, .int .u32 0, .int .u32 0, .int .u32 0, .int .u32 0, .int .u32 0, .int .u32 0, .int .u32 0, .int .u32 0, .int .u32 0, .int .u32 0, .int .u32 0, .int .u32 0] 60)).cell? ⟨w.heap.size, p2, none⟩ = some (.int .u32 vc) := by rw [hv0.cell, wordsK_get _ _ _ h2, F0.out.2.2.1]
  have cd : ((w.alloc (.cells (wordsK .u32 16 v) 60)).alloc (.cells #[.int .u32 0, .int .u32 0, .int .u32 0, .int .u32 0, .int .u32 0, .int .u32 0, .int .u32 0, .int .u32 0, .int .u32 0, .int .u32 0, .int .u32 0, .int .u32 0, .int .u32 0, .int .u32 0, .int .u32 0, .int .u32 0] 60)).cell? ⟨w.heap.size, p3, none⟩ = some (.int .u32 vd) := by rw [hv0.cell, wordsK_get _ _ _ h3, F0.out.2.2.2]
  have fz := hv0.frozen p0
  obtain ⟨a1, ha1⟩ : ∃ z, z = (va + vb + x) % 4294967296 := ⟨_, rfl⟩
  obtain ⟨f1, hf1⟩ : ∃ f, f = upd f0 p0 a1 := ⟨_, rfl⟩
  have F1 := Bx.mk (show f1 p0 = a1 ∧ f1 p1 = vb ∧ f1 p2 = vc ∧ f1 p3 = vd from by have := F0.out; rw [hf1]; simp [upd, *, Ne.symm d01', Ne.symm d02', Ne.symm d03', Ne.symm d12', Ne.symm d13', Ne.symm d23'])
  have HF1 := Bx.mk hf1
  have Ha1 := Bx.mk ha1
  have e1 : (wordsK .u32 16 v).setIfInBounds p0 (.int .u32 a1) = wordsK .u32 16 f1 := by rw [wordsK_put _ _ _ h0, hf1, HF0.out]
  have P1 : Blk ((w.alloc (.cells ((wordsK .u32 16 v).setIfInBounds p0 (.int .u32 a1)) 60)).alloc (.cells #[.int .u32 0, .int .u32 0, .int .u32 0, .int .u32 0, .int .u32 0, .int .u32 0, .int .u32 0, .int .u32 0, .int .u32 0, .int .u32 0, .int .u32 0, .int .u32 0, .int .u32 0, .int .u32 0, .int .u32 0, .int .u32 0] 60)) w.heap.size 60 (wordsK .u32 16 f1) := by rw [← e1]; exact (Blk.new w _ _).alloc _
  have R1 : Blk ((w.alloc (.cells ((wordsK .u32 16 v).setIfInBounds p0 (.int .u32 a1)) 60)).alloc (.cells #[.int .u32 0, .int .u32 0, .int .u32 0, .int .u32 0, .int .u32 0, .int .u32 0, .int .u32 0, .int .u32 0, .int .u32 0, .int .u32 0, .int .u32 0, .int .u32 0, .int .u32 0, .int .u32 0, .int .u32 0, .int .u32 0] 60)) (w.heap.size + 1) 60 #[.int .u32 0, .int .u32 0, .int .u32 0, .int .u32 0, .int .u32 0, .int .u32 0, .int .u32 0, .int .u32 0, .int .u32 0, .int .u32 0, .int .u32 0, .int .u32 0, .int .u32 0, .int .u32 0, .int .u32 0, .int .u32 0] := by have h := Blk.new (w.alloc (.cells ((wordsK .u32 16 v).setIfInBounds p0 (.int .u32 a1)) 60)) 60 #[.int .u32 0, .int .u32 0, .int .u32 0, .int .u32 0, .int .u32 0, .int .u32 0, .int .u32 0, .int .u32 0, .int .u32 0, .int .u32 0, .int .u32 0, .int .u32 0, .int .u32 0, .int .u32 0, .int .u32 0, .int .u32 0]; rw [show (w.alloc (.cells ((wordsK .u32 16 v).setIfInBounds p0 (.int .u32 a1)) 60)).heap.size = w.heap.size + 1 by simp] at h; exact h
  have G1 : w.grownBy ((w.alloc (.cells ((wordsK .u32 16 v).setIfInBounds p0 (.int .u32 a1)) 60)).alloc (.cells #[.int .u32 0, .int .u32 0, .int .u32 0, .int .u32 0, .int .u32 0, .int .u32 0, .int .u32 0, .int .u32 0, .int .u32 0, .int .u32 0, .int .u32 0, .int .u32 0, .int .u32 0, .int .u32 0, .int .u32 0, .int .u32 0] 60)) none := gb_alloc (gb_alloc (gb_refl _ _) _) _
  have H := Lib.hid P1; have R := Lib.hid R1; have G := Lib.hid G1
  clear P1 R1 G1 e1 hf1 hr0 hg0 hv0
  go_cut [] from 15 (fun wx => Blk wx w.heap.size 60 (wordsK .u32 16 f1) ∧ (∃ cs, Blk wx (w.heap.size + 1) 60 cs ∧ cs.size = 16) ∧ w.grownBy wx none)
  case first =>
    go_region
    all_goals
      try rw [← ha1]
      go_wp2_with fail
      go_meet
      exact ⟨H.out, ⟨_, R.out, rfl⟩, gb_drew G.out⟩
  case rest =>
    obtain ⟨hv1, hr1, hg1⟩ := hcut
    obtain ⟨w1, rfl⟩ : ∃ w1, w1 = wc := ⟨_, rfl⟩
    clear ca cb cc cd fz H R G ha1
    have ca : w1.cell? ⟨w.heap.size, p0, none⟩ = some (.int .u32 a1) := by rw [hv1.cell, wordsK_get _ _ _ h0, F1.out.1]
    have cb : w1.cell? ⟨w.heap.size, p1, none⟩ = some (.int .u32 vb) := by rw [hv1.cell, wordsK_get _ _ _ h1, F1.out.2.1]
    have cc : w1.cell? ⟨w.heap.size, p2, none⟩ = some (.int .u32 vc) := by rw [hv1.cell, wordsK_get _ _ _ h2, F1.out.2.2.1]
    have cd : w1.cell? ⟨w.heap.size, p3, none⟩ = some (.int .u32 vd) := by rw [hv1.cell, wordsK_get _ _ _ h3, F1.out.2.2.2]
    have fz := hv1.frozen p3
    obtain ⟨d1, hd1⟩ : ∃ z, z = rot 65536 65536 (bits BinOp.xor IntKind.u32 vd a1) := ⟨_, rfl⟩
    obtain ⟨f2, hf2⟩ : ∃ f, f = upd f1 p3 d1 := ⟨_, rfl⟩
    have F2 := Bx.mk (show f2 p0 = a1 ∧ f2 p1 = vb ∧ f2 p2 = vc ∧ f2 p3 = d1 from by have := F1.out; rw [hf2]; simp [upd, *, Ne.symm d01', Ne.symm d02', Ne.symm d03', Ne.symm d12', Ne.symm d13', Ne.symm d23'])
    have HF2 := Bx.mk hf2
    have Hd1 := Bx.mk hd1
    have P1 := hv1.put p3 (.int .u32 d1)
    rw [wordsK_put _ _ _ h3, ← hf2] at P1
    have H := Lib.hid P1
    have R := Lib.hid hr1
    have G := Lib.hid hg1
    clear P1 hf2 hr1 hg1 hv1
    go_wp2_with fail
    go_cut [] from 15 (fun wx => Blk wx w.heap.size 60 (wordsK .u32 16 f2) ∧ (∃ cs, Blk wx (w.heap.size + 1) 60 cs ∧ cs.size = 16) ∧ w.grownBy wx none)
    case first =>
      go_region_with (go_at_call 35; refine (rotr16 _ _).mono ?_; rintro e w' ⟨rfl, rfl⟩)
      all_goals
        try rw [← hd1]
        go_wp2_with fail
        go_meet
        obtain ⟨cs, hcs, hcz⟩ := R.out
        exact ⟨H.out, ⟨cs, hcs.far (p := ⟨w.heap.size, p3, none⟩) (by simp) _, hcz⟩, gb_drew (gb_put_new G.out (p := ⟨w.heap.size, p3, none⟩) (by simp) _)⟩
    case rest =>
      obtain ⟨hv2, hr2, hg2⟩ := hcut
      obtain ⟨w2, rfl⟩ : ∃ w2, w2 = wc := ⟨_, rfl⟩
      clear ca cb cc cd fz H R G hd1
      have ca : w2.cell? ⟨w.heap.size, p0, none⟩ = some (.int .u32 a1) := by rw [hv2.cell, wordsK_get _ _ _ h0, F2.out.1]
      have cb : w2.cell? ⟨w.heap.size, p1, none⟩ = some (.int .u32 vb) := by rw [hv2.cell, wordsK_get _ _ _ h1, F2.out.2.1]
      have cc : w2.cell? ⟨w.heap.size, p2, none⟩ = some (.int .u32 vc) := by rw [hv2.cell, wordsK_get _ _ _ h2, F2.out.2.2.1]
      have cd : w2.cell? ⟨w.heap.size, p3, none⟩ = some (.int .u32 d1) := by rw [hv2.cell, wordsK_get _ _ _ h3, F2.out.2.2.2]
      have fz := hv2.frozen p2
      obtain ⟨c1, hc1⟩ : ∃ z, z = (vc + d1) % 4294967296 := ⟨_, rfl⟩
      obtain ⟨f3, hf3⟩ : ∃ f, f = upd f2 p2 c1 := ⟨_, rfl⟩
      have F3 := Bx.mk (show f3 p0 = a1 ∧ f3 p1 = vb ∧ f3 p2 = c1 ∧ f3 p3 = d1 from by have := F2.out; rw [hf3]; simp [upd, *, Ne.symm d01', Ne.symm d02', Ne.symm d03', Ne.symm d12', Ne.symm d13', Ne.symm d23'])
      have HF3 := Bx.mk hf3
      have Hc1 := Bx.mk hc1
      have P1 := hv2.put p2 (.int .u32 c1)
      rw [wordsK_put _ _ _ h2, ← hf3] at P1
      have H := Lib.hid P1
      have R := Lib.hid hr2
      have G := Lib.hid hg2
      clear P1 hf3 hr2 hg2 hv2
      go_wp2_with fail
      go_cut [] from 15 (fun wx => Blk wx w.heap.size 60 (wordsK .u32 16 f3) ∧ (∃ cs, Blk wx (w.heap.size + 1) 60 cs ∧ cs.size = 16) ∧ w.grownBy wx none)
      case first =>
        go_region
        all_goals
          try rw [← hc1]
          go_wp2_with fail
          go_meet
          obtain ⟨cs, hcs, hcz⟩ := R.out
          exact ⟨H.out, ⟨cs, hcs.far (p := ⟨w.heap.size, p2, none⟩) (by simp) _, hcz⟩, gb_drew (gb_put_new G.out (p := ⟨w.heap.size, p2, none⟩) (by simp) _)⟩
      case rest =>
        obtain ⟨hv3, hr3, hg3⟩ := hcut
        obtain ⟨w3, rfl⟩ : ∃ w3, w3 = wc := ⟨_, rfl⟩
        clear ca cb cc cd fz H R G hc1
        have ca : w3.cell? ⟨w.heap.size, p0, none⟩ = some (.int .u32 a1) := by rw [hv3.cell, wordsK_get _ _ _ h0, F3.out.1]
        have cb : w3.cell? ⟨w.heap.size, p1, none⟩ = some (.int .u32 vb) := by rw [hv3.cell, wordsK_get _ _ _ h1, F3.out.2.1]
        have cc : w3.cell? ⟨w.heap.size, p2, none⟩ = some (.int .u32 c1) := by rw [hv3.cell, wordsK_get _ _ _ h2, F3.out.2.2.1]
        have cd : w3.cell? ⟨w.heap.size, p3, none⟩ = some (.int .u32 d1) := by rw [hv3.cell, wordsK_get _ _ _ h3, F3.out.2.2.2]
        have fz := hv3.frozen p1
        obtain ⟨b1, hb1⟩ : ∃ z, z = rot 1048576 4096 (bits BinOp.xor IntKind.u32 vb c1) := ⟨_, rfl⟩
        obtain ⟨f4, hf4⟩ : ∃ f, f = upd f3 p1 b1 := ⟨_, rfl⟩
        have F4 := Bx.mk (show f4 p0 = a1 ∧ f4 p1 = b1 ∧ f4 p2 = c1 ∧ f4 p3 = d1 from by have := F3.out; rw [hf4]; simp [upd, *, Ne.symm d01', Ne.symm d02', Ne.symm d03', Ne.symm d12', Ne.symm d13', Ne.symm d23'])
        have HF4 := Bx.mk hf4
        have Hb1 := Bx.mk hb1
        have P1 := hv3.put p1 (.int .u32 b1)
        rw [wordsK_put _ _ _ h1, ← hf4] at P1
        have H := Lib.hid P1
        have R := Lib.hid hr3
        have G := Lib.hid hg3
        clear P1 hf4 hr3 hg3 hv3
        go_wp2_with fail
        go_cut [] from 15 (fun wx => Blk wx w.heap.size 60 (wordsK .u32 16 f4) ∧ (∃ cs, Blk wx (w.heap.size + 1) 60 cs ∧ cs.size = 16) ∧ w.grownBy wx none)
        case first =>
          go_region_with (go_at_call 35; refine (rotr12 _ _).mono ?_; rintro e w' ⟨rfl, rfl⟩)
          all_goals
            try rw [← hb1]
            go_wp2_with fail
            go_meet
            obtain ⟨cs, hcs, hcz⟩ := R.out
            exact ⟨H.out, ⟨cs, hcs.far (p := ⟨w.heap.size, p1, none⟩) (by simp) _, hcz⟩, gb_drew (gb_put_new G.out (p := ⟨w.heap.size, p1, none⟩) (by simp) _)⟩
        case rest =>
          obtain ⟨hv4, hr4, hg4⟩ := hcut
          obtain ⟨w4, rfl⟩ : ∃ w4, w4 = wc := ⟨_, rfl⟩
          clear ca cb cc cd fz H R G hb1
          have ca : w4.cell? ⟨w.heap.size, p0, none⟩ = some (.int .u32 a1) := by rw [hv4.cell, wordsK_get _ _ _ h0, F4.out.1]
          have cb : w4.cell? ⟨w.heap.size, p1, none⟩ = some (.int .u32 b1) := by rw [hv4.cell, wordsK_get _ _ _ h1, F4.out.2.1]
          have cc : w4.cell? ⟨w.heap.size, p2, none⟩ = some (.int .u32 c1) := by rw [hv4.cell, wordsK_get _ _ _ h2, F4.out.2.2.1]
          have cd : w4.cell? ⟨w.heap.size, p3, none⟩ = some (.int .u32 d1) := by rw [hv4.cell, wordsK_get _ _ _ h3, F4.out.2.2.2]
          have fz := hv4.frozen p0
          obtain ⟨a2, ha2⟩ : ∃ z, z = (a1 + b1 + y) % 4294967296 := ⟨_, rfl⟩
          obtain ⟨f5, hf5⟩ : ∃ f, f = upd f4 p0 a2 := ⟨_, rfl⟩
          have F5 := Bx.mk (show f5 p0 = a2 ∧ f5 p1 = b1 ∧ f5 p2 = c1 ∧ f5 p3 = d1 from by have := F4.out; rw [hf5]; simp [upd, *, Ne.symm d01', Ne.symm d02', Ne.symm d03', Ne.symm d12', Ne.symm d13', Ne.symm d23'])
          have HF5 := Bx.mk hf5
          have Ha2 := Bx.mk ha2
          have P1 := hv4.put p0 (.int .u32 a2)
          rw [wordsK_put _ _ _ h0, ← hf5] at P1
          have H := Lib.hid P1
          have R := Lib.hid hr4
          have G := Lib.hid hg4
          clear P1 hf5 hr4 hg4 hv4
          go_wp2_with fail
          go_cut [] from 15 (fun wx => Blk wx w.heap.size 60 (wordsK .u32 16 f5) ∧ (∃ cs, Blk wx (w.heap.size + 1) 60 cs ∧ cs.size = 16) ∧ w.grownBy wx none)
          case first =>
            go_region
            all_goals
              try rw [← ha2]
              go_wp2_with fail
              go_meet
              obtain ⟨cs, hcs, hcz⟩ := R.out
              exact ⟨H.out, ⟨cs, hcs.far (p := ⟨w.heap.size, p0, none⟩) (by simp) _, hcz⟩, gb_drew (gb_put_new G.out (p := ⟨w.heap.size, p0, none⟩) (by simp) _)⟩
          case rest =>
            obtain ⟨hv5, hr5, hg5⟩ := hcut
            obtain ⟨w5, rfl⟩ : ∃ w5, w5 = wc := ⟨_, rfl⟩
            clear ca cb cc cd fz H R G ha2
            have ca : w5.cell? ⟨w.heap.size, p0, none⟩ = some (.int .u32 a2) := by rw [hv5.cell, wordsK_get _ _ _ h0, F5.out.1]
            have cb : w5.cell? ⟨w.heap.size, p1, none⟩ = some (.int .u32 b1) := by rw [hv5.cell, wordsK_get _ _ _ h1, F5.out.2.1]
            have cc : w5.cell? ⟨w.heap.size, p2, none⟩ = some (.int .u32 c1) := by rw [hv5.cell, wordsK_get _ _ _ h2, F5.out.2.2.1]
            have cd : w5.cell? ⟨w.heap.size, p3, none⟩ = some (.int .u32 d1) := by rw [hv5.cell, wordsK_get _ _ _ h3, F5.out.2.2.2]
            have fz := hv5.frozen p3
            obtain ⟨d2, hd2⟩ : ∃ z, z = rot 16777216 256 (bits BinOp.xor IntKind.u32 d1 a2) := ⟨_, rfl⟩
            obtain ⟨f6, hf6⟩ : ∃ f, f = upd f5 p3 d2 := ⟨_, rfl⟩
            have F6 := Bx.mk (show f6 p0 = a2 ∧ f6 p1 = b1 ∧ f6 p2 = c1 ∧ f6 p3 = d2 from by have := F5.out; rw [hf6]; simp [upd, *, Ne.symm d01', Ne.symm d02', Ne.symm d03', Ne.symm d12', Ne.symm d13', Ne.symm d23'])
            have HF6 := Bx.mk hf6
            have Hd2 := Bx.mk hd2
            have P1 := hv5.put p3 (.int .u32 d2)
            rw [wordsK_put _ _ _ h3, ← hf6] at P1
            have H := Lib.hid P1
            have R := Lib.hid hr5
            have G := Lib.hid hg5
            clear P1 hf6 hr5 hg5 hv5
            go_wp2_with fail
            go_cut [] from 15 (fun wx => Blk wx w.heap.size 60 (wordsK .u32 16 f6) ∧ (∃ cs, Blk wx (w.heap.size + 1) 60 cs ∧ cs.size = 16) ∧ w.grownBy wx none)
            case first =>
              go_region_with (go_at_call 35; refine (rotr8 _ _).mono ?_; rintro e w' ⟨rfl, rfl⟩)
              all_goals
                try rw [← hd2]
                go_wp2_with fail
                go_meet
                obtain ⟨cs, hcs, hcz⟩ := R.out
                exact ⟨H.out, ⟨cs, hcs.far (p := ⟨w.heap.size, p3, none⟩) (by simp) _, hcz⟩, gb_drew (gb_put_new G.out (p := ⟨w.heap.size, p3, none⟩) (by simp) _)⟩
            case rest =>
              obtain ⟨hv6, hr6, hg6⟩ := hcut
              obtain ⟨w6, rfl⟩ : ∃ w6, w6 = wc := ⟨_, rfl⟩
              clear ca cb cc cd fz H R G hd2
              have ca : w6.cell? ⟨w.heap.size, p0, none⟩ = some (.int .u32 a2) := by rw [hv6.cell, wordsK_get _ _ _ h0, F6.out.1]
              have cb : w6.cell? ⟨w.heap.size, p1, none⟩ = some (.int .u32 b1) := by rw [hv6.cell, wordsK_get _ _ _ h1, F6.out.2.1]
              have cc : w6.cell? ⟨w.heap.size, p2, none⟩ = some (.int .u32 c1) := by rw [hv6.cell, wordsK_get _ _ _ h2, F6.out.2.2.1]
              have cd : w6.cell? ⟨w.heap.size, p3, none⟩ = some (.int .u32 d2) := by rw [hv6.cell, wordsK_get _ _ _ h3, F6.out.2.2.2]
              have fz := hv6.frozen p2
              obtain ⟨c2, hc2⟩ : ∃ z, z = (c1 + d2) % 4294967296 := ⟨_, rfl⟩
              obtain ⟨f7, hf7⟩ : ∃ f, f = upd f6 p2 c2 := ⟨_, rfl⟩
              have F7 := Bx.mk (show f7 p0 = a2 ∧ f7 p1 = b1 ∧ f7 p2 = c2 ∧ f7 p3 = d2 from by have := F6.out; rw [hf7]; simp [upd, *, Ne.symm d01', Ne.symm d02', Ne.symm d03', Ne.symm d12', Ne.symm d13', Ne.symm d23'])
              have HF7 := Bx.mk hf7
              have Hc2 := Bx.mk hc2
              have P1 := hv6.put p2 (.int .u32 c2)
              rw [wordsK_put _ _ _ h2, ← hf7] at P1
              have H := Lib.hid P1
              have R := Lib.hid hr6
              have G := Lib.hid hg6
              clear P1 hf7 hr6 hg6 hv6
              go_wp2_with fail
              go_cut [] from 15 (fun wx => Blk wx w.heap.size 60 (wordsK .u32 16 f7) ∧ (∃ cs, Blk wx (w.heap.size + 1) 60 cs ∧ cs.size = 16) ∧ w.grownBy wx none)
              case first =>
                go_region
                all_goals
                  try rw [← hc2]
                  go_wp2_with fail
                  go_meet
                  obtain ⟨cs, hcs, hcz⟩ := R.out
                  exact ⟨H.out, ⟨cs, hcs.far (p := ⟨w.heap.size, p2, none⟩) (by simp) _, hcz⟩, gb_drew (gb_put_new G.out (p := ⟨w.heap.size, p2, none⟩) (by simp) _)⟩
              case rest =>
                obtain ⟨hv7, hr7, hg7⟩ := hcut
                obtain ⟨w7, rfl⟩ : ∃ w7, w7 = wc := ⟨_, rfl⟩
                clear ca cb cc cd fz H R G hc2
                have ca : w7.cell? ⟨w.heap.size, p0, none⟩ = some (.int .u32 a2) := by rw [hv7.cell, wordsK_get _ _ _ h0, F7.out.1]
                have cb : w7.cell? ⟨w.heap.size, p1, none⟩ = some (.int .u32 b1) := by rw [hv7.cell, wordsK_get _ _ _ h1, F7.out.2.1]
                have cc : w7.cell? ⟨w.heap.size, p2, none⟩ = some (.int .u32 c2) := by rw [hv7.cell, wordsK_get _ _ _ h2, F7.out.2.2.1]
                have cd : w7.cell? ⟨w.heap.size, p3, none⟩ = some (.int .u32 d2) := by rw [hv7.cell, wordsK_get _ _ _ h3, F7.out.2.2.2]
                have fz := hv7.frozen p1
                obtain ⟨b2, hb2⟩ : ∃ z, z = rot 33554432 128 (bits BinOp.xor IntKind.u32 b1 c2) := ⟨_, rfl⟩
                obtain ⟨f8, hf8⟩ : ∃ f, f = upd f7 p1 b2 := ⟨_, rfl⟩
                have F8 := Bx.mk (show f8 p0 = a2 ∧ f8 p1 = b2 ∧ f8 p2 = c2 ∧ f8 p3 = d2 from by have := F7.out; rw [hf8]; simp [upd, *, Ne.symm d01', Ne.symm d02', Ne.symm d03', Ne.symm d12', Ne.symm d13', Ne.symm d23'])
                have HF8 := Bx.mk hf8
                have Hb2 := Bx.mk hb2
                have P1 := hv7.put p1 (.int .u32 b2)
                rw [wordsK_put _ _ _ h1, ← hf8] at P1
                have H := Lib.hid P1
                have R := Lib.hid hr7
                have G := Lib.hid hg7
                clear P1 hf8 hr7 hg7 hv7
                go_wp2_with fail
                go_cut [] from 15 (fun wx => Blk wx w.heap.size 60 (wordsK .u32 16 f8) ∧ (∃ cs, Blk wx (w.heap.size + 1) 60 cs ∧ cs.size = 16) ∧ w.grownBy wx none)
                case first =>
                  go_region_with (go_at_call 35; refine (rotr7 _ _).mono ?_; rintro e w' ⟨rfl, rfl⟩)
                  all_goals
                    try rw [← hb2]
                    go_wp2_with fail
                    go_meet
                    obtain ⟨cs, hcs, hcz⟩ := R.out
                    exact ⟨H.out, ⟨cs, hcs.far (p := ⟨w.heap.size, p1, none⟩) (by simp) _, hcz⟩, gb_drew (gb_put_new G.out (p := ⟨w.heap.size, p1, none⟩) (by simp) _)⟩
                case rest =>
                  obtain ⟨hv8, hr8, hg8⟩ := hcut
                  obtain ⟨w8, rfl⟩ : ∃ w8, w8 = wc := ⟨_, rfl⟩
                  clear ca cb cc cd fz H R G hb2
                  have U := Tryd.underlying60
                  have I : (Tryd.prog.info? 60).map (·.size) = some 16 := by kernel_rfl
                  have HU := Lib.hid U
                  have HI := Lib.hid I
                  clear U I
                  obtain ⟨cs, hcs, hcz⟩ := hr8
                  have R8 := Lib.hid (hcs.whole (wordsK .u32 16 f8) (by rw [hcz]; simp [wordsK]))
                  have L8 : (wordsK .u32 16 f8).size = 16 := by simp [wordsK]
                  have TH := Lib.hid (there_blk hcs (n := (wordsK .u32 16 f8).size) (by rw [L8, hcz]; exact Nat.le_refl _))
                  have I8 := Lib.hid (show (Tryd.prog.info? 60).map (·.size) = some (wordsK .u32 16 f8).size by rw [L8]; exact HI.out)
                  clear L8
                  clear hcs hcz
                  go_upto_region 9 with fail
                  go_cut [] from 15 (fun wx => Blk wx (w.heap.size + 1) 60 (wordsK .u32 16 f8) ∧ w.grownBy wx none)
                  case first =>
                    go_wp2_with (first
                      | (refine wpList_load_row rfl 60 _ rfl w.heap.size rfl 60 (wordsK .u32 16 f8) (0, 0) _ hv8 HU.out rfl I8.out ?_)
                      | (refine wpList_store_mid rfl 60 _ _ rfl (w.heap.size + 1) 0 (wordsK .u32 16 f8) rfl rfl TH.out I8.out (words_one _ _) ?_))
                    go_meet
                    exact ⟨R8.out, gb_setCells_new hg8 (Nat.le_succ _) _ _⟩
                  case rest =>
                    obtain ⟨hv9, hg9⟩ := hcut
                    obtain ⟨w9, rfl⟩ : ∃ w9, w9 = wc := ⟨_, rfl⟩
                    clear R8 TH hg8 hv8
                    go_wp2_with fail
                    (try simp only [Exit.inBlock, Exit.then])
                    refine bodyPost_ret (results_cell_row rfl _ _ _ _ _ _ _ rfl hv9 HU.out rfl I8) rfl ?_
                    refine ⟨?_, hg9⟩
                    rw [refmix_pure d01' d02' d03' d12' d13' d23' HV.out Ha1.out Hd1.out Hc1.out Hb1.out Ha2.out Hd2.out Hc2.out Hb2.out HF0.out HF1.out HF2.out HF3.out HF4.out HF5.out HF6.out HF7.out HF8.out]
end Go.Proofs.YtmedobeogdnkfaaDoor
