/- The walk over the reference's block. -/
import Derived.Test.YtmedobeogdnkfaaDoorBref3
import Derived.Test.YtmedobeogdnkfaaDoorBref4
import Derived.StillTailTactics
namespace Go.Proofs.YtmedobeogdnkfaaDoor
open Go.RowKit

theorem zero8 : (#[.int .u32 0, .int .u32 0, .int .u32 0, .int .u32 0, .int .u32 0, .int .u32 0, .int .u32 0, .int .u32 0] : Array Value).size = 8 := rfl
theorem zero16 (b : Nat → Int) : (#[.int .u32 0, .int .u32 0, .int .u32 0, .int .u32 0, .int .u32 0, .int .u32 0, .int .u32 0, .int .u32 0, .int .u32 0, .int .u32 0, .int .u32 0, .int .u32 0, .int .u32 0, .int .u32 0, .int .u32 0, .int .u32 0] : Array Value) = wordsK .u32 16 (wordsUpTo b 0 0) := by
  rw [wordsK_congr (f' := fun _ => 0) .u32 fun j _ => by by_cases e : j = 0 <;> simp [wordsUpTo, wpart, e]]
  rfl

theorem wpStill_load_blk {P : Program} {ops : Array Oper} {w : World} {Q : Act → Prop} {a : Act} {op : Oper} {rest : List Oper} (hgd : op.guard = none) (ty : TypeId) (x : Operand) (ho : op.op = .load ty x)
    (g : Nat) (hx : a.eval x = .pointer (some ⟨g, 0, none⟩)) {t : TypeId} {cs : Array Value} (hb : Blk w g t cs) (d : TypeDesc) (hu : P.underlying ty = some d) (hd : d.isRow = true) (hi : (P.info? ty).map (·.size) = some cs.size)
    (h : wpStill P ops w Q rest (a.put op.dst (.agg cs))) : wpStill P ops w Q (op :: rest) a := by
  have hl := run_loadVar_mid (P := P) w g 0 ty cs.toList d hb.range hu hd (by rw [Array.length_toList]; exact hi)
  have e : cs.toList.toArray = cs := by simp
  rw [e] at hl
  unfold wpStill
  rw [if_pos (by simp [Region.wanted, hgd])]
  unfold Oper.still execOp
  simp only [ho, hx, Instr.loadAt, Instr.sureAddr, Sem.run_bind, Sem.run_pure, Result.andThen_ok, hl]
  exact ⟨rfl, h⟩
theorem mixesF_step (m : Nat → Int) (r : Nat) (v : Nat → Int) (k : Nat) : mixesF m r v (k + 1) = mixF (mixesF m r v k) (lan k 0) (lan k 1) (lan k 2) (lan k 3) (m (sig r (2 * k))) (m (sig r (2 * k + 1))) := rfl
theorem run_store_blk {P : Program} {w : World} {g : Nat} {t : TypeId} {cs : Array Value} (h : Blk w g t cs) (vs : Array Value) (hn : vs.size = cs.size) (h1 : vs.all (·.oneCell') = true) :
    (storeCells ⟨g, 0, none⟩ vs.toList).run P w = .ok () (w.setCells g 0 vs.toList) := by
  have ht := there_blk h (n := vs.size) (by omega)
  have := run_storeCells_cells (P := P) g 0 vs.toList 0 w (fun j hj => by simpa using (ht j (by simpa using hj)).1) (fun j hj => by simpa using (ht j (by simpa using hj)).2)
    (fun v hv => (Array.all_eq_true_iff_forall_mem.1 h1) v (by simpa using hv))
  simpa only [Nat.add_zero] using this
theorem gb_setCells_at {w w' : World} {g : Nat} (h : w.grownBy w' (some g)) (o : Nat) (vs : List Value) : w.grownBy (w'.setCells g o vs) (some g) := by
  obtain ⟨h1, h2, h3⟩ := same_setCells g vs o w'
  exact ⟨h1.trans h.os, h2.trans h.tape, h3.trans h.output, by rw [size_setCells]; exact h.size, fun k hk hn => (heap_setCells_other g vs o w' k (fun e => hn (by rw [e]))).trans (h.block k hk hn)⟩

set_option maxRecDepth 100000 in
set_option maxHeartbeats 8000000 in
theorem refblock_any (h : Nat → Int) (ad : Addr) (c : Nat) (buf : Nat → Int) (t : Int) (last : Bool) (w : World) (hcell : ∀ j, j < 64 → w.cell? (ad.add j) = some (.int .u8 (buf j))) (_hc : 64 ≤ c) (hbf : ∀ j, 0 ≤ buf j ∧ buf j < 256) (hab : ad.block < w.heap.size) (ht0 : 0 ≤ t) (ht1 : t < 4000000000) :
    Calls Tryd.prog 28 #[.agg (wordsK .u32 8 h), .slice (some ad) 64 c, .int .u64 t, .bool last] w fun e w' =>
      e = .returned (.agg (wordsK .u32 8 (compressF h buf t last))) ∧ w.grownBy w' none := by
  have HC := Lib.hid hcell
  have HB := Lib.hid hbf
  clear hcell hbf
  go_enter Tryd.func28, Tryd.ntmps28
  go_wp2_with fail
  go_loopw [10] (fun cv wr => ∃ i : Nat, i ≤ 16 ∧ cv = .int .i64 i ∧ Blk wr w.heap.size 47 (wordsK .u32 8 h) ∧ (∃ cs, Blk wr (w.heap.size + 1) 47 cs ∧ cs.size = 8) ∧ Blk wr (w.heap.size + 2) 60 (wordsK .u32 16 (wordsUpTo buf i 0)) ∧ w.grownBy wr none) (fun cv _ => 16 - (intOf cv).toNat)
  case atStart =>
    refine ⟨0, by omega, rfl, ((Blk.new w _ _).alloc _).alloc _, ⟨_, ?_, zero8⟩, ?_, gb_alloc (gb_alloc (gb_alloc (gb_refl _ _) _) _) _⟩
    · have h1 := (Blk.new (w.alloc (.cells (wordsK .u32 8 h) 47)) 47 #[.int .u32 0, .int .u32 0, .int .u32 0, .int .u32 0, .int .u32 0, .int .u32 0, .int .u32 0, .int .u32 0])
      rw [show (w.alloc (.cells (wordsK .u32 8 h) 47)).heap.size = w.heap.size + 1 by simp] at h1
      exact h1.alloc _
    · rw [← zero16 buf]
      have h1 := Blk.new ((w.alloc (.cells (wordsK .u32 8 h) 47)).alloc (.cells #[.int .u32 0, .int .u32 0, .int .u32 0, .int .u32 0, .int .u32 0, .int .u32 0, .int .u32 0, .int .u32 0] 47)) 60 #[.int .u32 0, .int .u32 0, .int .u32 0, .int .u32 0, .int .u32 0, .int .u32 0, .int .u32 0, .int .u32 0, .int .u32 0, .int .u32 0, .int .u32 0, .int .u32 0, .int .u32 0, .int .u32 0, .int .u32 0, .int .u32 0]
      rw [show ((w.alloc (.cells (wordsK .u32 8 h) 47)).alloc (.cells #[.int .u32 0, .int .u32 0, .int .u32 0, .int .u32 0, .int .u32 0, .int .u32 0, .int .u32 0, .int .u32 0] 47)).heap.size = w.heap.size + 2 by simp] at h1
      exact h1
  case round =>
    obtain ⟨i, hi, rfl, hh, hr, hm, hg⟩ := hrel
    by_cases hlt : i < 16
    · have hi1 : (i : Int) < 16 := by omega
      have c0 : wr.cell? (ad.add (4 * i)) = some (.int .u8 (buf (4 * i))) := hg.cell (HC.out _ (by omega)) (by simp)
      have c1 : wr.cell? (ad.add (4 * i + 1)) = some (.int .u8 (buf (4 * i + 1))) := hg.cell (HC.out _ (by omega)) (by simp)
      have c2 : wr.cell? (ad.add (4 * i + 2)) = some (.int .u8 (buf (4 * i + 2))) := hg.cell (HC.out _ (by omega)) (by simp)
      have c3 : wr.cell? (ad.add (4 * i + 3)) = some (.int .u8 (buf (4 * i + 3))) := hg.cell (HC.out _ (by omega)) (by simp)
      have cm : wr.cell? ⟨w.heap.size + 2, i, none⟩ = some (.int .u32 (wordsUpTo buf i 0 i)) := by rw [hm.cell, wordsK_get _ _ _ hlt]
      have fm := hm.frozen i
      obtain ⟨b0, y0⟩ : ∃ b, b = buf (4 * i) := ⟨_, rfl⟩
      obtain ⟨b1, y1⟩ : ∃ b, b = buf (4 * i + 1) := ⟨_, rfl⟩
      obtain ⟨b2, y2⟩ : ∃ b, b = buf (4 * i + 2) := ⟨_, rfl⟩
      obtain ⟨b3, y3⟩ : ∃ b, b = buf (4 * i + 3) := ⟨_, rfl⟩
      have S := Bx.mk (show wordsOf buf i = b0 + b1 * 256 + b2 * 65536 + b3 * 16777216 by rw [wpart_sum HB.out, ← y0, ← y1, ← y2, ← y3])
      have BD := Bx.mk (show (0 ≤ b0 ∧ b0 < 256) ∧ (0 ≤ b1 ∧ b1 < 256) ∧ (0 ≤ b2 ∧ b2 < 256) ∧ (0 ≤ b3 ∧ b3 < 256) by rw [y0, y1, y2, y3]; exact ⟨HB.out _, HB.out _, HB.out _, HB.out _⟩)
      rw [← y0] at c0
      rw [← y1, show ad.add (4 * i + 1) = ⟨ad.block, ad.off + (4 * i + 1), none⟩ by simp [Addr.add]] at c1
      rw [← y2, show ad.add (4 * i + 2) = ⟨ad.block, ad.off + (4 * i + 2), none⟩ by simp [Addr.add]] at c2
      rw [← y3, show ad.add (4 * i + 3) = ⟨ad.block, ad.off + (4 * i + 3), none⟩ by simp [Addr.add]] at c3
      clear y0 y1 y2 y3
      have q0 : IntKind.i64.wrap (4 * (i : Int)) = 4 * (i : Int) := IntWalk.i64_in _ (by omega)
      have r0 : (4 * (i : Int)).toNat = 4 * i := by omega
      have s0 : 4 * (i : Int) < 64 := by omega
      have t0 : 0 ≤ 4 * (i : Int) := by omega
      have q1 : IntKind.i64.wrap (4 * (i : Int) + 1) = 4 * (i : Int) + 1 := IntWalk.i64_in _ (by omega)
      have r1 : (4 * (i : Int) + 1).toNat = 4 * i + 1 := by omega
      have s1 : 4 * (i : Int) + 1 < 64 := by omega
      have t1 : 0 ≤ 4 * (i : Int) + 1 := by omega
      have q2 : IntKind.i64.wrap (4 * (i : Int) + 2) = 4 * (i : Int) + 2 := IntWalk.i64_in _ (by omega)
      have r2 : (4 * (i : Int) + 2).toNat = 4 * i + 2 := by omega
      have s2 : 4 * (i : Int) + 2 < 64 := by omega
      have t2 : 0 ≤ 4 * (i : Int) + 2 := by omega
      have q3 : IntKind.i64.wrap (4 * (i : Int) + 3) = 4 * (i : Int) + 3 := IntWalk.i64_in _ (by omega)
      have r3 : (4 * (i : Int) + 3).toNat = 4 * i + 3 := by omega
      have s3 : 4 * (i : Int) + 3 < 64 := by omega
      have t3 : 0 ≤ 4 * (i : Int) + 3 := by omega
      have z := BD.out
      have uw : ∀ n : Int, 0 ≤ n → n < 4294967296 → IntKind.u32.wrap n = n := fun n a b => by rw [IntKind.wrap_u32]; omega
      have v0 : IntKind.u32.wrap (b0) = b0 := uw _ (by omega) (by omega)
      have v1 : IntKind.u32.wrap (b1) = b1 := uw _ (by omega) (by omega)
      have v2 : IntKind.u32.wrap (b2) = b2 := uw _ (by omega) (by omega)
      have v3 : IntKind.u32.wrap (b3) = b3 := uw _ (by omega) (by omega)
      have x1 : IntKind.u32.wrap (b1 * 256) = b1 * 256 := uw _ (by omega) (by omega)
      have x2 : IntKind.u32.wrap (b2 * 65536) = b2 * 65536 := uw _ (by omega) (by omega)
      have x3 : IntKind.u32.wrap (b3 * 16777216) = b3 * 16777216 := uw _ (by omega) (by omega)
      have g1 : IntKind.u32.wrap (b0 + b1 * 256) = b0 + b1 * 256 := uw _ (by omega) (by omega)
      have g2 : IntKind.u32.wrap (b0 + b1 * 256 + b2 * 65536) = b0 + b1 * 256 + b2 * 65536 := uw _ (by omega) (by omega)
      have g3 : IntKind.u32.wrap (b0 + b1 * 256 + b2 * 65536 + b3 * 16777216) = b0 + b1 * 256 + b2 * 65536 + b3 * 16777216 := uw _ (by omega) (by omega)
      clear z uw
      have hne0 : ∀ (W : World) (j : Nat) (v : Value), (W.setCell ⟨w.heap.size + 1 + 1, j, none⟩ v).cell? (ad.add (4 * i)) = W.cell? (ad.add (4 * i)) := fun W j v => World.cell?_setCell_other W _ _ v (fun e => by have := congrArg Addr.block e; rw [add_block] at this; simp at this; omega)
      have hne1 : ∀ (W : World) (j : Nat) (v : Value), (W.setCell ⟨w.heap.size + 1 + 1, j, none⟩ v).cell? ⟨ad.block, ad.off + (4 * i + 1), none⟩ = W.cell? ⟨ad.block, ad.off + (4 * i + 1), none⟩ := fun W j v => World.cell?_setCell_other W _ _ v (fun e => by have := congrArg Addr.block e; simp at this; omega)
      have hne2 : ∀ (W : World) (j : Nat) (v : Value), (W.setCell ⟨w.heap.size + 1 + 1, j, none⟩ v).cell? ⟨ad.block, ad.off + (4 * i + 2), none⟩ = W.cell? ⟨ad.block, ad.off + (4 * i + 2), none⟩ := fun W j v => World.cell?_setCell_other W _ _ v (fun e => by have := congrArg Addr.block e; simp at this; omega)
      have hne3 : ∀ (W : World) (j : Nat) (v : Value), (W.setCell ⟨w.heap.size + 1 + 1, j, none⟩ v).cell? ⟨ad.block, ad.off + (4 * i + 3), none⟩ = W.cell? ⟨ad.block, ad.off + (4 * i + 3), none⟩ := fun W j v => World.cell?_setCell_other W _ _ v (fun e => by have := congrArg Addr.block e; simp at this; omega)
      go_wp2_with fail
      go_region_held3 (fun w' => w'.cell? (ad.add (4 * i)) = some (.int .u8 b0) ∧ w'.cell? ⟨ad.block, ad.off + (4 * i + 1), none⟩ = some (.int .u8 b1) ∧ w'.cell? ⟨ad.block, ad.off + (4 * i + 2), none⟩ = some (.int .u8 b2) ∧ w'.cell? ⟨ad.block, ad.off + (4 * i + 3), none⟩ = some (.int .u8 b3)) (((try simp only [hne0, hne1, hne2, hne3]); go_keep)) (fail)
      go_wp2_with fail
      go_roundw
      case rel =>
        obtain ⟨cs, hcs, hcz⟩ := hr
        have P1 := hm.put i (.int .u32 (b0 + b1 * 256 + b2 * 65536 + b3 * 16777216))
        rw [wordsK_put _ _ _ hlt, ← S.out, wordsUpTo_next', S.out] at P1
        exact ⟨i + 1, by omega, by go_num, hh.far (p := ⟨w.heap.size + 1 + 1, i, none⟩) (by simp; omega) _, ⟨cs, hcs.far (p := ⟨w.heap.size + 1 + 1, i, none⟩) (by simp) _, hcz⟩, P1, gb_drew (gb_put_new hg (p := ⟨w.heap.size + 1 + 1, i, none⟩) (by simp; omega) _)⟩
      case measure => simp [intOf]; omega
    · have hi1 : ¬ (i : Int) < 16 := by omega
      obtain rfl : i = 16 := by omega
      rw [wordsK_congr .u32 fun j hj => wordsUpTo_all buf hj] at hm
      obtain ⟨wo, hwo⟩ : ∃ x, x = wr := ⟨_, rfl⟩
      subst hwo
      have hmz := hm.lt
      have hm0 := hm.alloc (.cells (wordsK .u32 16 (vUpTo h 0)) 60)
      have hh0 := hh.alloc (.cells (wordsK .u32 16 (vUpTo h 0)) 60)
      obtain ⟨cs, hcs, hcz⟩ := hr
      have hr0 := hcs.alloc (.cells (wordsK .u32 16 (vUpTo h 0)) 60)
      have hv0 : Blk (wo.alloc (.cells (wordsK .u32 16 (vUpTo h 0)) 60)) wo.heap.size 60 (wordsK .u32 16 (vUpTo h 0)) := Blk.new _ _ _
      have hg0 := gb_alloc hg (.cells (wordsK .u32 16 (vUpTo h 0)) 60)
      have I8 : (Tryd.prog.info? 47).map (·.size) = some (wordsK .u32 8 ivF).size := by kernel_rfl
      have HI8 := Lib.hid I8
      clear hm hh hcs hg I8
      go_wp2_with fail
      refine (refiv_any _).mono ?_
      rintro e w1 ⟨rfl, hg1⟩
      replace hm0 := hm0.grown hg1 (by simp)
      replace hh0 := hh0.grown hg1 (by simp)
      replace hr0 := hr0.grown hg1 (by simp)
      replace hv0 := hv0.grown hg1 (by simp)
      replace hg0 := gb_trans hg0 hg1
      have hvz := hv0.lt
      have N8 := Blk.new w1 47 #[.int .u32 0, .int .u32 0, .int .u32 0, .int .u32 0, .int .u32 0, .int .u32 0, .int .u32 0, .int .u32 0]
      have TH := Lib.hid (there_blk N8 (n := (wordsK .u32 8 ivF).size) (by simp [wordsK]))
      have W8 := Lib.hid (N8.whole (wordsK .u32 8 ivF) (by simp [wordsK]))
      clear N8
      go_wp2_with (refine wpList_store_mid rfl 47 _ _ rfl w1.heap.size 0 (wordsK .u32 8 ivF) rfl rfl TH.out HI8.out (words_one _ _) ?_)
      go_loopw [13] (fun cv wr => ∃ i : Nat, i ≤ 8 ∧ cv = .int .i64 i ∧ Blk wr w.heap.size 47 (wordsK .u32 8 h) ∧ Blk wr (w.heap.size + 1) 47 cs ∧ Blk wr (w.heap.size + 2) 60 (wordsK .u32 16 (wordsOf buf)) ∧
          Blk wr wo.heap.size 60 (wordsK .u32 16 (vUpTo h i)) ∧ Blk wr w1.heap.size 47 (wordsK .u32 8 ivF) ∧ w.grownBy wr none) (fun cv _ => 8 - (intOf cv).toNat)
      case atStart =>
        exact ⟨0, by omega, rfl, (hh0.alloc _).farCells (by omega) _ _, (hr0.alloc _).farCells (by omega) _ _, (hm0.alloc _).farCells (by omega) _ _, (hv0.alloc _).farCells (by omega) _ _, W8.out, gb_setCells_new (gb_alloc hg0 _) hg0.size _ _⟩
      case round =>
        obtain ⟨i, hi, rfl, hh, hr, hm, hv, hiv, hg⟩ := hrel
        clear hh0 hr0 hm0 hv0 hg0 W8 TH
        by_cases hlt : i < 8
        · have hi1 : (i : Int) < 8 := by omega
          have q1 : (i : Int) < 16 := by omega
          have q2 : (i : Int) + 8 < 16 := by omega
          have q3 : IntKind.i64.wrap ((i : Int) + 8) = (i : Int) + 8 := IntWalk.i64_in _ (by omega)
          have q4 : ((i : Int) + 8).toNat = i + 8 := by omega
          have ch : wr.cell? ⟨w.heap.size, i, none⟩ = some (.int .u32 (h i)) := by rw [hh.cell, wordsK_get _ _ _ hlt]
          have cv : wr.cell? ⟨wo.heap.size, i, none⟩ = some (.int .u32 (vUpTo h i i)) := by rw [hv.cell, wordsK_get _ _ _ (by omega)]
          have fv := hv.frozen i
          have hv1 := hv.put i (.int .u32 (h i))
          rw [wordsK_put _ _ _ (by omega)] at hv1
          have hiv1 := hiv.far (p := ⟨wo.heap.size, i, none⟩) (by simp; omega) (.int .u32 (h i))
          have civ : (wr.setCell ⟨wo.heap.size, i, none⟩ (.int .u32 (h i))).cell? ⟨w1.heap.size, i, none⟩ = some (.int .u32 (ivF i)) := by rw [hiv1.cell, wordsK_get _ _ _ hlt]
          have cv1 : (wr.setCell ⟨wo.heap.size, i, none⟩ (.int .u32 (h i))).cell? ⟨wo.heap.size, i + 8, none⟩ = some (.int .u32 (upd (vUpTo h i) i (h i) (i + 8))) := by rw [hv1.cell, wordsK_get _ _ _ (by omega)]
          have fv1 := hv1.frozen (i + 8)
          have hv2 := hv1.put (i + 8) (.int .u32 (ivF i))
          rw [wordsK_put _ _ _ (by omega), vUpTo_step h hlt] at hv2
          have H := Lib.hid hv2
          clear hv2
          go_wp2_with fail
          go_roundw
          case rel =>
            exact ⟨i + 1, by omega, by go_num, (hh.far (p := ⟨wo.heap.size, i, none⟩) (by simp; omega) _).far (p := ⟨wo.heap.size, i + 8, none⟩) (by simp; omega) _, (hr.far (p := ⟨wo.heap.size, i, none⟩) (by simp; omega) _).far (p := ⟨wo.heap.size, i + 8, none⟩) (by simp; omega) _,
              (hm.far (p := ⟨wo.heap.size, i, none⟩) (by simp; omega) _).far (p := ⟨wo.heap.size, i + 8, none⟩) (by simp; omega) _, H.out, hiv1.far (p := ⟨wo.heap.size, i + 8, none⟩) (by simp; omega) _, gb_put_new (gb_put_new hg (p := ⟨wo.heap.size, i, none⟩) (by simp; omega) _) (p := ⟨wo.heap.size, i + 8, none⟩) (by simp; omega) _⟩
          case measure => simp [intOf]; omega
        · have hi1 : ¬ (i : Int) < 8 := by omega
          obtain rfl : i = 8 := by omega
          rw [wordsK_congr .u32 fun j hj => vUpTo_all h hj] at hv
          have c12 : wr.cell? ⟨wo.heap.size, 12, none⟩ = some (.int .u32 (vInit h 12)) := by rw [hv.cell, wordsK_get _ _ _ (by omega)]
          have c13 : wr.cell? ⟨wo.heap.size, 13, none⟩ = some (.int .u32 (vInit h 13)) := by rw [hv.cell, wordsK_get _ _ _ (by omega)]
          have c14 : wr.cell? ⟨wo.heap.size, 14, none⟩ = some (.int .u32 (vInit h 14)) := by rw [hv.cell, wordsK_get _ _ _ (by omega)]
          have f12 := hv.frozen 12
          have f13 := hv.frozen 13
          have f14 := hv.frozen 14
          have P2 := (hv.put 12 (.int .u32 (bits BinOp.xor IntKind.u32 (vInit h 12) t))).put 13 (.int .u32 (bits BinOp.xor IntKind.u32 (vInit h 13) (t / 4294967296)))
          rw [wordsK_put _ _ _ (by omega), wordsK_put _ _ _ (by omega)] at P2
          have P3 := P2.put 14 (.int .u32 (bits BinOp.xor IntKind.u32 IntKind.u32.max (vInit h 14)))
          rw [wordsK_put _ _ _ (by omega)] at P3
          have tm : t % 4294967296 = t := by omega
          have E0 := Bx.mk (show vStart h t false = upd (upd (vInit h) 12 (bits BinOp.xor IntKind.u32 (vInit h 12) t)) 13 (bits BinOp.xor IntKind.u32 (vInit h 13) (t / 4294967296)) by show vCount h t = _; rw [vCount, tm])
          have E1 := Bx.mk (show vStart h t true = upd (upd (upd (vInit h) 12 (bits BinOp.xor IntKind.u32 (vInit h 12) t)) 13 (bits BinOp.xor IntKind.u32 (vInit h 13) (t / 4294967296))) 14 (bits BinOp.xor IntKind.u32 IntKind.u32.max (vInit h 14)) by show upd (vCount h t) 14 _ = _; rw [vCount, tm])
          clear tm
          have V2 := Lib.hid P2
          have V3 := Lib.hid P3
          clear P2 P3
          go_upto_if 89 with fail
          go_cut [] from 19 (fun wx => Blk wx wo.heap.size 60 (wordsK .u32 16 (vStart h t last)) ∧ Blk wx w.heap.size 47 (wordsK .u32 8 h) ∧ Blk wx (w.heap.size + 1) 47 cs ∧ Blk wx (w.heap.size + 2) 60 (wordsK .u32 16 (wordsOf buf)) ∧ w.grownBy wx none)
          case first =>
            cases last
            · go_wp2_with fail
              go_meet
              rw [E0.out]
              exact ⟨V2.out, (hh.far (p := ⟨wo.heap.size, 12, none⟩) (by simp; omega) _).far (p := ⟨wo.heap.size, 13, none⟩) (by simp; omega) _, (hr.far (p := ⟨wo.heap.size, 12, none⟩) (by simp; omega) _).far (p := ⟨wo.heap.size, 13, none⟩) (by simp; omega) _,
                (hm.far (p := ⟨wo.heap.size, 12, none⟩) (by simp; omega) _).far (p := ⟨wo.heap.size, 13, none⟩) (by simp; omega) _, gb_put_new (gb_put_new hg (p := ⟨wo.heap.size, 12, none⟩) (by simp; omega) _) (p := ⟨wo.heap.size, 13, none⟩) (by simp; omega) _⟩
            · go_wp2_with fail
              go_meet
              rw [E1.out]
              exact ⟨V3.out, ((hh.far (p := ⟨wo.heap.size, 12, none⟩) (by simp; omega) _).far (p := ⟨wo.heap.size, 13, none⟩) (by simp; omega) _).far (p := ⟨wo.heap.size, 14, none⟩) (by simp; omega) _, ((hr.far (p := ⟨wo.heap.size, 12, none⟩) (by simp; omega) _).far (p := ⟨wo.heap.size, 13, none⟩) (by simp; omega) _).far (p := ⟨wo.heap.size, 14, none⟩) (by simp; omega) _,
                ((hm.far (p := ⟨wo.heap.size, 12, none⟩) (by simp; omega) _).far (p := ⟨wo.heap.size, 13, none⟩) (by simp; omega) _).far (p := ⟨wo.heap.size, 14, none⟩) (by simp; omega) _, gb_put_new (gb_put_new (gb_put_new hg (p := ⟨wo.heap.size, 12, none⟩) (by simp; omega) _) (p := ⟨wo.heap.size, 13, none⟩) (by simp; omega) _) (p := ⟨wo.heap.size, 14, none⟩) (by simp; omega) _⟩
          case rest =>
            clear hv hh hr hm hg hiv c12 c13 c14 f12 f13 f14 V2 V3
            obtain ⟨hv3, hh3, hr3, hm3, hg3⟩ := hcut
            obtain ⟨w3, rfl⟩ : ∃ w3, w3 = wc := ⟨_, rfl⟩
            have hvo := hv3.lt
            go_wp2_with fail
            go_loopw [14] (fun cv wr => ∃ r : Nat, r ≤ 10 ∧ cv = .int .i64 r ∧ Blk wr wo.heap.size 60 (wordsK .u32 16 (roundsF (wordsOf buf) (vStart h t last) r)) ∧ w3.grownBy wr (some wo.heap.size)) (fun cv _ => 10 - (intOf cv).toNat)
            case atStart => exact ⟨0, by omega, rfl, hv3, gb_refl _ _⟩
            case round =>
              obtain ⟨r, hr10, rfl, hv4, hg4⟩ := hrel
              obtain ⟨w4, hw4⟩ : ∃ x, x = wr := ⟨_, rfl⟩
              subst hw4
              have hm4 := hm3.grown hg4 (by simp; omega)
              by_cases hlt : r < 10
              · have hi3 : (r : Int) < 10 := by omega
                go_wp2_with fail
                refine (refsigma_any r hlt _).mono ?_
                rintro e w5 ⟨rfl, hg5⟩
                have hv5 := hv4.grown hg5 (by simp)
                have hm5 := hm4.grown hg5 (by simp)
                have I16 : (Tryd.prog.info? 67).map (·.size) = some 16 := by kernel_rfl
                have HI16 := Lib.hid (show (Tryd.prog.info? 67).map (·.size) = some (sigI r).size by rw [I16]; simp [sigI, wordsK])
                clear I16
                have one : (sigI r).all (·.oneCell') = true := by simp [sigI, wordsK, Value.oneCell']
                have H1 := Lib.hid one
                clear one
                have N5 := Blk.new w5 67 (wordsK .i64 16 (fun _ => 0))
                have TH := Lib.hid (there_blk N5 (n := (sigI r).size) (by simp [sigI, wordsK]))
                have W5 := Lib.hid (N5.whole (sigI r) (by simp [sigI, wordsK]))
                clear N5
                go_wp2_with (refine wpList_store_mid rfl 67 _ _ rfl w5.heap.size 0 (sigI r) rfl rfl TH.out HI16.out H1.out ?_)
                have hvz5 := hv5.lt
                have hmz5 := hm5.lt
                have U16 := Tryd.underlying60
                have J16 : (Tryd.prog.info? 60).map (·.size) = some 16 := by kernel_rfl
                have HU16 := Lib.hid U16
                have HJ16 : Hid (∀ f, (Tryd.prog.info? 60).map (·.size) = some (wordsK .u32 16 f).size) := Lib.hid (fun f => by rw [J16]; simp [wordsK])
                clear U16 J16
                obtain ⟨V, hV⟩ : ∃ V, V = roundsF (wordsOf buf) (vStart h t last) r := ⟨_, rfl⟩
                have HV := Bx.mk hV
                rw [← hV] at hv5
                clear hV
                go_loopw [16] (fun cv wr => ∃ k : Nat, k ≤ 4 ∧ cv = .int .i64 k ∧ Blk wr wo.heap.size 60 (wordsK .u32 16 (mixesF (wordsOf buf) r V (k))) ∧ Blk wr w5.heap.size 67 (sigI r) ∧ Blk wr (w.heap.size + 2) 60 (wordsK .u32 16 (wordsOf buf)) ∧ w4.grownBy wr (some wo.heap.size)) (fun cv _ => 4 - (intOf cv).toNat)
                case atStart => exact ⟨0, by omega, rfl, (hv5.alloc _).farCells (by omega) _ _, W5.out, (hm5.alloc _).farCells (by omega) _ _, gb_some (gb_setCells_new (gb_alloc hg5 _) hg5.size _ _) _⟩
                case round =>
                  obtain ⟨k, hk4, rfl, hv6, hs6, hm6, hg6⟩ := hrel
                  clear hv5 hm5 W5 TH
                  by_cases hlk : k < 4
                  · rcases (show k = 0 ∨ k = 1 ∨ k = 2 ∨ k = 3 from by omega) with rfl | rfl | rfl | rfl
                    · as_aux_lemma =>
                        have sl0 := sig_lt hlt (show 0 < 16 by omega)
                        have sl1 := sig_lt hlt (show 1 < 16 by omega)
                        have si0 : (sig r 0 : Int) < 16 := by omega
                        have si1 : (sig r 1 : Int) < 16 := by omega
                        have e0 : wr.drew.cell? ⟨w5.heap.size, 0, none⟩ = some (.int .i64 (sig r 0)) := by rw [hs6.drew.cell, sigI, wordsK_get _ _ _ (by omega)]
                        have e1 : wr.drew.cell? ⟨w5.heap.size, 1, none⟩ = some (.int .i64 (sig r 1)) := by rw [hs6.drew.cell, sigI, wordsK_get _ _ _ (by omega)]
                        have e2 : wr.drew.cell? ⟨w.heap.size + 1 + 1, sig r 0, none⟩ = some (.int .u32 (wordsOf buf (sig r 0))) := by rw [show w.heap.size + 1 + 1 = w.heap.size + 2 from rfl, hm6.drew.cell, wordsK_get _ _ _ sl0]
                        have e3 : wr.drew.cell? ⟨w.heap.size + 1 + 1, sig r 1, none⟩ = some (.int .u32 (wordsOf buf (sig r 1))) := by rw [show w.heap.size + 1 + 1 = w.heap.size + 2 from rfl, hm6.drew.cell, wordsK_get _ _ _ sl1]
                        have hv7 : Blk wr.drew wo.heap.size 60 (wordsK .u32 16 (mixesF (wordsOf buf) r V 0)) := hv6
                        have hs7 : Blk wr.drew w5.heap.size 67 (sigI r) := hs6
                        have hm7 : Blk wr.drew (w.heap.size + 2) 60 (wordsK .u32 16 (wordsOf buf)) := hm6
                        have hg7 := gb_drew hg6
                        clear hv6 hs6 hm6 hg6
                        have C : ∀ (X Y : Int) (W : World), Calls Tryd.prog 33 #[.agg (wordsK .u32 16 (mixesF (wordsOf buf) r V 0)), .int .i64 0, .int .i64 4, .int .i64 8, .int .i64 12, .int .u32 X, .int .u32 Y] W fun e w' =>
                          e = .returned (.agg (wordsK .u32 16 (mixF (mixesF (wordsOf buf) r V 0) 0 4 8 12 X Y))) ∧ W.grownBy w' none := fun X Y W => by
                          have := refmix_any 0 4 8 12 (mixesF (wordsOf buf) r V 0) X Y W (by omega) (by omega) (by omega) (by omega) (by omega) (by omega) (by omega) (by omega) (by omega) (by omega)
                          simpa using this
                        have HE := Bx.mk (show mixF (mixesF (wordsOf buf) r V 0) 0 4 8 12 (wordsOf buf (sig r 0)) (wordsOf buf (sig r 1)) = mixesF (wordsOf buf) r V 1 by rw [mixesF_step (wordsOf buf) r V 0, show lan 0 0 = 0 from rfl, show lan 0 1 = 4 from rfl, show lan 0 2 = 8 from rfl, show lan 0 3 = 12 from rfl])
                        have HC' := Lib.hid C
                        clear C
                        have wz0 : IntKind.i64.wrap 0 = 0 := by decide +kernel
                        have wz1 : IntKind.i64.wrap 1 = 1 := by decide +kernel
                        have wz4 : IntKind.i64.wrap 4 = 4 := by decide +kernel
                        have wz8 : IntKind.i64.wrap 8 = 8 := by decide +kernel
                        have wz12 : IntKind.i64.wrap 12 = 12 := by decide +kernel
                        have hno : ∀ g : Nat, some g ≠ (none : Option Nat) := fun g => by simp
                        go_upto_region 24 with fail
                        go_still_tail 21, (by kernel_rfl)
                        change wpStill _ _ wr.drew _ _ _
                        refine wpStill_load_blk rfl 60 _ rfl wo.heap.size rfl hv7 _ HU16.out rfl (HJ16.out _) ?_
                        repeat still_step
                        refine wpStill_nil ?_
                        change wpList _ _ _ _ _ wr.drew
                        generalize wr.drew = w7 at e0 e1 e2 e3 hv7 hs7 hm7 hg7 ⊢
                        go_wp2_with fail
                        refine (HC'.out _ _ _).mono ?_
                        rintro e w8 ⟨rfl, hg8⟩
                        rw [HE.out]
                        have hv8 := hv7.grown hg8 (hno _)
                        have hs8 := hs7.grown hg8 (hno _)
                        have hm8 := hm7.grown hg8 (hno _)
                        have hg9 := gb_trans hg7 (gb_some hg8 _)
                        have hst := run_store_blk (P := Tryd.prog) hv8 (wordsK .u32 16 (mixesF (wordsOf buf) r V 1)) (by simp [wordsK]) (words_one _ _)
                        clear e0 e1 e2 e3 hv7 hs7 hm7 hg7
                        go_wp2_with fail
                        clear hst
                        have REL := Lib.hid (And.intro (hv8.whole (wordsK .u32 16 (mixesF (wordsOf buf) r V 1)) (by simp [wordsK])) (And.intro (hs8.farCells (b := wo.heap.size) (by omega) 0 (wordsK .u32 16 (mixesF (wordsOf buf) r V 1)).toList) (And.intro (hm8.farCells (b := wo.heap.size) (by omega) 0 (wordsK .u32 16 (mixesF (wordsOf buf) r V 1)).toList) (gb_setCells_at hg9 0 (wordsK .u32 16 (mixesF (wordsOf buf) r V 1)).toList))))
                        go_roundw
                        case rel => first | exact ⟨1, by omega, rfl, REL.out⟩ | ((repeat apply Exists.intro); exact ⟨⟨1, by omega, rfl, REL.out⟩, rfl⟩)
                        case measure => simp [intOf]
                    · as_aux_lemma =>
                        have sl0 := sig_lt hlt (show 2 < 16 by omega)
                        have sl1 := sig_lt hlt (show 3 < 16 by omega)
                        have si0 : (sig r 2 : Int) < 16 := by omega
                        have si1 : (sig r 3 : Int) < 16 := by omega
                        have e0 : wr.drew.cell? ⟨w5.heap.size, 2, none⟩ = some (.int .i64 (sig r 2)) := by rw [hs6.drew.cell, sigI, wordsK_get _ _ _ (by omega)]
                        have e1 : wr.drew.cell? ⟨w5.heap.size, 3, none⟩ = some (.int .i64 (sig r 3)) := by rw [hs6.drew.cell, sigI, wordsK_get _ _ _ (by omega)]
                        have e2 : wr.drew.cell? ⟨w.heap.size + 1 + 1, sig r 2, none⟩ = some (.int .u32 (wordsOf buf (sig r 2))) := by rw [show w.heap.size + 1 + 1 = w.heap.size + 2 from rfl, hm6.drew.cell, wordsK_get _ _ _ sl0]
                        have e3 : wr.drew.cell? ⟨w.heap.size + 1 + 1, sig r 3, none⟩ = some (.int .u32 (wordsOf buf (sig r 3))) := by rw [show w.heap.size + 1 + 1 = w.heap.size + 2 from rfl, hm6.drew.cell, wordsK_get _ _ _ sl1]
                        have hv7 : Blk wr.drew wo.heap.size 60 (wordsK .u32 16 (mixesF (wordsOf buf) r V 1)) := hv6
                        have hs7 : Blk wr.drew w5.heap.size 67 (sigI r) := hs6
                        have hm7 : Blk wr.drew (w.heap.size + 2) 60 (wordsK .u32 16 (wordsOf buf)) := hm6
                        have hg7 := gb_drew hg6
                        clear hv6 hs6 hm6 hg6
                        have C : ∀ (X Y : Int) (W : World), Calls Tryd.prog 33 #[.agg (wordsK .u32 16 (mixesF (wordsOf buf) r V 1)), .int .i64 1, .int .i64 5, .int .i64 9, .int .i64 13, .int .u32 X, .int .u32 Y] W fun e w' =>
                          e = .returned (.agg (wordsK .u32 16 (mixF (mixesF (wordsOf buf) r V 1) 1 5 9 13 X Y))) ∧ W.grownBy w' none := fun X Y W => by
                          have := refmix_any 1 5 9 13 (mixesF (wordsOf buf) r V 1) X Y W (by omega) (by omega) (by omega) (by omega) (by omega) (by omega) (by omega) (by omega) (by omega) (by omega)
                          simpa using this
                        have HE := Bx.mk (show mixF (mixesF (wordsOf buf) r V 1) 1 5 9 13 (wordsOf buf (sig r 2)) (wordsOf buf (sig r 3)) = mixesF (wordsOf buf) r V 2 by rw [mixesF_step (wordsOf buf) r V 1, show lan 1 0 = 1 from rfl, show lan 1 1 = 5 from rfl, show lan 1 2 = 9 from rfl, show lan 1 3 = 13 from rfl])
                        have HC' := Lib.hid C
                        clear C
                        have wz1 : IntKind.i64.wrap 1 = 1 := by decide +kernel
                        have wz2 : IntKind.i64.wrap 2 = 2 := by decide +kernel
                        have wz3 : IntKind.i64.wrap 3 = 3 := by decide +kernel
                        have wz5 : IntKind.i64.wrap 5 = 5 := by decide +kernel
                        have wz9 : IntKind.i64.wrap 9 = 9 := by decide +kernel
                        have wz13 : IntKind.i64.wrap 13 = 13 := by decide +kernel
                        have hno : ∀ g : Nat, some g ≠ (none : Option Nat) := fun g => by simp
                        go_upto_region 24 with fail
                        go_still_tail 21, (by kernel_rfl)
                        change wpStill _ _ wr.drew _ _ _
                        refine wpStill_load_blk rfl 60 _ rfl wo.heap.size rfl hv7 _ HU16.out rfl (HJ16.out _) ?_
                        repeat still_step
                        refine wpStill_nil ?_
                        change wpList _ _ _ _ _ wr.drew
                        generalize wr.drew = w7 at e0 e1 e2 e3 hv7 hs7 hm7 hg7 ⊢
                        go_wp2_with fail
                        refine (HC'.out _ _ _).mono ?_
                        rintro e w8 ⟨rfl, hg8⟩
                        rw [HE.out]
                        have hv8 := hv7.grown hg8 (hno _)
                        have hs8 := hs7.grown hg8 (hno _)
                        have hm8 := hm7.grown hg8 (hno _)
                        have hg9 := gb_trans hg7 (gb_some hg8 _)
                        have hst := run_store_blk (P := Tryd.prog) hv8 (wordsK .u32 16 (mixesF (wordsOf buf) r V 2)) (by simp [wordsK]) (words_one _ _)
                        clear e0 e1 e2 e3 hv7 hs7 hm7 hg7
                        go_wp2_with fail
                        clear hst
                        have REL := Lib.hid (And.intro (hv8.whole (wordsK .u32 16 (mixesF (wordsOf buf) r V 2)) (by simp [wordsK])) (And.intro (hs8.farCells (b := wo.heap.size) (by omega) 0 (wordsK .u32 16 (mixesF (wordsOf buf) r V 2)).toList) (And.intro (hm8.farCells (b := wo.heap.size) (by omega) 0 (wordsK .u32 16 (mixesF (wordsOf buf) r V 2)).toList) (gb_setCells_at hg9 0 (wordsK .u32 16 (mixesF (wordsOf buf) r V 2)).toList))))
                        go_roundw
                        case rel => first | exact ⟨2, by omega, rfl, REL.out⟩ | ((repeat apply Exists.intro); exact ⟨⟨2, by omega, rfl, REL.out⟩, rfl⟩)
                        case measure => simp [intOf]
                    · as_aux_lemma =>
                        have sl0 := sig_lt hlt (show 4 < 16 by omega)
                        have sl1 := sig_lt hlt (show 5 < 16 by omega)
                        have si0 : (sig r 4 : Int) < 16 := by omega
                        have si1 : (sig r 5 : Int) < 16 := by omega
                        have e0 : wr.drew.cell? ⟨w5.heap.size, 4, none⟩ = some (.int .i64 (sig r 4)) := by rw [hs6.drew.cell, sigI, wordsK_get _ _ _ (by omega)]
                        have e1 : wr.drew.cell? ⟨w5.heap.size, 5, none⟩ = some (.int .i64 (sig r 5)) := by rw [hs6.drew.cell, sigI, wordsK_get _ _ _ (by omega)]
                        have e2 : wr.drew.cell? ⟨w.heap.size + 1 + 1, sig r 4, none⟩ = some (.int .u32 (wordsOf buf (sig r 4))) := by rw [show w.heap.size + 1 + 1 = w.heap.size + 2 from rfl, hm6.drew.cell, wordsK_get _ _ _ sl0]
                        have e3 : wr.drew.cell? ⟨w.heap.size + 1 + 1, sig r 5, none⟩ = some (.int .u32 (wordsOf buf (sig r 5))) := by rw [show w.heap.size + 1 + 1 = w.heap.size + 2 from rfl, hm6.drew.cell, wordsK_get _ _ _ sl1]
                        have hv7 : Blk wr.drew wo.heap.size 60 (wordsK .u32 16 (mixesF (wordsOf buf) r V 2)) := hv6
                        have hs7 : Blk wr.drew w5.heap.size 67 (sigI r) := hs6
                        have hm7 : Blk wr.drew (w.heap.size + 2) 60 (wordsK .u32 16 (wordsOf buf)) := hm6
                        have hg7 := gb_drew hg6
                        clear hv6 hs6 hm6 hg6
                        have C : ∀ (X Y : Int) (W : World), Calls Tryd.prog 33 #[.agg (wordsK .u32 16 (mixesF (wordsOf buf) r V 2)), .int .i64 2, .int .i64 6, .int .i64 10, .int .i64 14, .int .u32 X, .int .u32 Y] W fun e w' =>
                          e = .returned (.agg (wordsK .u32 16 (mixF (mixesF (wordsOf buf) r V 2) 2 6 10 14 X Y))) ∧ W.grownBy w' none := fun X Y W => by
                          have := refmix_any 2 6 10 14 (mixesF (wordsOf buf) r V 2) X Y W (by omega) (by omega) (by omega) (by omega) (by omega) (by omega) (by omega) (by omega) (by omega) (by omega)
                          simpa using this
                        have HE := Bx.mk (show mixF (mixesF (wordsOf buf) r V 2) 2 6 10 14 (wordsOf buf (sig r 4)) (wordsOf buf (sig r 5)) = mixesF (wordsOf buf) r V 3 by rw [mixesF_step (wordsOf buf) r V 2, show lan 2 0 = 2 from rfl, show lan 2 1 = 6 from rfl, show lan 2 2 = 10 from rfl, show lan 2 3 = 14 from rfl])
                        have HC' := Lib.hid C
                        clear C
                        have wz2 : IntKind.i64.wrap 2 = 2 := by decide +kernel
                        have wz4 : IntKind.i64.wrap 4 = 4 := by decide +kernel
                        have wz5 : IntKind.i64.wrap 5 = 5 := by decide +kernel
                        have wz6 : IntKind.i64.wrap 6 = 6 := by decide +kernel
                        have wz10 : IntKind.i64.wrap 10 = 10 := by decide +kernel
                        have wz14 : IntKind.i64.wrap 14 = 14 := by decide +kernel
                        have hno : ∀ g : Nat, some g ≠ (none : Option Nat) := fun g => by simp
                        go_upto_region 24 with fail
                        go_still_tail 21, (by kernel_rfl)
                        change wpStill _ _ wr.drew _ _ _
                        refine wpStill_load_blk rfl 60 _ rfl wo.heap.size rfl hv7 _ HU16.out rfl (HJ16.out _) ?_
                        repeat still_step
                        refine wpStill_nil ?_
                        change wpList _ _ _ _ _ wr.drew
                        generalize wr.drew = w7 at e0 e1 e2 e3 hv7 hs7 hm7 hg7 ⊢
                        go_wp2_with fail
                        refine (HC'.out _ _ _).mono ?_
                        rintro e w8 ⟨rfl, hg8⟩
                        rw [HE.out]
                        have hv8 := hv7.grown hg8 (hno _)
                        have hs8 := hs7.grown hg8 (hno _)
                        have hm8 := hm7.grown hg8 (hno _)
                        have hg9 := gb_trans hg7 (gb_some hg8 _)
                        have hst := run_store_blk (P := Tryd.prog) hv8 (wordsK .u32 16 (mixesF (wordsOf buf) r V 3)) (by simp [wordsK]) (words_one _ _)
                        clear e0 e1 e2 e3 hv7 hs7 hm7 hg7
                        go_wp2_with fail
                        clear hst
                        have REL := Lib.hid (And.intro (hv8.whole (wordsK .u32 16 (mixesF (wordsOf buf) r V 3)) (by simp [wordsK])) (And.intro (hs8.farCells (b := wo.heap.size) (by omega) 0 (wordsK .u32 16 (mixesF (wordsOf buf) r V 3)).toList) (And.intro (hm8.farCells (b := wo.heap.size) (by omega) 0 (wordsK .u32 16 (mixesF (wordsOf buf) r V 3)).toList) (gb_setCells_at hg9 0 (wordsK .u32 16 (mixesF (wordsOf buf) r V 3)).toList))))
                        go_roundw
                        case rel => first | exact ⟨3, by omega, rfl, REL.out⟩ | ((repeat apply Exists.intro); exact ⟨⟨3, by omega, rfl, REL.out⟩, rfl⟩)
                        case measure => simp [intOf]
                    · as_aux_lemma =>
                        have sl0 := sig_lt hlt (show 6 < 16 by omega)
                        have sl1 := sig_lt hlt (show 7 < 16 by omega)
                        have si0 : (sig r 6 : Int) < 16 := by omega
                        have si1 : (sig r 7 : Int) < 16 := by omega
                        have e0 : wr.drew.cell? ⟨w5.heap.size, 6, none⟩ = some (.int .i64 (sig r 6)) := by rw [hs6.drew.cell, sigI, wordsK_get _ _ _ (by omega)]
                        have e1 : wr.drew.cell? ⟨w5.heap.size, 7, none⟩ = some (.int .i64 (sig r 7)) := by rw [hs6.drew.cell, sigI, wordsK_get _ _ _ (by omega)]
                        have e2 : wr.drew.cell? ⟨w.heap.size + 1 + 1, sig r 6, none⟩ = some (.int .u32 (wordsOf buf (sig r 6))) := by rw [show w.heap.size + 1 + 1 = w.heap.size + 2 from rfl, hm6.drew.cell, wordsK_get _ _ _ sl0]
                        have e3 : wr.drew.cell? ⟨w.heap.size + 1 + 1, sig r 7, none⟩ = some (.int .u32 (wordsOf buf (sig r 7))) := by rw [show w.heap.size + 1 + 1 = w.heap.size + 2 from rfl, hm6.drew.cell, wordsK_get _ _ _ sl1]
                        have hv7 : Blk wr.drew wo.heap.size 60 (wordsK .u32 16 (mixesF (wordsOf buf) r V 3)) := hv6
                        have hs7 : Blk wr.drew w5.heap.size 67 (sigI r) := hs6
                        have hm7 : Blk wr.drew (w.heap.size + 2) 60 (wordsK .u32 16 (wordsOf buf)) := hm6
                        have hg7 := gb_drew hg6
                        clear hv6 hs6 hm6 hg6
                        have C : ∀ (X Y : Int) (W : World), Calls Tryd.prog 33 #[.agg (wordsK .u32 16 (mixesF (wordsOf buf) r V 3)), .int .i64 3, .int .i64 7, .int .i64 11, .int .i64 15, .int .u32 X, .int .u32 Y] W fun e w' =>
                          e = .returned (.agg (wordsK .u32 16 (mixF (mixesF (wordsOf buf) r V 3) 3 7 11 15 X Y))) ∧ W.grownBy w' none := fun X Y W => by
                          have := refmix_any 3 7 11 15 (mixesF (wordsOf buf) r V 3) X Y W (by omega) (by omega) (by omega) (by omega) (by omega) (by omega) (by omega) (by omega) (by omega) (by omega)
                          simpa using this
                        have HE := Bx.mk (show mixF (mixesF (wordsOf buf) r V 3) 3 7 11 15 (wordsOf buf (sig r 6)) (wordsOf buf (sig r 7)) = mixesF (wordsOf buf) r V 4 by rw [mixesF_step (wordsOf buf) r V 3, show lan 3 0 = 3 from rfl, show lan 3 1 = 7 from rfl, show lan 3 2 = 11 from rfl, show lan 3 3 = 15 from rfl])
                        have HC' := Lib.hid C
                        clear C
                        have wz3 : IntKind.i64.wrap 3 = 3 := by decide +kernel
                        have wz6 : IntKind.i64.wrap 6 = 6 := by decide +kernel
                        have wz7 : IntKind.i64.wrap 7 = 7 := by decide +kernel
                        have wz11 : IntKind.i64.wrap 11 = 11 := by decide +kernel
                        have wz15 : IntKind.i64.wrap 15 = 15 := by decide +kernel
                        have hno : ∀ g : Nat, some g ≠ (none : Option Nat) := fun g => by simp
                        go_upto_region 24 with fail
                        go_still_tail 21, (by kernel_rfl)
                        change wpStill _ _ wr.drew _ _ _
                        refine wpStill_load_blk rfl 60 _ rfl wo.heap.size rfl hv7 _ HU16.out rfl (HJ16.out _) ?_
                        repeat still_step
                        refine wpStill_nil ?_
                        change wpList _ _ _ _ _ wr.drew
                        generalize wr.drew = w7 at e0 e1 e2 e3 hv7 hs7 hm7 hg7 ⊢
                        go_wp2_with fail
                        refine (HC'.out _ _ _).mono ?_
                        rintro e w8 ⟨rfl, hg8⟩
                        rw [HE.out]
                        have hv8 := hv7.grown hg8 (hno _)
                        have hs8 := hs7.grown hg8 (hno _)
                        have hm8 := hm7.grown hg8 (hno _)
                        have hg9 := gb_trans hg7 (gb_some hg8 _)
                        have hst := run_store_blk (P := Tryd.prog) hv8 (wordsK .u32 16 (mixesF (wordsOf buf) r V 4)) (by simp [wordsK]) (words_one _ _)
                        clear e0 e1 e2 e3 hv7 hs7 hm7 hg7
                        go_wp2_with fail
                        clear hst
                        have REL := Lib.hid (And.intro (hv8.whole (wordsK .u32 16 (mixesF (wordsOf buf) r V 4)) (by simp [wordsK])) (And.intro (hs8.farCells (b := wo.heap.size) (by omega) 0 (wordsK .u32 16 (mixesF (wordsOf buf) r V 4)).toList) (And.intro (hm8.farCells (b := wo.heap.size) (by omega) 0 (wordsK .u32 16 (mixesF (wordsOf buf) r V 4)).toList) (gb_setCells_at hg9 0 (wordsK .u32 16 (mixesF (wordsOf buf) r V 4)).toList))))
                        go_roundw
                        case rel => first | exact ⟨4, by omega, rfl, REL.out⟩ | ((repeat apply Exists.intro); exact ⟨⟨4, by omega, rfl, REL.out⟩, rfl⟩)
                        case measure => simp [intOf]
                  · obtain rfl : k = 4 := by omega
                    go_wp2_with fail
                    go_loopw [17] (fun cv wr => ∃ k : Nat, k ≤ 4 ∧ cv = .int .i64 k ∧ Blk wr wo.heap.size 60 (wordsK .u32 16 (mixesF (wordsOf buf) r V (4 + k))) ∧ Blk wr w5.heap.size 67 (sigI r) ∧ Blk wr (w.heap.size + 2) 60 (wordsK .u32 16 (wordsOf buf)) ∧ w4.grownBy wr (some wo.heap.size)) (fun cv _ => 4 - (intOf cv).toNat)
                    case atStart => exact ⟨0, by omega, rfl, hv6, hs6, hm6, hg6⟩
                    case round =>
                      obtain ⟨k, hk4, rfl, hvb, hsb, hmb, hgb⟩ := hrel
                      clear hv6 hs6 hm6 hg6
                      by_cases hlk : k < 4
                      · rcases (show k = 0 ∨ k = 1 ∨ k = 2 ∨ k = 3 from by omega) with rfl | rfl | rfl | rfl
                        · as_aux_lemma =>
                            have sl0 := sig_lt hlt (show 8 < 16 by omega)
                            have sl1 := sig_lt hlt (show 9 < 16 by omega)
                            have si0 : (sig r 8 : Int) < 16 := by omega
                            have si1 : (sig r 9 : Int) < 16 := by omega
                            have e0 : wr.drew.cell? ⟨w5.heap.size, 8, none⟩ = some (.int .i64 (sig r 8)) := by rw [hsb.drew.cell, sigI, wordsK_get _ _ _ (by omega)]
                            have e1 : wr.drew.cell? ⟨w5.heap.size, 9, none⟩ = some (.int .i64 (sig r 9)) := by rw [hsb.drew.cell, sigI, wordsK_get _ _ _ (by omega)]
                            have e2 : wr.drew.cell? ⟨w.heap.size + 1 + 1, sig r 8, none⟩ = some (.int .u32 (wordsOf buf (sig r 8))) := by rw [show w.heap.size + 1 + 1 = w.heap.size + 2 from rfl, hmb.drew.cell, wordsK_get _ _ _ sl0]
                            have e3 : wr.drew.cell? ⟨w.heap.size + 1 + 1, sig r 9, none⟩ = some (.int .u32 (wordsOf buf (sig r 9))) := by rw [show w.heap.size + 1 + 1 = w.heap.size + 2 from rfl, hmb.drew.cell, wordsK_get _ _ _ sl1]
                            have hv7 : Blk wr.drew wo.heap.size 60 (wordsK .u32 16 (mixesF (wordsOf buf) r V 4)) := hvb
                            have hs7 : Blk wr.drew w5.heap.size 67 (sigI r) := hsb
                            have hm7 : Blk wr.drew (w.heap.size + 2) 60 (wordsK .u32 16 (wordsOf buf)) := hmb
                            have hg7 := gb_drew hgb
                            clear hvb hsb hmb hgb
                            have C : ∀ (X Y : Int) (W : World), Calls Tryd.prog 33 #[.agg (wordsK .u32 16 (mixesF (wordsOf buf) r V 4)), .int .i64 0, .int .i64 5, .int .i64 10, .int .i64 15, .int .u32 X, .int .u32 Y] W fun e w' =>
                              e = .returned (.agg (wordsK .u32 16 (mixF (mixesF (wordsOf buf) r V 4) 0 5 10 15 X Y))) ∧ W.grownBy w' none := fun X Y W => by
                              have := refmix_any 0 5 10 15 (mixesF (wordsOf buf) r V 4) X Y W (by omega) (by omega) (by omega) (by omega) (by omega) (by omega) (by omega) (by omega) (by omega) (by omega)
                              simpa using this
                            have HE := Bx.mk (show mixF (mixesF (wordsOf buf) r V 4) 0 5 10 15 (wordsOf buf (sig r 8)) (wordsOf buf (sig r 9)) = mixesF (wordsOf buf) r V 5 by rw [mixesF_step (wordsOf buf) r V 4, show lan 4 0 = 0 from rfl, show lan 4 1 = 5 from rfl, show lan 4 2 = 10 from rfl, show lan 4 3 = 15 from rfl])
                            have HC' := Lib.hid C
                            clear C
                            have wz0 : IntKind.i64.wrap 0 = 0 := by decide +kernel
                            have wz1 : IntKind.i64.wrap 1 = 1 := by decide +kernel
                            have wz2 : IntKind.i64.wrap 2 = 2 := by decide +kernel
                            have wz3 : IntKind.i64.wrap 3 = 3 := by decide +kernel
                            have wz5 : IntKind.i64.wrap 5 = 5 := by decide +kernel
                            have wz8 : IntKind.i64.wrap 8 = 8 := by decide +kernel
                            have wz9 : IntKind.i64.wrap 9 = 9 := by decide +kernel
                            have wz10 : IntKind.i64.wrap 10 = 10 := by decide +kernel
                            have wz15 : IntKind.i64.wrap 15 = 15 := by decide +kernel
                            have hno : ∀ g : Nat, some g ≠ (none : Option Nat) := fun g => by simp
                            go_upto_region 28 with fail
                            go_still_tail 28, (by kernel_rfl)
                            change wpStill _ _ wr.drew _ _ _
                            refine wpStill_load_blk rfl 60 _ rfl wo.heap.size rfl hv7 _ HU16.out rfl (HJ16.out _) ?_
                            repeat still_step
                            refine wpStill_nil ?_
                            change wpList _ _ _ _ _ wr.drew
                            generalize wr.drew = w7 at e0 e1 e2 e3 hv7 hs7 hm7 hg7 ⊢
                            go_wp2_with fail
                            refine (HC'.out _ _ _).mono ?_
                            rintro e w8 ⟨rfl, hg8⟩
                            rw [HE.out]
                            have hv8 := hv7.grown hg8 (hno _)
                            have hs8 := hs7.grown hg8 (hno _)
                            have hm8 := hm7.grown hg8 (hno _)
                            have hg9 := gb_trans hg7 (gb_some hg8 _)
                            have hst := run_store_blk (P := Tryd.prog) hv8 (wordsK .u32 16 (mixesF (wordsOf buf) r V 5)) (by simp [wordsK]) (words_one _ _)
                            clear e0 e1 e2 e3 hv7 hs7 hm7 hg7
                            go_wp2_with fail
                            clear hst
                            have REL := Lib.hid (And.intro (hv8.whole (wordsK .u32 16 (mixesF (wordsOf buf) r V 5)) (by simp [wordsK])) (And.intro (hs8.farCells (b := wo.heap.size) (by omega) 0 (wordsK .u32 16 (mixesF (wordsOf buf) r V 5)).toList) (And.intro (hm8.farCells (b := wo.heap.size) (by omega) 0 (wordsK .u32 16 (mixesF (wordsOf buf) r V 5)).toList) (gb_setCells_at hg9 0 (wordsK .u32 16 (mixesF (wordsOf buf) r V 5)).toList))))
                            go_roundw
                            case rel => first | exact ⟨1, by omega, rfl, REL.out⟩ | ((repeat apply Exists.intro); exact ⟨⟨1, by omega, rfl, REL.out⟩, rfl⟩)
                            case measure => simp [intOf]
                        · as_aux_lemma =>
                            have sl0 := sig_lt hlt (show 10 < 16 by omega)
                            have sl1 := sig_lt hlt (show 11 < 16 by omega)
                            have si0 : (sig r 10 : Int) < 16 := by omega
                            have si1 : (sig r 11 : Int) < 16 := by omega
                            have e0 : wr.drew.cell? ⟨w5.heap.size, 10, none⟩ = some (.int .i64 (sig r 10)) := by rw [hsb.drew.cell, sigI, wordsK_get _ _ _ (by omega)]
                            have e1 : wr.drew.cell? ⟨w5.heap.size, 11, none⟩ = some (.int .i64 (sig r 11)) := by rw [hsb.drew.cell, sigI, wordsK_get _ _ _ (by omega)]
                            have e2 : wr.drew.cell? ⟨w.heap.size + 1 + 1, sig r 10, none⟩ = some (.int .u32 (wordsOf buf (sig r 10))) := by rw [show w.heap.size + 1 + 1 = w.heap.size + 2 from rfl, hmb.drew.cell, wordsK_get _ _ _ sl0]
                            have e3 : wr.drew.cell? ⟨w.heap.size + 1 + 1, sig r 11, none⟩ = some (.int .u32 (wordsOf buf (sig r 11))) := by rw [show w.heap.size + 1 + 1 = w.heap.size + 2 from rfl, hmb.drew.cell, wordsK_get _ _ _ sl1]
                            have hv7 : Blk wr.drew wo.heap.size 60 (wordsK .u32 16 (mixesF (wordsOf buf) r V 5)) := hvb
                            have hs7 : Blk wr.drew w5.heap.size 67 (sigI r) := hsb
                            have hm7 : Blk wr.drew (w.heap.size + 2) 60 (wordsK .u32 16 (wordsOf buf)) := hmb
                            have hg7 := gb_drew hgb
                            clear hvb hsb hmb hgb
                            have C : ∀ (X Y : Int) (W : World), Calls Tryd.prog 33 #[.agg (wordsK .u32 16 (mixesF (wordsOf buf) r V 5)), .int .i64 1, .int .i64 6, .int .i64 11, .int .i64 12, .int .u32 X, .int .u32 Y] W fun e w' =>
                              e = .returned (.agg (wordsK .u32 16 (mixF (mixesF (wordsOf buf) r V 5) 1 6 11 12 X Y))) ∧ W.grownBy w' none := fun X Y W => by
                              have := refmix_any 1 6 11 12 (mixesF (wordsOf buf) r V 5) X Y W (by omega) (by omega) (by omega) (by omega) (by omega) (by omega) (by omega) (by omega) (by omega) (by omega)
                              simpa using this
                            have HE := Bx.mk (show mixF (mixesF (wordsOf buf) r V 5) 1 6 11 12 (wordsOf buf (sig r 10)) (wordsOf buf (sig r 11)) = mixesF (wordsOf buf) r V 6 by rw [mixesF_step (wordsOf buf) r V 5, show lan 5 0 = 1 from rfl, show lan 5 1 = 6 from rfl, show lan 5 2 = 11 from rfl, show lan 5 3 = 12 from rfl])
                            have HC' := Lib.hid C
                            clear C
                            have wz0 : IntKind.i64.wrap 0 = 0 := by decide +kernel
                            have wz1 : IntKind.i64.wrap 1 = 1 := by decide +kernel
                            have wz2 : IntKind.i64.wrap 2 = 2 := by decide +kernel
                            have wz3 : IntKind.i64.wrap 3 = 3 := by decide +kernel
                            have wz4 : IntKind.i64.wrap 4 = 4 := by decide +kernel
                            have wz6 : IntKind.i64.wrap 6 = 6 := by decide +kernel
                            have wz10 : IntKind.i64.wrap 10 = 10 := by decide +kernel
                            have wz11 : IntKind.i64.wrap 11 = 11 := by decide +kernel
                            have wz12 : IntKind.i64.wrap 12 = 12 := by decide +kernel
                            have hno : ∀ g : Nat, some g ≠ (none : Option Nat) := fun g => by simp
                            go_upto_region 28 with fail
                            go_still_tail 28, (by kernel_rfl)
                            change wpStill _ _ wr.drew _ _ _
                            refine wpStill_load_blk rfl 60 _ rfl wo.heap.size rfl hv7 _ HU16.out rfl (HJ16.out _) ?_
                            repeat still_step
                            refine wpStill_nil ?_
                            change wpList _ _ _ _ _ wr.drew
                            generalize wr.drew = w7 at e0 e1 e2 e3 hv7 hs7 hm7 hg7 ⊢
                            go_wp2_with fail
                            refine (HC'.out _ _ _).mono ?_
                            rintro e w8 ⟨rfl, hg8⟩
                            rw [HE.out]
                            have hv8 := hv7.grown hg8 (hno _)
                            have hs8 := hs7.grown hg8 (hno _)
                            have hm8 := hm7.grown hg8 (hno _)
                            have hg9 := gb_trans hg7 (gb_some hg8 _)
                            have hst := run_store_blk (P := Tryd.prog) hv8 (wordsK .u32 16 (mixesF (wordsOf buf) r V 6)) (by simp [wordsK]) (words_one _ _)
                            clear e0 e1 e2 e3 hv7 hs7 hm7 hg7
                            go_wp2_with fail
                            clear hst
                            have REL := Lib.hid (And.intro (hv8.whole (wordsK .u32 16 (mixesF (wordsOf buf) r V 6)) (by simp [wordsK])) (And.intro (hs8.farCells (b := wo.heap.size) (by omega) 0 (wordsK .u32 16 (mixesF (wordsOf buf) r V 6)).toList) (And.intro (hm8.farCells (b := wo.heap.size) (by omega) 0 (wordsK .u32 16 (mixesF (wordsOf buf) r V 6)).toList) (gb_setCells_at hg9 0 (wordsK .u32 16 (mixesF (wordsOf buf) r V 6)).toList))))
                            go_roundw
                            case rel => first | exact ⟨2, by omega, rfl, REL.out⟩ | ((repeat apply Exists.intro); exact ⟨⟨2, by omega, rfl, REL.out⟩, rfl⟩)
                            case measure => simp [intOf]
                        · as_aux_lemma =>
                            have sl0 := sig_lt hlt (show 12 < 16 by omega)
                            have sl1 := sig_lt hlt (show 13 < 16 by omega)
                            have si0 : (sig r 12 : Int) < 16 := by omega
                            have si1 : (sig r 13 : Int) < 16 := by omega
                            have e0 : wr.drew.cell? ⟨w5.heap.size, 12, none⟩ = some (.int .i64 (sig r 12)) := by rw [hsb.drew.cell, sigI, wordsK_get _ _ _ (by omega)]
                            have e1 : wr.drew.cell? ⟨w5.heap.size, 13, none⟩ = some (.int .i64 (sig r 13)) := by rw [hsb.drew.cell, sigI, wordsK_get _ _ _ (by omega)]
                            have e2 : wr.drew.cell? ⟨w.heap.size + 1 + 1, sig r 12, none⟩ = some (.int .u32 (wordsOf buf (sig r 12))) := by rw [show w.heap.size + 1 + 1 = w.heap.size + 2 from rfl, hmb.drew.cell, wordsK_get _ _ _ sl0]
                            have e3 : wr.drew.cell? ⟨w.heap.size + 1 + 1, sig r 13, none⟩ = some (.int .u32 (wordsOf buf (sig r 13))) := by rw [show w.heap.size + 1 + 1 = w.heap.size + 2 from rfl, hmb.drew.cell, wordsK_get _ _ _ sl1]
                            have hv7 : Blk wr.drew wo.heap.size 60 (wordsK .u32 16 (mixesF (wordsOf buf) r V 6)) := hvb
                            have hs7 : Blk wr.drew w5.heap.size 67 (sigI r) := hsb
                            have hm7 : Blk wr.drew (w.heap.size + 2) 60 (wordsK .u32 16 (wordsOf buf)) := hmb
                            have hg7 := gb_drew hgb
                            clear hvb hsb hmb hgb
                            have C : ∀ (X Y : Int) (W : World), Calls Tryd.prog 33 #[.agg (wordsK .u32 16 (mixesF (wordsOf buf) r V 6)), .int .i64 2, .int .i64 7, .int .i64 8, .int .i64 13, .int .u32 X, .int .u32 Y] W fun e w' =>
                              e = .returned (.agg (wordsK .u32 16 (mixF (mixesF (wordsOf buf) r V 6) 2 7 8 13 X Y))) ∧ W.grownBy w' none := fun X Y W => by
                              have := refmix_any 2 7 8 13 (mixesF (wordsOf buf) r V 6) X Y W (by omega) (by omega) (by omega) (by omega) (by omega) (by omega) (by omega) (by omega) (by omega) (by omega)
                              simpa using this
                            have HE := Bx.mk (show mixF (mixesF (wordsOf buf) r V 6) 2 7 8 13 (wordsOf buf (sig r 12)) (wordsOf buf (sig r 13)) = mixesF (wordsOf buf) r V 7 by rw [mixesF_step (wordsOf buf) r V 6, show lan 6 0 = 2 from rfl, show lan 6 1 = 7 from rfl, show lan 6 2 = 8 from rfl, show lan 6 3 = 13 from rfl])
                            have HC' := Lib.hid C
                            clear C
                            have wz0 : IntKind.i64.wrap 0 = 0 := by decide +kernel
                            have wz1 : IntKind.i64.wrap 1 = 1 := by decide +kernel
                            have wz2 : IntKind.i64.wrap 2 = 2 := by decide +kernel
                            have wz3 : IntKind.i64.wrap 3 = 3 := by decide +kernel
                            have wz4 : IntKind.i64.wrap 4 = 4 := by decide +kernel
                            have wz5 : IntKind.i64.wrap 5 = 5 := by decide +kernel
                            have wz7 : IntKind.i64.wrap 7 = 7 := by decide +kernel
                            have wz8 : IntKind.i64.wrap 8 = 8 := by decide +kernel
                            have wz12 : IntKind.i64.wrap 12 = 12 := by decide +kernel
                            have wz13 : IntKind.i64.wrap 13 = 13 := by decide +kernel
                            have hno : ∀ g : Nat, some g ≠ (none : Option Nat) := fun g => by simp
                            go_upto_region 28 with fail
                            go_still_tail 28, (by kernel_rfl)
                            change wpStill _ _ wr.drew _ _ _
                            refine wpStill_load_blk rfl 60 _ rfl wo.heap.size rfl hv7 _ HU16.out rfl (HJ16.out _) ?_
                            repeat still_step
                            refine wpStill_nil ?_
                            change wpList _ _ _ _ _ wr.drew
                            generalize wr.drew = w7 at e0 e1 e2 e3 hv7 hs7 hm7 hg7 ⊢
                            go_wp2_with fail
                            refine (HC'.out _ _ _).mono ?_
                            rintro e w8 ⟨rfl, hg8⟩
                            rw [HE.out]
                            have hv8 := hv7.grown hg8 (hno _)
                            have hs8 := hs7.grown hg8 (hno _)
                            have hm8 := hm7.grown hg8 (hno _)
                            have hg9 := gb_trans hg7 (gb_some hg8 _)
                            have hst := run_store_blk (P := Tryd.prog) hv8 (wordsK .u32 16 (mixesF (wordsOf buf) r V 7)) (by simp [wordsK]) (words_one _ _)
                            clear e0 e1 e2 e3 hv7 hs7 hm7 hg7
                            go_wp2_with fail
                            clear hst
                            have REL := Lib.hid (And.intro (hv8.whole (wordsK .u32 16 (mixesF (wordsOf buf) r V 7)) (by simp [wordsK])) (And.intro (hs8.farCells (b := wo.heap.size) (by omega) 0 (wordsK .u32 16 (mixesF (wordsOf buf) r V 7)).toList) (And.intro (hm8.farCells (b := wo.heap.size) (by omega) 0 (wordsK .u32 16 (mixesF (wordsOf buf) r V 7)).toList) (gb_setCells_at hg9 0 (wordsK .u32 16 (mixesF (wordsOf buf) r V 7)).toList))))
                            go_roundw
                            case rel => first | exact ⟨3, by omega, rfl, REL.out⟩ | ((repeat apply Exists.intro); exact ⟨⟨3, by omega, rfl, REL.out⟩, rfl⟩)
                            case measure => simp [intOf]
                        · as_aux_lemma =>
                            have sl0 := sig_lt hlt (show 14 < 16 by omega)
                            have sl1 := sig_lt hlt (show 15 < 16 by omega)
                            have si0 : (sig r 14 : Int) < 16 := by omega
                            have si1 : (sig r 15 : Int) < 16 := by omega
                            have e0 : wr.drew.cell? ⟨w5.heap.size, 14, none⟩ = some (.int .i64 (sig r 14)) := by rw [hsb.drew.cell, sigI, wordsK_get _ _ _ (by omega)]
                            have e1 : wr.drew.cell? ⟨w5.heap.size, 15, none⟩ = some (.int .i64 (sig r 15)) := by rw [hsb.drew.cell, sigI, wordsK_get _ _ _ (by omega)]
                            have e2 : wr.drew.cell? ⟨w.heap.size + 1 + 1, sig r 14, none⟩ = some (.int .u32 (wordsOf buf (sig r 14))) := by rw [show w.heap.size + 1 + 1 = w.heap.size + 2 from rfl, hmb.drew.cell, wordsK_get _ _ _ sl0]
                            have e3 : wr.drew.cell? ⟨w.heap.size + 1 + 1, sig r 15, none⟩ = some (.int .u32 (wordsOf buf (sig r 15))) := by rw [show w.heap.size + 1 + 1 = w.heap.size + 2 from rfl, hmb.drew.cell, wordsK_get _ _ _ sl1]
                            have hv7 : Blk wr.drew wo.heap.size 60 (wordsK .u32 16 (mixesF (wordsOf buf) r V 7)) := hvb
                            have hs7 : Blk wr.drew w5.heap.size 67 (sigI r) := hsb
                            have hm7 : Blk wr.drew (w.heap.size + 2) 60 (wordsK .u32 16 (wordsOf buf)) := hmb
                            have hg7 := gb_drew hgb
                            clear hvb hsb hmb hgb
                            have C : ∀ (X Y : Int) (W : World), Calls Tryd.prog 33 #[.agg (wordsK .u32 16 (mixesF (wordsOf buf) r V 7)), .int .i64 3, .int .i64 4, .int .i64 9, .int .i64 14, .int .u32 X, .int .u32 Y] W fun e w' =>
                              e = .returned (.agg (wordsK .u32 16 (mixF (mixesF (wordsOf buf) r V 7) 3 4 9 14 X Y))) ∧ W.grownBy w' none := fun X Y W => by
                              have := refmix_any 3 4 9 14 (mixesF (wordsOf buf) r V 7) X Y W (by omega) (by omega) (by omega) (by omega) (by omega) (by omega) (by omega) (by omega) (by omega) (by omega)
                              simpa using this
                            have HE := Bx.mk (show mixF (mixesF (wordsOf buf) r V 7) 3 4 9 14 (wordsOf buf (sig r 14)) (wordsOf buf (sig r 15)) = mixesF (wordsOf buf) r V 8 by rw [mixesF_step (wordsOf buf) r V 7, show lan 7 0 = 3 from rfl, show lan 7 1 = 4 from rfl, show lan 7 2 = 9 from rfl, show lan 7 3 = 14 from rfl])
                            have HC' := Lib.hid C
                            clear C
                            have wz0 : IntKind.i64.wrap 0 = 0 := by decide +kernel
                            have wz1 : IntKind.i64.wrap 1 = 1 := by decide +kernel
                            have wz2 : IntKind.i64.wrap 2 = 2 := by decide +kernel
                            have wz3 : IntKind.i64.wrap 3 = 3 := by decide +kernel
                            have wz4 : IntKind.i64.wrap 4 = 4 := by decide +kernel
                            have wz5 : IntKind.i64.wrap 5 = 5 := by decide +kernel
                            have wz6 : IntKind.i64.wrap 6 = 6 := by decide +kernel
                            have wz7 : IntKind.i64.wrap 7 = 7 := by decide +kernel
                            have wz9 : IntKind.i64.wrap 9 = 9 := by decide +kernel
                            have wz14 : IntKind.i64.wrap 14 = 14 := by decide +kernel
                            have wz15 : IntKind.i64.wrap 15 = 15 := by decide +kernel
                            have hno : ∀ g : Nat, some g ≠ (none : Option Nat) := fun g => by simp
                            go_upto_region 28 with fail
                            go_still_tail 28, (by kernel_rfl)
                            change wpStill _ _ wr.drew _ _ _
                            refine wpStill_load_blk rfl 60 _ rfl wo.heap.size rfl hv7 _ HU16.out rfl (HJ16.out _) ?_
                            repeat still_step
                            refine wpStill_nil ?_
                            change wpList _ _ _ _ _ wr.drew
                            generalize wr.drew = w7 at e0 e1 e2 e3 hv7 hs7 hm7 hg7 ⊢
                            go_wp2_with fail
                            refine (HC'.out _ _ _).mono ?_
                            rintro e w8 ⟨rfl, hg8⟩
                            rw [HE.out]
                            have hv8 := hv7.grown hg8 (hno _)
                            have hs8 := hs7.grown hg8 (hno _)
                            have hm8 := hm7.grown hg8 (hno _)
                            have hg9 := gb_trans hg7 (gb_some hg8 _)
                            have hst := run_store_blk (P := Tryd.prog) hv8 (wordsK .u32 16 (mixesF (wordsOf buf) r V 8)) (by simp [wordsK]) (words_one _ _)
                            clear e0 e1 e2 e3 hv7 hs7 hm7 hg7
                            go_wp2_with fail
                            clear hst
                            have REL := Lib.hid (And.intro (hv8.whole (wordsK .u32 16 (mixesF (wordsOf buf) r V 8)) (by simp [wordsK])) (And.intro (hs8.farCells (b := wo.heap.size) (by omega) 0 (wordsK .u32 16 (mixesF (wordsOf buf) r V 8)).toList) (And.intro (hm8.farCells (b := wo.heap.size) (by omega) 0 (wordsK .u32 16 (mixesF (wordsOf buf) r V 8)).toList) (gb_setCells_at hg9 0 (wordsK .u32 16 (mixesF (wordsOf buf) r V 8)).toList))))
                            go_roundw
                            case rel => first | exact ⟨4, by omega, rfl, REL.out⟩ | ((repeat apply Exists.intro); exact ⟨⟨4, by omega, rfl, REL.out⟩, rfl⟩)
                            case measure => simp [intOf]
                      · obtain rfl : k = 4 := by omega
                        go_wp2_with fail
                        go_roundw
                        case rel => exact ⟨r + 1, by omega, by go_num, by rw [roundsF, ← HV.out]; exact hvb, gb_trans hg4 hgb⟩
                        case measure => simp [intOf]; omega
              · have hi3 : ¬ (r : Int) < 10 := by omega
                obtain rfl : r = 10 := by omega
                have hh4 := hh3.grown hg4 (by simp; omega)
                have hr4 := hr3.grown hg4 (by simp; omega)
                have hgw := gb_new hg3 hg4 (by omega)
                obtain ⟨v, hv⟩ : ∃ v, v = roundsF (wordsOf buf) (vStart h t last) 10 := ⟨_, rfl⟩
                have HV := Bx.mk hv
                rw [← hv] at hv4
                have hh5 : Blk w4 w.heap.size 47 (wordsK .u32 8 (hUpTo h v 0)) := by rw [hUpTo_zero]; exact hh4
                clear hv hh4 hm4 hg4 hv3 hh3 hr3 hm3 hg3
                as_aux_lemma =>
                  go_wp2_with fail
                  go_loopw [18] (fun cv wr => ∃ i : Nat, i ≤ 8 ∧ cv = .int .i64 i ∧ Blk wr w.heap.size 47 (wordsK .u32 8 (hUpTo h v i)) ∧ Blk wr wo.heap.size 60 (wordsK .u32 16 v) ∧ Blk wr (w.heap.size + 1) 47 cs ∧ w.grownBy wr none) (fun cv _ => 8 - (intOf cv).toNat)
                  case atStart => exact ⟨0, by omega, rfl, hh5, hv4, hr4, hgw⟩
                  case round =>
                    obtain ⟨i, hi, rfl, hh, hv, hr, hg⟩ := hrel
                    clear hh5 hv4 hr4 hgw
                    by_cases hlt8 : i < 8
                    · have hi1 : (i : Int) < 8 := by omega
                      have q1 : (i : Int) < 16 := by omega
                      have q2 : (i : Int) + 8 < 16 := by omega
                      have q3 : IntKind.i64.wrap ((i : Int) + 8) = (i : Int) + 8 := IntWalk.i64_in _ (by omega)
                      have q4 : ((i : Int) + 8).toNat = i + 8 := by omega
                      have q5 : 0 ≤ (i : Int) + 8 := by omega
                      have c0 : wr.drew.cell? ⟨w.heap.size, i, none⟩ = some (.int .u32 (h i)) := by rw [hh.drew.cell, wordsK_get _ _ _ hlt8, hUpTo_at]
                      have c1 : wr.drew.cell? ⟨wo.heap.size, i, none⟩ = some (.int .u32 (v i)) := by rw [hv.drew.cell, wordsK_get _ _ _ (by omega)]
                      have c2 : wr.drew.cell? ⟨wo.heap.size, i + 8, none⟩ = some (.int .u32 (v (i + 8))) := by rw [hv.drew.cell, wordsK_get _ _ _ (by omega)]
                      have f0 : wr.drew.frozen? ⟨w.heap.size, i, none⟩ = false := hh.frozen i
                      have P1 : Blk (wr.drew.setCell ⟨w.heap.size, i, none⟩ (.int .u32 (bits BinOp.xor IntKind.u32 (bits BinOp.xor IntKind.u32 (h i) (v i)) (v (i + 8))))) w.heap.size 47 (wordsK .u32 8 (hUpTo h v (i + 1))) := by
                        have := hh.drew.put i (.int .u32 (bits BinOp.xor IntKind.u32 (bits BinOp.xor IntKind.u32 (h i) (v i)) (v (i + 8))))
                        rw [wordsK_put _ _ _ hlt8, xor_assoc32, hUpTo_step] at this
                        rw [xor_assoc32]; exact this
                      have P2 := hv.drew.far (p := ⟨w.heap.size, i, none⟩) (by simp; omega) (.int .u32 (bits BinOp.xor IntKind.u32 (bits BinOp.xor IntKind.u32 (h i) (v i)) (v (i + 8))))
                      have P3 := hr.drew.far (p := ⟨w.heap.size, i, none⟩) (by simp) (.int .u32 (bits BinOp.xor IntKind.u32 (bits BinOp.xor IntKind.u32 (h i) (v i)) (v (i + 8))))
                      have P4 := gb_put_new (gb_drew hg) (p := ⟨w.heap.size, i, none⟩) (Nat.le_refl _) (.int .u32 (bits BinOp.xor IntKind.u32 (bits BinOp.xor IntKind.u32 (h i) (v i)) (v (i + 8))))
                      have REL := Lib.hid (And.intro P1 (And.intro P2 (And.intro P3 P4)))
                      clear P1 P2 P3 P4 hh hv hr hg
                      go_upto_region 32 with fail
                      go_still_tail 14, (by kernel_rfl)
                      change wpList _ _ _ _ _ wr.drew
                      generalize wr.drew = w7 at c0 c1 c2 f0 REL ⊢
                      go_wp2_with fail
                      go_roundw
                      case rel => first | exact ⟨i + 1, by omega, by go_num, REL.out⟩ | ((repeat apply Exists.intro); exact ⟨⟨i + 1, by omega, by go_num, REL.out⟩, rfl⟩)
                      case measure => simp [intOf]; omega
                    · have hi1 : ¬ (i : Int) < 8 := by omega
                      obtain rfl : i = 8 := by omega
                      have U8 := Tryd.underlying47
                      have J8 : (Tryd.prog.info? 47).map (·.size) = some (wordsK .u32 8 (hUpTo h v 8)).size := by rw [show (wordsK .u32 8 (hUpTo h v 8)).size = 8 by simp [wordsK]]; kernel_rfl
                      have HU8 := Lib.hid U8
                      have HJ8 := Lib.hid J8
                      clear U8 J8
                      have hst := run_store_blk (P := Tryd.prog) hr (wordsK .u32 8 (hUpTo h v 8)) (by rw [hcz]; simp [wordsK]) (words_one _ _)
                      have FIN := Lib.hid (And.intro (hr.whole (wordsK .u32 8 (hUpTo h v 8)) (by rw [hcz]; simp [wordsK])) (gb_setCells_new hg (b := w.heap.size + 1) (by omega) 0 (wordsK .u32 8 (hUpTo h v 8)).toList))
                      go_wp2_with (refine wpList_load_row rfl 47 _ rfl w.heap.size rfl 47 (wordsK .u32 8 (hUpTo h v 8)) (0, 0) _ hh HU8.out rfl HJ8.out ?_)
                      (try simp only [Exit.inBlock, Exit.then])
                      refine bodyPost_ret (results_cell_row rfl _ _ _ _ _ _ _ rfl FIN.out.1 HU8.out rfl HJ8.out) rfl ?_
                      refine ⟨?_, FIN.out.2⟩
                      rw [compressF, ← HV.out]
end Go.Proofs.YtmedobeogdnkfaaDoor
