/- The walk over the reference's Digest. -/
import Derived.Test.YtmedobeogdnkfaaDoorBref6
import Derived.Test.YtmedobeogdnkfaaDoorBunhex
import Derived.StillTailTactics
import Derived.Deep.DeepCutAuto
namespace Go.Proofs.YtmedobeogdnkfaaDoor
open Go.RowKit

/-- What the reference hashes. -/
def keyPart (ks : List Int) : List Int := if ks.length = 0 then [] else keyBlock ks
theorem keyPart_length {ks : List Int} (h : ks.length ≤ 64) : (keyPart ks).length ≤ 64 := by
  unfold keyPart; split
  · simp
  · rw [keyBlock_length h]; exact Nat.le_refl _
theorem own_kept {w w' : World} {base : Nat} {v : Value} {n : Nat} {xs : List Value} (h : w.ownsRow base 5 1 v n xs) (hg : w.grownBy w' none) : w'.ownsRow base 5 1 v n xs := h.kept hg (by cases v.ownBlock <;> simp)
theorem setCells_own {w : World} {base b : Nat} {v : Value} {n : Nat} {xs : List Value} (h : w.ownsRow base 5 1 v n xs) (hne : v.ownBlock ≠ some b) (o : Nat) (vs : List Value) : (w.setCells b o vs).ownsRow base 5 1 v n xs :=
  h.kept (gb_setCells_at (gb_refl w b) o vs) (Or.inr hne)
theorem slice_win (ad : Addr) (m c l h : Nat) (hlh : l < h) (hh : h ≤ c) (W : World) : (Instr.slice 22 (.slice (some ad) m c) (some (.int .i64 (l : Int))) (some (.int .i64 (h : Int))) none).run Tryd.prog W = .ok (.slice (some (ad.add l)) (h - l) (c - l)) W := by
  have ht : Tryd.prog.underlying 22 = some (.slice (Tryd.prog.elem 22)) := by simp [Program.elem, Tryd.underlying22]
  have he : Tryd.prog.elem 22 = 5 := by simp [Program.elem, Tryd.underlying22]
  have hz : (sizeOf 5).run Tryd.prog W = .ok 1 W := by kernel_rfl
  rw [run_slice_lh W 22 _ _ _ ht .i64 .i64 _ _ (by omega) (by omega) (by omega), he, hz]
  simp [Result.andThen, sliced, show ¬ c = l by omega]
theorem add_add (ad : Addr) (i j : Nat) : (ad.add i).add j = ad.add (i + j) := by
  by_cases hi : i = 0
  · subst hi; simp [Addr.add]
  · by_cases hj : j = 0
    · subst hj; simp [Addr.add]
    · simp [Addr.add, hi, hj, Nat.add_assoc]
def tailA (A : Option Addr) (c t : Nat) : Option Addr := if c = t then A else A.map (·.add t)
theorem slice_tail (A : Option Addr) (m c t : Nat) (h : t ≤ m) (W : World) : (Instr.slice 22 (.slice A m c) (some (.int .i64 (t : Int))) none none).run Tryd.prog W = .ok (.slice (tailA A c t) (m - t) (c - t)) W := by
  have ht : Tryd.prog.underlying 22 = some (.slice (Tryd.prog.elem 22)) := by simp [Program.elem, Tryd.underlying22]
  have he : Tryd.prog.elem 22 = 5 := by simp [Program.elem, Tryd.underlying22]
  have hz : (sizeOf 5).run Tryd.prog W = .ok 1 W := by kernel_rfl
  rw [run_slice_l W 22 _ _ _ ht .i64 _ (by omega) (by omega), he, hz]
  simp [Result.andThen, sliced, tailA]
theorem RdS.tail {w : World} {A : Option Addr} {m c : Nat} {xs : List Int} (h : RdS w A m c xs) (t : Nat) : RdS w (tailA A c t) (m - t) (c - t) (xs.drop t) := by
  obtain ⟨h1, h2, h3⟩ := h
  refine ⟨by rw [List.length_drop, h1], by omega, fun hn => ?_⟩
  obtain ⟨ad, rfl, hb, hc⟩ := h3 (by omega)
  have hne : ¬ c = t := by omega
  refine ⟨ad.add t, by simp [tailA, hne], by rw [add_block]; exact hb, fun j v hv => ?_⟩
  rw [add_add]
  refine hc (t + j) v ?_
  rw [← hv, List.map_drop, List.getElem?_drop]
theorem blkAt_range {L : List Int} (h : ∀ x ∈ L, 0 ≤ x ∧ x < 256) (q j : Nat) : 0 ≤ blkAt L q j ∧ blkAt L q j < 256 := by
  unfold blkAt
  rw [List.getD_eq_getElem?_getD]
  rcases hv : L[64 * q + j]? with _ | x
  · simp
  · exact h x (List.mem_of_getElem? hv)
theorem byteOf4 (H : Nat → Int) (i k : Nat) (hk : k < 4) : byteOf H (4 * i + k) = IntKind.u8.wrap (H i / 2 ^ (8 * k)) := by
  rw [byteOf, show (4 * i + k) / 4 = i by omega, show (4 * i + k) % 4 = k by omega]; rfl
theorem out_next (H : Nat → Int) (i : Nat) : (List.range (4 * i + 4)).map (byteOf H) = (List.range (4 * i)).map (byteOf H) ++ [IntKind.u8.wrap (H i), IntKind.u8.wrap (H i / 256), IntKind.u8.wrap (H i / 65536), IntKind.u8.wrap (H i / 16777216)] := by
  rw [List.range_add, List.map_append]
  have h0 := byteOf4 H i 0 (by decide)
  have h1 := byteOf4 H i 1 (by decide)
  have h2 := byteOf4 H i 2 (by decide)
  have h3 := byteOf4 H i 3 (by decide)
  rw [Nat.mul_zero, Int.pow_zero, Int.ediv_one] at h0
  rw [← h0, show H i / 256 = H i / 2 ^ (8 * 1) from rfl, show H i / 65536 = H i / 2 ^ (8 * 2) from rfl, show H i / 16777216 = H i / 2 ^ (8 * 3) from rfl, ← h1, ← h2, ← h3]
  rfl
theorem zeros_snoc (ks : List Int) (j : Nat) (h : ks.length ≤ j) : ks ++ List.replicate (j + 1 - ks.length) 0 = (ks ++ List.replicate (j - ks.length) 0) ++ [0] := by
  rw [show j + 1 - ks.length = (j - ks.length) + 1 from by omega, List.replicate_succ', List.append_assoc]

set_option maxRecDepth 100000 in
set_option maxHeartbeats 4000000 in
theorem refdigest_any (A A2 : Option Addr) (n c n2 c2 : Nat) (ks xs : List Int) (w : World) (hr : RdS w A n c ks) (hr2 : RdS w A2 n2 c2 xs) (hk : ∀ x ∈ ks, 0 ≤ x ∧ x < 256) (hx : ∀ x ∈ xs, 0 ≤ x ∧ x < 256) (hn : n ≤ 32) (hn2 : n2 ≤ 100000) :
    Calls Tryd.prog 19 #[.slice A n c, .slice A2 n2 c2] w fun e w' => e = .returned (.string (digestS (hStart n) (keyPart ks ++ xs))) ∧ w.grownBy w' none := by
  have U := Tryd.underlying22
  obtain ⟨i0, hi, hz0, hz1, hz2⟩ := info_parts Tryd.infoU8
  have hkl := hr.1
  have HK := Lib.hid hk
  have HX := Lib.hid hx
  have HKL := Lib.hid hkl
  have HR := Lib.hid hr
  have HR2 := Lib.hid hr2
  clear hk hx hkl hr hr2
  go_enter Tryd.func19, Tryd.ntmps19
  go_upto_if 14 with fail
  go_cut [5] from 14 to 23 (fun v5 wx => wx.ownsRow w.heap.size 5 1 v5 (keyPart ks).length ((keyPart ks).map (Value.int .u8)) ∧ w.grownBy wx none)
  case first =>
    by_cases h0 : n = 0
    · have l0 : decide ((0 : Int) < (n : Int)) = false := decide_eq_false (by omega)
      have l1 : decide (0 < n) = false := decide_eq_false (by omega)
      go_wp2_with fail
      go_meet
      have e : keyPart ks = [] := by rw [keyPart, if_pos (by rw [HKL.out]; exact h0)]
      rw [e]
      exact ⟨own_empty w _ (Nat.le_refl _), gb_alloc (gb_refl _ _) _⟩
    · have l0 : decide ((0 : Int) < (n : Int)) = true := decide_eq_true (by omega)
      have l1 : decide (0 < n) = true := decide_eq_true (by omega)
      have RA : RdS (w.alloc (.cells #[] 5)) A n c ks := HR.out.grown (gb_alloc (gb_refl _ _) _)
      have HRA := Lib.hid RA
      have HOE := Lib.hid (own_empty w w.heap.size (Nat.le_refl _))
      clear RA
      go_wp2_with (at_builtin; refine wpList_app rfl _ _ rfl w.heap.size _ 0 [] (by rfl) HOE.out A n c ks (by rfl) HRA.out (by omega) (by simp) ?_; intro v1 w1 hown1 hg1)
      rw [List.nil_append] at hown1
      have hg1' : w.grownBy w1 none := gb_own (gb_alloc (gb_refl _ _) _) hg1 (fun b e => (HOE.out.lt b e).1)
      have HO1 := Lib.hid hown1
      have HG1 := Lib.hid hg1'
      clear hown1 hg1 hg1'
      go_loopw [5] (fun v wr => ∃ j : Nat, ks.length ≤ j ∧ j ≤ 64 ∧ wr.ownsRow w.heap.size 5 1 v j ((ks ++ List.replicate (j - ks.length) 0).map (Value.int .u8)) ∧ w.grownBy wr none) (fun v _ => 64 - (match v with | .slice _ k _ => k | _ => 0))
      case atStart => exact ⟨ks.length, Nat.le_refl _, by rw [HKL.out]; omega, by rw [Nat.sub_self, List.replicate_zero, List.append_nil, HKL.out]; have := HO1.out; rwa [Nat.zero_add] at this, HG1.out⟩
      case round =>
        obtain ⟨j, hj1, hj2, hown, hg⟩ := hrel
        obtain ⟨A5, c5, rfl, hrd⟩ := RdS.own hown
        have HO := Lib.hid hown
        have HG := Lib.hid hg
        clear hown hg hrd HO1 HG1
        by_cases hlt : j < 64
        · have l2 : decide ((j : Int) < 64) = true := decide_eq_true (by omega)
          have l3 : decide (j < 64) = true := decide_eq_true hlt
          have F1 := Lib.hid (World.ownsRow.alloc HO.out (.cells #[.int .u8 0] 5))
          have F2 := Lib.hid (show w.heap.size ≤ (wr.alloc (.cells #[.int .u8 0] 5)).heap.size by have := HG.out.size; simp; omega)
          have F3 := Lib.hid (show j + 1 ≤ maxLen by unfold maxLen; omega)
          have F4 := Lib.hid (show (j + 1) * 1 ≤ 140737488355328 by omega)
          go_wp2_with (at_builtin; refine wpList_append_own _ rfl _ _ 22 rfl w.heap.size 5 i0 (.int .u8 0) 1 1 U hi hz0 hz1 hz2 rfl (by decide) _ j _ rfl F1.out ⟨wr.heap.size, 0, none⟩ 1 1 [.int .u8 0] rfl rfl (cell_one_new _ _ _) (fun x hx => by simp at hx; subst hx; rfl) F3.out F4.out F2.out ?_; intro v' w3 hown3 hgrow3 hnil3)
          obtain ⟨A6, c6, rfl, _⟩ := RdS.own (xs := (ks ++ List.replicate (j - ks.length) 0) ++ [0]) (by rw [List.map_append]; exact hown3)
          go_roundw
          case rel =>
            exact ⟨j + 1, by omega, by omega, by rw [zeros_snoc ks j hj1, List.map_append]; exact hown3, gb_own (gb_alloc HG.out _) hgrow3 (fun b e => (HO.out.lt b e).1)⟩
          case measure => simp; omega
        · obtain rfl : j = 64 := by omega
          have l2 : decide (((64 : Nat) : Int) < 64) = false := by decide
          go_wp2_with fail
          go_meet
          have e : keyPart ks = ks ++ List.replicate (64 - ks.length) 0 := by rw [keyPart, if_neg (by rw [HKL.out]; exact h0)]; rfl
          rw [e]
          refine ⟨?_, HG.out⟩
          have e64 : (ks ++ List.replicate (64 - ks.length) (0 : Int)).length = 64 := by rw [List.length_append, List.length_replicate]; omega
          rw [e64]
          exact HO.out
  case rest =>
    obtain ⟨ho5, hg5⟩ := hcut
    obtain ⟨w5, rfl⟩ : ∃ w5, w5 = wc := ⟨_, rfl⟩
    have hkl5 := keyPart_length (ks := ks) (by rw [HKL.out]; omega)
    have hs5 := hg5.size
    have R2 := HR2.out.grown hg5
    go_wp2_with (at_builtin; refine wpList_app rfl _ _ rfl w.heap.size _ _ (keyPart ks) (by rfl) ho5 A2 n2 c2 xs (by rfl) R2 (by omega) (by omega) ?_; intro v1 w1 hown1 hg1)
    obtain ⟨L, hL⟩ : ∃ L, L = keyPart ks ++ xs := ⟨_, rfl⟩
    have hLl : L.length = (keyPart ks).length + n2 := by rw [hL, List.length_append, HR2.out.1]
    have hL256 : ∀ x ∈ L, 0 ≤ x ∧ x < 256 := by
      rw [hL]; intro x hx
      rcases List.mem_append.1 hx with h | h
      · unfold keyPart at h; split at h
        · cases h
        · rcases List.mem_append.1 h with h | h
          · exact HK.out _ h
          · rw [List.mem_replicate] at h; obtain ⟨_, rfl⟩ := h; omega
      · exact HX.out _ h
    rw [← hLl, ← hL] at hown1
    have hg1' : w.grownBy w1 none := gb_own hg5 hg1 (fun b e => (ho5.lt b e).1)
    clear hg1 ho5 hg5 R2 hs5
    have hwo : w.heap.size ≤ w1.heap.size := hg1'.size
    have HL := Lib.hid hL256
    have HE := Bx.mk hL
    clear hL hL256
    obtain ⟨IV, hIV⟩ : ∃ v, v = wordsK .u32 8 ivF := ⟨_, rfl⟩
    have RI := refiv_any w1
    rw [← hIV] at RI
    refine RI.mono ?_
    clear RI
    rintro e w2 ⟨rfl, hg2⟩
    have hgd2 := gb_trans hg1' hg2
    have hown2 := own_kept hown1 hg2
    clear hown1 hg1' hg2 hwo
    have hIVs : IV.size = 8 := by rw [hIV]; simp [wordsK]
    have hIV1 : IV.all (·.oneCell') = true := by rw [hIV]; exact words_one _ _
    have N8 := Blk.new w2 47 #[.int .u32 0, .int .u32 0, .int .u32 0, .int .u32 0, .int .u32 0, .int .u32 0, .int .u32 0, .int .u32 0]
    have hst := run_store_blk (P := Tryd.prog) N8 IV (by rw [hIVs]; rfl) hIV1
    have W8 := N8.whole IV (by rw [hIVs]; rfl)
    have WW := Lib.hid W8
    have HIV := Bx.mk hIV
    clear N8 W8 hIV1 hIV
    have HO2 := Lib.hid hown2
    have HG2 := Lib.hid hgd2
    have HLL := Lib.hid (And.intro hLl hkl5)
    clear hown2 hgd2 hLl hkl5
    have G3 := Lib.hid (gb_setCells_new (gb_alloc HG2.out (.cells #[.int .u32 0, .int .u32 0, .int .u32 0, .int .u32 0, .int .u32 0, .int .u32 0, .int .u32 0, .int .u32 0] 47)) (b := w2.heap.size) HG2.out.size 0 IV.toList)
    have O3 := Lib.hid (setCells_own (HO2.out.alloc (.cells #[.int .u32 0, .int .u32 0, .int .u32 0, .int .u32 0, .int .u32 0, .int .u32 0, .int .u32 0, .int .u32 0] 47)) (b := w2.heap.size) (fun e => by have := HO2.out.lt _ e; omega) 0 IV.toList)
    have hwo2' := Lib.hid HG2.out.size
    have HV2 := Lib.hid (fun (g : Nat) (e : v1.ownBlock = some g) => (HO2.out.lt g e).2)
    clear HO2 HG2
    go_upto_region 8 with fail
    clear hst
    have hwo2 : w.heap.size ≤ w2.heap.size := hwo2'.out
    have hw2 : w2.heap.size < ((w2.alloc (.cells #[.int .u32 0, .int .u32 0, .int .u32 0, .int .u32 0, .int .u32 0, .int .u32 0, .int .u32 0, .int .u32 0] 47)).setCells w2.heap.size 0 IV.toList).heap.size := by rw [size_setCells]; simp
    generalize (w2.alloc (.cells #[.int .u32 0, .int .u32 0, .int .u32 0, .int .u32 0, .int .u32 0, .int .u32 0, .int .u32 0, .int .u32 0] 47)).setCells w2.heap.size 0 IV.toList = w3 at hw2 WW G3 O3 ⊢
    have B3 := WW.out
    rw [HIV.out] at B3
    have c0 : w3.cell? ⟨w2.heap.size, 0, none⟩ = some (.int .u32 (ivF 0)) := by rw [B3.cell, wordsK_get _ _ _ (by omega)]
    have f0 := B3.frozen 0
    have uw : ∀ n : Int, 0 ≤ n → n < 4294967296 → IntKind.u32.wrap n = n := fun n a b => by rw [IntKind.wrap_u32]; omega
    have u0 : IntKind.u32.wrap (n : Int) = n := uw _ (by omega) (by omega)
    have u1 : IntKind.u32.wrap (256 * (n : Int)) = 256 * n := uw _ (by omega) (by omega)
    have u2 : IntKind.u32.wrap (16842784 + 256 * (n : Int)) = 16842784 + 256 * n := uw _ (by omega) (by omega)
    have P3 := B3.put 0 (.int .u32 (bits BinOp.xor IntKind.u32 (ivF 0) (16842784 + 256 * n)))
    rw [wordsK_put _ _ _ (by omega)] at P3
    rw [show (256 * (n : Int)) = (n : Int) * 256 from Int.mul_comm _ _] at P3
    have HP3 := Lib.hid P3
    clear uw B3 P3 WW
    go_wp2_with fail
    clear c0 f0 u0 u1 u2
    have hm1 : L.length ≤ 100064 := by have := HLL.out; omega
    obtain ⟨w4, hw4⟩ : ∃ w4, w4 = w3.setCell ⟨w2.heap.size, 0, none⟩ (.int .u32 (bits BinOp.xor IntKind.u32 (ivF 0) (16842784 + (n : Int) * 256))) := ⟨_, rfl⟩
    rw [Int.mul_comm 256 (n : Int), ← hw4]
    have B4 : Blk w4 w2.heap.size 47 (wordsK .u32 8 (chain (hStart n) L 0)) := by rw [hw4]; exact HP3.out
    have G4 : w.grownBy w4 none := by rw [hw4]; exact gb_put_new G3.out (by simpa using hwo2) _
    have O4 : w4.ownsRow w.heap.size 5 1 v1 L.length (L.map (Value.int .u8)) := by rw [hw4]; exact ownsRow_setCell_other O3.out (fun e => Nat.lt_irrefl _ (HV2.out _ e)) _
    have hw24 : w2.heap.size < w4.heap.size := by rw [hw4]; simpa using hw2
    have hne4 : ∀ g, v1.ownBlock = some g → g < w2.heap.size := HV2.out
    clear hw4 HP3 G3 O3 hw2
    have R4 : ∃ A1 c1, v1 = .slice A1 L.length c1 ∧ (∀ wr, w4.grownBy wr (some w2.heap.size) → RdS wr A1 L.length c1 L) := by
      obtain ⟨A1, c1, rfl, hrd⟩ := RdS.own O4
      refine ⟨A1, c1, rfl, fun wr hg => ?_⟩
      obtain ⟨A3, c3, e, hrd3⟩ := RdS.own (O4.kept hg (Or.inr fun e => Nat.lt_irrefl _ (hne4 _ e)))
      cases e
      exact hrd3
    obtain ⟨A1, c1, rfl, R4⟩ := R4
    have HB4 := Lib.hid B4
    have HG4 := Lib.hid G4
    have HR4 := Lib.hid R4
    clear B4 G4 R4 O4 hne4 HV2
    go_loopw [7] (fun v wr => ∃ q t : Nat, t = 64 * q ∧ v = .int .i64 t ∧ (t = 0 ∨ t < L.length) ∧ Blk wr w2.heap.size 47 (wordsK .u32 8 (chain (hStart n) L q)) ∧ w4.grownBy wr (some w2.heap.size)) (fun v _ => L.length - (intOf v).toNat)
    case atStart => exact ⟨0, 0, rfl, rfl, Or.inl rfl, HB4.out, gb_refl _ _⟩
    case round =>
      obtain ⟨q, t, ht, rfl, htl, hB, hG⟩ := hrel
      have HT := Bx.mk ht
      have HB := Lib.hid hB
      have HG := Lib.hid hG
      clear hB hG
      have q0 : IntKind.i64.wrap ((L.length : Int) - t) = (L.length : Int) - t := IntWalk.i64_in _ (by omega)
      by_cases hlt : 64 < L.length - t
      · have l0 : decide ((64 : Int) < (L.length : Int) - t) = true := decide_eq_true (by omega)
        have hR := HR4.out wr HG.out
        obtain ⟨ad, rfl, hab, hac⟩ := hR.2.2 (by omega)
        have hmc := hR.2.1
        have qq0 : IntKind.i64.wrap ((t : Int) + 64) = (t : Int) + 64 := IntWalk.i64_in _ (by omega)
        have qq1 : IntKind.u64.wrap ((t : Int) + 64) = (t : Int) + 64 := by rw [IntKind.wrap_u64]; omega
        have hsl : ∀ W, (Instr.slice 22 (.slice (some ad) L.length c1) (some (.int .i64 (t : Int))) (some (.int .i64 ((t : Int) + 64))) none).run Tryd.prog W = .ok (.slice (some (ad.add t)) 64 (c1 - t)) W := fun W => by
          have := slice_win ad L.length c1 t (t + 64) (by omega) (by omega) W
          rw [show t + 64 - t = 64 by omega] at this
          exact this
        have hcells : ∀ j, j < 64 → wr.drew.cell? ((ad.add t).add j) = some (.int .u8 (blkAt L q j)) := fun j hj => by
          rw [add_add]
          refine hac (t + j) _ ?_
          rw [List.getElem?_map, List.getElem?_eq_getElem (by omega)]
          simp [blkAt, ← ht, List.getD_eq_getElem?_getD, List.getElem?_eq_getElem (show t + j < L.length by omega)]
        have hab' : (ad.add t).block < wr.drew.heap.size := by rw [add_block]; exact hab
        have C := fun W (h1 : ∀ j, j < 64 → W.cell? ((ad.add t).add j) = some (.int .u8 (blkAt L q j))) (h2 : (ad.add t).block < W.heap.size) => refblock_any (chain (hStart n) L q) (ad.add t) (c1 - t) (blkAt L q) ((t : Int) + 64) false W h1 (by omega) (fun j => blkAt_range HL.out q j) h2 (by omega) (by omega)
        have HC := Lib.hid C
        have HCE := Lib.hid hcells
        have HBl : Blk wr.drew w2.heap.size 47 (wordsK .u32 8 (chain (hStart n) L q)) := HB.out
        have HGd := Lib.hid (gb_drew HG.out)
        have U8 := Tryd.underlying47
        have J8 : (Tryd.prog.info? 47).map (·.size) = some (wordsK .u32 8 (chain (hStart n) L q)).size := by rw [show (wordsK .u32 8 (chain (hStart n) L q)).size = 8 by simp [wordsK]]; kernel_rfl
        have HU8 := Lib.hid U8
        have HJ8 := Lib.hid J8
        have ES := Bx.mk (show compressF (chain (hStart n) L q) (blkAt L q) ((t : Int) + 64) false = chain (hStart n) L (q + 1) by rw [ht]; simp only [chain]; congr 1)
        clear U8 J8 C hcells hac hab hR HB HG ht
        go_upto_region 11 with fail
        go_still_tail 9, (by kernel_rfl)
        change wpStill _ _ wr.drew _ _ _
        refine wpStill_load_blk rfl 47 _ rfl w2.heap.size rfl HBl _ HU8.out rfl HJ8.out ?_
        repeat still_step
        refine wpStill_nil ?_
        change wpList _ _ _ _ _ wr.drew
        generalize wr.drew = w7 at hab' HCE HBl HGd ⊢
        go_wp2_with fail
        refine (HC.out w7 HCE.out hab').mono ?_
        rintro e w8 ⟨rfl, hg8⟩
        rw [ES.out]
        have hB8 := HBl.grown hg8 (by simp)
        have hG8 := gb_trans HGd.out (gb_some hg8 _)
        have hst := run_store_blk (P := Tryd.prog) hB8 (wordsK .u32 8 (chain (hStart n) L (q + 1))) (by simp [wordsK]) (words_one _ _)
        clear HBl HGd
        go_wp2_with fail
        clear hst
        have REL := Lib.hid (And.intro (hB8.whole (wordsK .u32 8 (chain (hStart n) L (q + 1))) (by simp [wordsK])) (gb_setCells_at hG8 0 (wordsK .u32 8 (chain (hStart n) L (q + 1))).toList))
        go_roundw
        case rel => exact ⟨q + 1, t + 64, by have := HT.out; omega, by go_num, Or.inr (by omega), REL.out⟩
        case measure => simp [intOf]; omega
      · have l0 : decide ((64 : Int) < (L.length : Int) - t) = false := decide_eq_false (by omega)
        clear ht
        have HO0 := Lib.hid (own_empty wr wr.heap.size (Nat.le_refl _))
        have hR := HR4.out wr HG.out
        have hRt := Lib.hid ((hR.tail t).grown (gb_alloc (gb_refl wr none) (.cells #[] 5)))
        have hsl := fun W => slice_tail A1 L.length c1 t (by omega) W
        have hsz : wr.heap.size ≤ (wr.alloc (.cells #[] 5)).heap.size := by simp
        clear hR
        go_wp2_with (at_builtin; refine wpList_app rfl _ _ rfl wr.heap.size _ 0 [] (by rfl) HO0.out (tailA A1 c1 t) (L.length - t) (c1 - t) (L.drop t) (by rfl) hRt.out (by omega) hsz ?_; intro v8 w8 hown8 hg8)
        obtain ⟨w6, rfl⟩ : ∃ w6, w6 = wr := ⟨_, rfl⟩
        have hD : (L.drop t).length = L.length - t := List.length_drop
        obtain ⟨D, hDe⟩ : ∃ D, D = L.drop t := ⟨_, rfl⟩
        rw [List.nil_append, Nat.zero_add, ← hDe] at hown8
        rw [← hDe] at hD
        have HD := Bx.mk hDe
        have hg8' : w6.grownBy w8 none := gb_own (gb_alloc (gb_refl _ _) _) hg8 (fun b e => (HO0.out.lt b e).1)
        have HO8 := Lib.hid hown8
        have HG8 := Lib.hid hg8'
        have HHD := Bx.mk hD
        clear hown8 hg8 hg8' hsl hsz hDe hD HO0 hRt
        go_loopw [8] (fun v wr => ∃ j : Nat, D.length ≤ j ∧ j ≤ 64 ∧ wr.ownsRow w6.heap.size 5 1 v j ((D ++ List.replicate (j - D.length) 0).map (Value.int .u8)) ∧ w6.grownBy wr none) (fun v _ => 64 - (match v with | .slice _ k _ => k | _ => 0))
        case atStart => exact ⟨D.length, Nat.le_refl _, by have := HHD.out; omega, by rw [Nat.sub_self, List.replicate_zero, List.append_nil, HHD.out]; exact HO8.out, HG8.out⟩
        case round =>
          obtain ⟨j, hj1, hj2, hown, hg⟩ := hrel
          obtain ⟨A5, c5, rfl, hrd⟩ := RdS.own hown
          have HO := Lib.hid hown
          have HG9 := Lib.hid hg
          have HRD := Lib.hid hrd
          clear hown hg hrd HO8 HG8
          by_cases hltj : j < 64
          · have l2 : decide ((j : Int) < 64) = true := decide_eq_true (by omega)
            have l3 : decide (j < 64) = true := decide_eq_true hltj
            have F1 := Lib.hid (World.ownsRow.alloc HO.out (.cells #[.int .u8 0] 5))
            have F2 := Lib.hid (show w6.heap.size ≤ (wr.alloc (.cells #[.int .u8 0] 5)).heap.size by have := HG9.out.size; simp; omega)
            have F3 := Lib.hid (show j + 1 ≤ maxLen by unfold maxLen; omega)
            have F4 := Lib.hid (show (j + 1) * 1 ≤ 140737488355328 by omega)
            go_wp2_with (at_builtin; refine wpList_append_own _ rfl _ _ 22 rfl w6.heap.size 5 i0 (.int .u8 0) 1 1 U hi hz0 hz1 hz2 rfl (by decide) _ j _ rfl F1.out ⟨wr.heap.size, 0, none⟩ 1 1 [.int .u8 0] rfl rfl (cell_one_new _ _ _) (fun x hx => by simp at hx; subst hx; rfl) F3.out F4.out F2.out ?_; intro v' w3 hown3 hgrow3 hnil3)
            obtain ⟨A6, c6, rfl, _⟩ := RdS.own (xs := (D ++ List.replicate (j - D.length) 0) ++ [0]) (by rw [List.map_append]; exact hown3)
            go_roundw
            case rel =>
              exact ⟨j + 1, by omega, by omega, by rw [zeros_snoc D j hj1, List.map_append]; exact hown3, gb_own (gb_alloc HG9.out _) hgrow3 (fun b e => (HO.out.lt b e).1)⟩
            case measure => simp; omega
          · obtain rfl : j = 64 := by omega
            have l2 : decide (((64 : Nat) : Int) < 64) = false := by decide
            obtain ⟨ad, rfl, hab, hac⟩ := HRD.out.2.2 (by omega)
            have hmc := HRD.out.2.1
            have hcells : ∀ j, j < 64 → wr.cell? (ad.add j) = some (.int .u8 (blkAt L q j)) := fun j hj => by
              have hL64 : (D ++ List.replicate (64 - D.length) (0 : Int)).length = 64 := by rw [List.length_append, List.length_replicate]; omega
              refine hac j _ ?_
              rw [List.getElem?_map, List.getElem?_eq_getElem (by omega)]
              simp only [Option.map_some, blkAt, ← HT.out]
              congr 2
              rw [List.getElem_append]
              split
              · rename_i hjD
                simp only [HD.out, List.getElem_drop]
                rw [List.getD_eq_getElem?_getD, List.getElem?_eq_getElem (by rw [HD.out, List.length_drop] at hjD; omega)]
                rfl
              · rename_i hjD
                have := HHD.out
                rw [List.getElem_replicate, List.getD_eq_getElem?_getD, List.getElem?_eq_none (by omega)]
                rfl
            have qu : IntKind.u64.wrap (L.length : Int) = (L.length : Int) := by rw [IntKind.wrap_u64]; omega
            have C := refblock_any (chain (hStart n) L q) ad c5 (blkAt L q) (L.length : Int) true wr hcells (by omega) (fun j => blkAt_range HL.out q j) hab (by omega) (by omega)
            have ES : compressF (chain (hStart n) L q) (blkAt L q) (L.length : Int) true = finalF (hStart n) L := by
              have := HT.out
              rw [finalF, show (L.length - 1) / 64 = q by omega]
            rw [ES] at C
            have HC := Lib.hid C
            have HBl := (HB.out.grown HG9.out (by simp))
            have U8 := Tryd.underlying47
            have J8 : (Tryd.prog.info? 47).map (·.size) = some (wordsK .u32 8 (chain (hStart n) L q)).toList.length := by rw [show (wordsK .u32 8 (chain (hStart n) L q)).toList.length = 8 by simp [wordsK]]; kernel_rfl
            have HU8 := Lib.hid U8
            have HJ8 := Lib.hid J8
            have hgw := gb_trans HG.out (gb_some HG9.out _)
            have HGW := Lib.hid (gb_new HG4.out hgw (by omega))
            clear U8 J8 C hcells hac hab ES hgw
            go_wp2_with (refine wpList_load_mid rfl 47 _ rfl w2.heap.size 0 rfl (wordsK .u32 8 (chain (hStart n) L q)).toList _ HBl.range HU8.out rfl HJ8.out ?_)
            obtain ⟨FV, hFV⟩ : ∃ v, v = wordsK .u32 8 (finalF (hStart n) L) := ⟨_, rfl⟩
            have hFVs : FV.size = 8 := by rw [hFV]; simp [wordsK]
            have hFV1 : FV.all (·.oneCell') = true := by rw [hFV]; exact words_one _ _
            have HFV := Bx.mk hFV
            refine HC.out.mono ?_
            rintro e w9 ⟨rfl, hg9⟩
            rw [← hFV]
            have hB9 := HBl.grown hg9 (by simp)
            have hst := run_store_blk (P := Tryd.prog) hB9 FV (by rw [hFVs]; simp [wordsK]) hFV1
            have hB9' := hB9.whole FV (by rw [hFVs]; simp [wordsK])
            have hG9' := gb_setCells_new (gb_trans HGW.out hg9) hwo2 0 FV.toList
            have hB9h := Lib.hid hB9'
            have hG9h := Lib.hid hG9'
            clear HBl hB9 hg9 hB9' hG9' hFV1 hFV
            go_upto_region 17 with fail
            clear hst
            generalize w9.setCells w2.heap.size 0 FV.toList = w10 at hB9h hG9h ⊢
            have hB10 := hB9h.out
            rw [HFV.out] at hB10
            obtain ⟨H, hH⟩ : ∃ H, H = finalF (hStart n) L := ⟨_, rfl⟩
            rw [← hH] at hB10
            have HH := Bx.mk hH
            have HB10 := Lib.hid hB10
            have HO0 := Lib.hid (own_empty w10 w10.heap.size (Nat.le_refl _))
            have hB10' := Lib.hid hB10.lt
            clear hB9h hB10 hH
            go_wp2_with fail
            go_loopw [9, 10] (fun v cv wr => ∃ i : Nat, i ≤ 8 ∧ cv = .int .i64 i ∧ wr.ownsRow w10.heap.size 5 1 v (4 * i) (((List.range (4 * i)).map (byteOf H)).map (Value.int .u8)) ∧ w10.grownBy wr none) (fun _ cv _ => 8 - (intOf cv).toNat)
            case atStart => exact ⟨0, by omega, rfl, HO0.out, gb_alloc (gb_refl _ _) _⟩
            case round =>
              obtain ⟨i, hi8, rfl, hown, hg⟩ := hrel
              obtain ⟨A7, c7, rfl, hrd⟩ := RdS.own hown
              have HOW := Lib.hid hown
              have HGG := Lib.hid hg
              clear hown hg
              by_cases hlti : i < 8
              · have hi1 : (i : Int) < 8 := by omega
                have c0 : wr.drew.cell? ⟨w2.heap.size, i, none⟩ = some (.int .u32 (H i)) := by
                  have := (HB10.out.grown HGG.out (by simp)).drew
                  rw [this.cell, wordsK_get _ _ _ hlti]
                go_upto_region 21 with fail
                obtain ⟨X, hX⟩ : ∃ X : List Value, X = [.int .u8 (IntKind.u8.wrap (H i)), .int .u8 (IntKind.u8.wrap (H i / 256)), .int .u8 (IntKind.u8.wrap (H i / 65536)), .int .u8 (IntKind.u8.wrap (H i / 16777216))] := ⟨_, rfl⟩
                have F0 : ∀ o, ((wr.alloc o).drew).ownsRow w10.heap.size 5 1 (.slice A7 (4 * i) c7) (4 * i) (((List.range (4 * i)).map (byteOf H)).map (Value.int .u8)) := fun o => World.ownsRow.drew (HOW.out.alloc o)
                have F1 : ∀ (cs : Array Value), cs.toList = X → ∀ j u, X[j]? = some u → ((wr.alloc (.cells cs 5)).drew).cell? ((⟨wr.heap.size, 0, none⟩ : Addr).add j) = some u := fun cs hcs => by
                  rw [← hcs]; exact World.news_of_block (fr := (0, 0)) (heap_alloc_new wr (.cells cs 5))
                have F2 : ∀ u ∈ X, u.oneCell' = true := by rw [hX]; intro u hu; simp at hu; rcases hu with rfl | rfl | rfl | rfl <;> rfl
                have F3 : 4 * i + 4 ≤ maxLen := by unfold maxLen; omega
                have F4 : (4 * i + 4) * 1 ≤ 140737488355328 := by omega
                have F5 : ∀ o, w10.heap.size ≤ ((wr.alloc o).drew).heap.size := fun o => by have := HGG.out.size; simp; omega
                have F6 : ∀ o, ((wr.alloc o).drew).heap.size = wr.heap.size + 1 := fun o => by simp
                have hsw : w2.heap.size < wr.heap.size := by have := hB10'.out; have := HGG.out.size; omega
                have FK : ∀ o, ((wr.alloc o).drew).cell? ⟨w2.heap.size, i, none⟩ = some (.int .u32 (H i)) := fun o => by
                  have := ((HB10.out.grown HGG.out (by simp)).alloc o).drew
                  rw [this.cell, wordsK_get _ _ _ hlti]
                have FN : ∀ g, (Value.slice A7 (4 * i) c7).ownBlock = some g → w2.heap.size < g := fun g e => by have := (HOW.out.lt g e).1; have := hB10'.out; omega
                have HF0 := Lib.hid F0
                have HF1 := Lib.hid F1
                have HF2 := Lib.hid F2
                have HF5 := Lib.hid F5
                have HF6 := Lib.hid F6
                have HFN := Lib.hid FN
                have HX := Bx.mk hX
                clear F0 F1 F2 F5 F6 FN hX
                go_region_held3 (fun w' => w'.cell? ⟨w2.heap.size, i, none⟩ = some (.int .u32 (H i))) (first | exact FK _ | assumption | go_keep) ((refine step_append_lies _ rfl _ _ 22 rfl w10.heap.size 5 i0 (.int .u8 0) 1 1 U hi hz0 hz1 hz2 rfl (by decide) (.slice A7 (4 * i) c7) (4 * i) _ rfl (HF0.out _) ⟨wr.heap.size, 0, none⟩ 4 4 X rfl (by rw [HX.out]; rfl) (HF1.out _ (by rw [HX.out])) HF2.out (by decide) F3 F4 (HF5.out _) (wr.heap.size + 1) (HF6.out _) ?_; intro g cap wz hownz hgrowz hatz hltz; have hkz : wz.cell? ⟨w2.heap.size, i, none⟩ = some (.int .u32 (H i)) := hgrowz.cell (FK _) (fun e => Nat.lt_irrefl _ (HFN.out _ e.symm))))
                have hGz := gb_own (gb_drew (gb_alloc HGG.out _)) hgrowz (fun b e => (HOW.out.lt b e).1)
                have HZ := Lib.hid hownz
                have HGz := Lib.hid hGz
                clear hownz hgrowz hGz hatz hltz hkz FK
                go_wp2_with fail
                go_roundw
                case rel =>
                  refine ⟨i + 1, by omega, by go_num, ?_, HGz.out⟩
                  have := HZ.out
                  rw [HX.out] at this
                  rw [show 4 * (i + 1) = 4 * i + 4 by omega, out_next]
                  rw [List.map_append]
                  exact this
                case measure => simp [intOf]; omega
              · have hi1 : ¬ (i : Int) < 8 := by omega
                obtain rfl : i = 8 := by omega
                have hcv := convert_own HOW.out
                go_wp2_with fail
                go_ret
                refine ⟨?_, gb_trans hG9h.out HGG.out⟩
                show Ending.returned (.string (strOfNums (outL H))) = _
                rw [digestS, HH.out, HE.out]
end Go.Proofs.YtmedobeogdnkfaaDoor
