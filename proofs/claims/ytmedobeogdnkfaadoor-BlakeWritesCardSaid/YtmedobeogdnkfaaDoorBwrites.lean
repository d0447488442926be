/- The walk over BlakeWrites, and that it answers true. -/
import Derived.Test.YtmedobeogdnkfaaDoorBclones
import Derived.Deep.AppendLies
import Derived.Laws.OwnMore
namespace Go.Proofs.YtmedobeogdnkfaaDoor
open Go.RowKit

/-- A slice of slices of bytes that reads as xss. -/
def RdSS (w : World) (A : Option Addr) (n c : Nat) (xss : List (Option Addr × Nat × Nat × List Int)) : Prop :=
  xss.length = n ∧ n ≤ c ∧ (0 < n → ∃ ad, A = some ad ∧ ad.block < w.heap.size ∧ ∀ i B m d xs, xss[i]? = some (B, m, d, xs) → w.cell? (ad.add i) = some (.slice B m d) ∧ RdS w B m d xs)

theorem own_apart {w : World} {base : Nat} {v : Value} {n : Nat} {xs : List Int} {g : Nat} (h : w.ownsRow base 5 1 v n (xs.map (Value.int .u8))) (hg : g < base) : ∃ A c, v = .slice A n c ∧ RdB w A n c xs g := by
  have hl : xs.length = n := by have := h.1; simpa using this
  rcases h.2 with ⟨rfl, rfl⟩ | ⟨o, cap, cur, rfl, hb, ho, hnc, hcm, hcs, htake⟩
  · exact ⟨none, 0, rfl, hl, by omega, fun h => absurd h (by omega)⟩
  · exact ⟨some ⟨o, 0, none⟩, cap, rfl, hl, hnc, fun _ => ⟨_, rfl, (Array.getElem?_eq_some_iff.1 ho).1, by show o ≠ g; omega, h.cells (g := o) rfl⟩⟩
theorem own_not {w : World} {base : Nat} {v : Value} {n : Nat} {xs : List Value} (h : w.ownsRow base 5 1 v n xs) {g : Nat} (hg : g < base) : v.ownBlock = none ∨ v.ownBlock ≠ some g :=
  Or.inr fun e => by have := (h.lt g e).1; omega
theorem own_far {w : World} {base : Nat} {v : Value} {n : Nat} {xs : List Value} (h : w.ownsRow base 5 1 v n xs) {r : Option Nat} (hr : ∀ o, r = some o → w.heap.size ≤ o) : v.ownBlock = none ∨ v.ownBlock ≠ r := by
  cases e : v.ownBlock with
  | none => exact Or.inl rfl
  | some b => exact Or.inr fun e' => by have := (h.lt b e).2; have := hr b e'.symm; omega
theorem own_none {w : World} {base : Nat} {v : Value} {n : Nat} {xs : List Value} (_h : w.ownsRow base 5 1 v n xs) : v.ownBlock = none ∨ v.ownBlock ≠ none := by
  cases v.ownBlock with
  | none => exact Or.inl rfl
  | some b => exact Or.inr (by simp)
theorem Blk.notOwn {w w' : World} {g : Nat} {t : TypeId} {cs : Array Value} (h : Blk w g t cs) {base : Nat} {v : Value} {n : Nat} {xs : List Value} {w0 : World} (ho : w0.ownsRow base 5 1 v n xs) (hb : w.grownBy w' v.ownBlock) (hg : g < base) : Blk w' g t cs :=
  h.grown hb (fun e => by have := (ho.lt g e.symm).1; omega)

theorem writes_far (A A2 : Option Addr) (n c n2 c2 : Nat) (w : World) (hT : Tabs w) (h : 40 < n ∨ 32 < n2) :
    Calls Tryd.prog 7 #[.slice A n c, .slice A2 n2 c2] w fun e w' => e = .returned (.bool true) ∧ w.grownBy w' none := by
  by_cases h1 : 40 < n
  · have z1 : (40 : Int) < n := by omega
    go_enter Tryd.func7, Tryd.ntmps7
    go_wp2_with fail
    refine (awake_any _ hT).mono ?_
    rintro e w1 ⟨rfl, hg⟩
    go_wp2
    go_ret
    exact ⟨rfl, hg⟩
  · have z1 : ¬ (40 : Int) < n := by omega
    have z2 : (32 : Int) < n2 := by omega
    go_enter Tryd.func7, Tryd.ntmps7
    go_wp2_with fail
    refine (awake_any _ hT).mono ?_
    rintro e w1 ⟨rfl, hg⟩
    go_wp2
    go_ret
    exact ⟨rfl, hg⟩


set_option maxRecDepth 1000000 in
set_option maxHeartbeats 4000000 in
theorem writes_near0 (A A2 : Option Addr) (n c n2 c2 : Nat) (xss : List (Option Addr × Nat × Nat × List Int)) (ks : List Int) (w : World) (hT : Tabs w) (hr : RdSS w A n c xss) (hr2 : RdS w A2 n2 c2 ks) (hn : n ≤ 40) (h2 : n2 = 0) :
    Calls Tryd.prog 7 #[.slice A n c, .slice A2 n2 c2] w fun e w' => e = .returned (.bool true) ∧ w.grownBy w' none := by
  have z1 : ¬ (40 : Int) < n := by omega
  have z2 : ¬ (32 : Int) < n2 := by omega
  have z3 : ¬ (0 : Int) < n2 := by omega
  have HR := Lib.hid hr
  clear hr
  go_enter Tryd.func7, Tryd.ntmps7
  go_wp2_with fail
  refine (awake_any _ hT).mono ?_
  rintro e w1 ⟨rfl, hg1⟩
  have hT1 := hT.grown hg1 (by simp)
  go_wp2_with fail
  refine (new_any _ hT1).mono ?_
  rintro e w2 ⟨g0, rfl, hgs0, hb0, hg2⟩
  have hT2 := hT1.grown hg2 (by simp)
  have h3g0 : 3 ≤ g0 := Nat.le_trans hT1.2.2.2 hgs0
  have hgw2 := gb_trans hg1 hg2
  have hgw0 : w.heap.size ≤ g0 := Nat.le_trans hg1.size hgs0
  obtain ⟨w3, hw3⟩ : ∃ w3, w3 = w2 := ⟨_, rfl⟩
  obtain ⟨g, hgg⟩ : ∃ g, g = g0 := ⟨_, rfl⟩
  obtain ⟨pre, hpre⟩ : ∃ p : List Int, p = [] := ⟨_, rfl⟩
  obtain ⟨h0, hh0⟩ : ∃ h, h = hStart 0 := ⟨_, rfl⟩
  subst hw3
  subst hgg
  have hb3 := hb0
  have hI3 : WInv h0 pre (hStart 0) (fun _ => 0) 0 0 := by rw [hpre, hh0]; exact WInv.start _ _
  have hT3 := hT2
  have hgw3 := hgw2
  have hgw := hgw0
  have h3g := h3g0
  have hpl : pre.length ≤ 64 := by rw [hpre]; simp
  have HW := Bx.mk (show ∀ all : List Int, digestS (hStart 0) all = digestS h0 (pre ++ all) from fun all => by rw [hpre, hh0]; rfl)
  have HI3 := Bx.mk hI3
  have HPL := Bx.mk hpl
  clear hI3 hpl hpre hh0
  go_wp2_with fail
  go_loopw [6, 7] (fun v cv wr => ∃ (k : Nat) (all : List Int) (h' buf' : Nat → Int) (f' : Nat) (d' : Int), k ≤ n ∧ cv = .int .i64 k ∧ all.length ≤ 2000 ∧ wr.ownsRow w3.heap.size 5 1 v all.length (all.map (Value.int .u8)) ∧
      Blk wr g 51 (stCells h' buf' f' d' all.length) ∧ Bx (WInv h0 (pre ++ all) h' buf' f' d') ∧ w.grownBy wr none ∧ w3.heap.size ≤ wr.heap.size)
    (fun _ cv _ => n - (intOf cv).toNat)
  case atStart => exact ⟨0, [], _, _, _, _, by omega, rfl, by simp, own_empty w3 w3.heap.size (Nat.le_refl _), hb3.alloc _, ⟨by rw [List.append_nil]; exact HI3.out⟩, gb_alloc hgw3 _, by simp⟩
  case round =>
    obtain ⟨k, all, h', buf', f', d', hk, rfl, hal, hown, hb, HI, hgw1, hsz⟩ := hrel
    obtain ⟨wo, hwo⟩ : ∃ x, x = wr := ⟨_, rfl⟩
    subst hwo
    have hg3 : g < w3.heap.size := hb3.lt
    have hgo : g < wo.heap.size := hb.lt
    have hTo := hT.grown hgw1 (by simp)
    by_cases hlt : k < n
    · obtain ⟨hxl, hnc, hxa⟩ := HR.out
      obtain ⟨ad, rfl, hab, hxat⟩ := hxa (by omega)
      obtain ⟨⟨B, m, d, xs⟩, hxk⟩ : ∃ x, xss[k]? = some x := ⟨_, List.getElem?_eq_getElem (by omega)⟩
      obtain ⟨hc0, hrx0⟩ := hxat k B m d xs hxk
      have hck : wo.cell? (ad.add k) = some (.slice B m d) := hgw1.cell hc0 (by simp)
      have HRX := Lib.hid (hrx0.grown hgw1)
      have HXM := Bx.mk hrx0.1
      have HX0 := Lib.hid hrx0
      have HC0 := Lib.hid hc0
      clear hxat hxa hrx0 hc0 hxk hxl
      obtain ⟨A6, c6, rfl, hB6⟩ := own_apart hown hg3
      have hi1 : (k : Int) < n := by omega
      by_cases hm : 2000 < m
      · have y1 : (2000 : Int) < m := by omega
        go_wp2
        go_ret
        exact ⟨rfl, hgw1⟩
      · have y1 : ¬ (2000 : Int) < m := by omega
        by_cases hm2 : 2000 < all.length + m
        · have y2 : (2000 : Int) < (all.length : Int) + m := by omega
          go_wp2
          go_ret
          exact ⟨rfl, hgw1⟩
        · have y2 : ¬ (2000 : Int) < (all.length : Int) + m := by omega
          have F1 := Lib.hid (own_empty wo wo.heap.size (Nat.le_refl _))
          have R1 := Lib.hid (HRX.out.grown (World.grownBy_alloc wo (.cells #[] 5) none))
          have S1 := Lib.hid (show wo.heap.size ≤ (wo.alloc (.cells #[] 5)).heap.size by simp)
          have hck1 : (wo.alloc (.cells #[] 5)).cell? (ad.add k) = some (.slice B m d) := (World.grownBy_alloc wo (.cells #[] 5) none).cell hck (by simp)
          have B1 := Lib.hid (show 0 + m ≤ 1000000000 by omega)
          have B2 := Lib.hid (show all.length + m ≤ 1000000000 by omega)
          go_wp2_with (refine wpList_app rfl (.tmp 56) (.tmp 60) rfl wo.heap.size _ 0 [] rfl F1.out B m d xs rfl R1.out B1.out S1.out ?_)
          intro v8 wa hown8 hgr8
          have hra : wo.grownBy wa none := gb_own (gb_alloc (gb_refl _ _) _) hgr8 (fun b e => (F1.out.lt b e).1)
          obtain ⟨A8, c8, rfl, hB8⟩ := own_apart hown8 hgo
          have hba := hb.grown hra (by simp)
          have hTa := hTo.grown hra (by simp)
          have hgwa := gb_trans hgw1 hra
          clear F1 R1 S1
          go_wp2_with fail
          refine (write_any g h0 (pre ++ all) xs h' buf' f' d' all.length A8 m c8 _ hba HI.out hB8 h3g hTa (by omega) (by omega) (by rw [List.length_append]; have := HPL.out; omega)).mono ?_
          rintro e wb ⟨rfl, h2, buf2, f2, d2, hbb, hI2, hgb⟩
          rw [List.append_assoc] at hI2
          have HI2 := Bx.mk hI2
          clear hI2
          have hgwb : w.grownBy wb none := gb_new hgwa hgb hgw
          have hownb := (hown.kept hra (own_none hown)).kept hgb (own_not (hown.kept hra (own_none hown)) hg3)
          have hown8b := hown8.kept hgb (own_not hown8 hgo)
          have hTb := hT.grown hgwb (by simp)
          have hszb : w3.heap.size ≤ wb.heap.size := Nat.le_trans hsz (Nat.le_trans hra.size hgb.size)
          go_wp2_with fail
          go_loopw [9] (fun kv wi => ∃ (j : Nat) (ys : List Value), j ≤ m ∧ kv = .int .i64 j ∧ wi.ownsRow wo.heap.size 5 1 (.slice A8 m c8) m ys ∧ wb.grownBy wi (Value.slice A8 m c8).ownBlock)
            (fun kv _ => m - (intOf kv).toNat)
          case atStart => exact ⟨0, _, by omega, rfl, hown8b, gb_refl _ _⟩
          case round =>
            obtain ⟨j, ys, hj, rfl, hownj, hgj⟩ := hrel
            by_cases hjm : j < m
            · have q1 : (j : Int) < m := by omega
              obtain ⟨o, cp, hv, ho1, ho2⟩ := hownj.form (by omega)
              injection hv with hv1 hv2 hv3
              subst hv1
              have hyl := hownj.1
              obtain ⟨uj, cj⟩ : ∃ u, wr.cell? ⟨o, j, none⟩ = some u := ⟨ys[j]'(by omega), by rw [hownj.cellAt j (by omega), List.getElem?_eq_getElem (by omega)]⟩
              have fj := hownj.frozenAt j
              obtain ⟨hs1, hs2⟩ := hownj.stored j (.int .u8 7)
              have HS1 := Lib.hid hs1
              have HS2 := Lib.hid hs2
              clear hs1 hs2 hyl
              go_wp2_with fail
              go_roundw
              case rel => exact ⟨j + 1, _, by omega, by go_num, HS1.out, gb_trans hgj HS2.out⟩
              case measure => simp [intOf]; omega
            · have q1 : ¬ (j : Int) < m := by omega
              have hgwc : w.grownBy wr none := gb_own hgwb hgj (fun b e => by have := (hown8b.lt b e).1; have := hgw1.size; omega)
              have hownc := hownb.kept hgj (own_far hown (fun o e => (hown8b.lt o e).1))
              have hbc := hbb.grown hgj (fun e => by have := (hown8b.lt g e.symm).1; omega)
              have hck2 : wr.cell? (ad.add k) = some (.slice B m d) := hgwc.cell HC0.out (by simp)
              have R2 := Lib.hid (HX0.out.grown hgwc)
              have S2 := Lib.hid (Nat.le_trans hszb hgj.size)
              clear hownj
              go_wp2_with (refine wpList_app rfl (.tmp 74) (.tmp 78) rfl w3.heap.size _ all.length all rfl hownc B m d xs rfl R2.out B2.out S2.out ?_)
              intro v9 wd hown9 hgr9
              rw [← List.map_append] at hown9
              have hgwd : w.grownBy wd none := gb_own hgwc hgr9 (fun b e => by have := (hownc.lt b e).1; have := hgw3.size; omega)
              have hbd := hbc.notOwn hownc hgr9 hg3
              have hTd := hT.grown hgwd (by simp)
              have hszd : w3.heap.size ≤ wd.heap.size := Nat.le_trans S2.out hgr9.size
              obtain ⟨A9, c9, rfl, hB9⟩ := own_apart hown9 hg3
              have HB9 := Lib.hid hB9
              clear hB9 hB8 hB6
              have HL := Bx.mk (show (all ++ xs).length = all.length + m by rw [List.length_append, HXM.out])
              by_cases h3 : k % 3 = 1
              · have t1 : (k : Int) % 3 = 1 := by omega
                have t2 : (k : Int).tmod 3 = 1 := by rw [Int.tmod_eq_emod_of_nonneg (by omega)]; exact t1
                go_wp2_with fail
                refine (sum_any g h0 (pre ++ (all ++ xs)) h2 buf2 f2 d2 _ _ hbd HI2.out hTd (by rw [List.length_append, HL.out]; have := HPL.out; omega)).mono ?_
                rintro e we ⟨rfl, hge⟩
                have hbe := hbd.grown hge (by simp)
                have howne := hown9.kept hge (own_none hown9)
                go_wp2_with fail
                refine (len_any g h2 buf2 f2 d2 _ _ hbe).mono ?_
                rintro e wf ⟨rfl, rfl⟩
                go_wp2_with fail
                go_roundw
                case rel =>
                  refine ⟨k + 1, all ++ xs, h2, buf2, f2, d2, by omega, by go_num, by rw [HL.out]; omega, by rw [HL.out]; exact howne, by rw [HL.out]; exact hbe, HI2, gb_trans hgwd hge, Nat.le_trans hszd hge.size⟩
                case measure => simp [intOf]; omega
              · obtain ⟨r, hr3⟩ : ∃ r, r = k % 3 := ⟨_, rfl⟩
                have t1 : ¬ (k : Int) % 3 = 1 := by omega
                have t2 : (k : Int).tmod 3 = r := by rw [Int.tmod_eq_emod_of_nonneg (by omega)]; omega
                have t3 : ¬ (r : Int) = 1 := by omega
                go_wp2_with fail
                refine (len_any g h2 buf2 f2 d2 _ _ hbd).mono ?_
                rintro e wf ⟨rfl, rfl⟩
                go_wp2_with fail
                go_roundw
                case rel =>
                  refine ⟨k + 1, all ++ xs, h2, buf2, f2, d2, by omega, by go_num, by rw [HL.out]; omega, by rw [HL.out]; exact hown9, by rw [HL.out]; exact hbd, HI2, hgwd, hszd⟩
                case measure => simp [intOf]; omega
    · have hi1 : ¬ (k : Int) < n := by omega
      obtain ⟨A6, c6, rfl, R6⟩ := RdS.own hown
      have HR6 := Lib.hid R6
      clear R6
      go_wp2_with fail
      refine (psum_any A6 all.length c6 all _ HR6.out hTo (by omega)).mono ?_
      rintro e wa ⟨rfl, hga⟩
      have hgwa := gb_trans hgw1 hga
      have hTa := hT.grown hgwa (by simp)
      have hba := hb.grown hga (by simp)
      rw [HW.out]
      go_wp2_with fail
      refine (sum_any g h0 (pre ++ all) h' buf' f' d' _ _ hba HI.out hTa (by rw [List.length_append]; have := HPL.out; omega)).mono ?_
      rintro e wc ⟨rfl, hgc⟩
      have hgwc := gb_trans hgwa hgc
      have hTc := hT.grown hgwc (by simp)
      have hbc := hba.grown hgc (by simp)
      go_wp2_with fail
      refine (sum_any g h0 (pre ++ all) h' buf' f' d' _ _ hbc HI.out hTc (by rw [List.length_append]; have := HPL.out; omega)).mono ?_
      rintro e we ⟨rfl, hge⟩
      go_wp2_with fail
      go_ret
      exact ⟨rfl, gb_trans hgwc hge⟩


set_option maxRecDepth 1000000 in
set_option maxHeartbeats 4000000 in
theorem writes_near1 (A A2 : Option Addr) (n c n2 c2 : Nat) (xss : List (Option Addr × Nat × Nat × List Int)) (ks : List Int) (w : World) (hT : Tabs w) (hr : RdSS w A n c xss) (hr2 : RdS w A2 n2 c2 ks) (hn : n ≤ 40) (h1 : 1 ≤ n2) (h2 : n2 ≤ 32) :
    Calls Tryd.prog 7 #[.slice A n c, .slice A2 n2 c2] w fun e w' => e = .returned (.bool true) ∧ w.grownBy w' none := by
  have z1 : ¬ (40 : Int) < n := by omega
  have z2 : ¬ (32 : Int) < n2 := by omega
  have z3 : (0 : Int) < n2 := by omega
  have HR := Lib.hid hr
  clear hr
  go_enter Tryd.func7, Tryd.ntmps7
  go_wp2_with fail
  refine (awake_any _ hT).mono ?_
  rintro e w1 ⟨rfl, hg1⟩
  have hT1 := hT.grown hg1 (by simp)
  go_wp2_with fail
  refine (new_any _ hT1).mono ?_
  rintro e w2 ⟨g0, rfl, hgs0, hb0, hg2⟩
  have hT2 := hT1.grown hg2 (by simp)
  have h3g0 : 3 ≤ g0 := Nat.le_trans hT1.2.2.2 hgs0
  have hgw2 := gb_trans hg1 hg2
  have hgw0 : w.heap.size ≤ g0 := Nat.le_trans hg1.size hgs0
  go_wp2_with fail
  refine (newKeyed_yes A2 n2 c2 ks _ (hr2.grown hgw2) hT2 (by omega) (by omega)).mono ?_
  rintro e w3 ⟨g, h', buf', f', d', rfl, hgs, hb3, hI3, hg3⟩
  have hT3 := hT2.grown hg3 (by simp)
  have hgw3 := gb_trans hgw2 hg3
  have hgw : w.heap.size ≤ g := Nat.le_trans hgw2.size hgs
  have h3g : 3 ≤ g := Nat.le_trans hT2.2.2.2 hgs
  have hkl : (keyBlock ks).length = 64 := keyBlock_length (by rw [hr2.1]; omega)
  obtain ⟨pre, hpre⟩ : ∃ p, p = keyBlock ks := ⟨_, rfl⟩
  obtain ⟨h0, hh0⟩ : ∃ h, h = hStart n2 := ⟨_, rfl⟩
  rw [← hpre] at hI3 hkl
  rw [← hh0] at hI3
  have hpl : pre.length ≤ 64 := by omega
  have HW := Bx.mk (show ∀ all : List Int, keyedS ks all = digestS h0 (pre ++ all) from fun all => by rw [keyedS, hpre, hh0, hr2.1])
  have HI3 := Bx.mk hI3
  have HPL := Bx.mk hpl
  clear hI3 hpl hpre hh0
  go_wp2_with fail
  go_loopw [6, 7] (fun v cv wr => ∃ (k : Nat) (all : List Int) (h' buf' : Nat → Int) (f' : Nat) (d' : Int), k ≤ n ∧ cv = .int .i64 k ∧ all.length ≤ 2000 ∧ wr.ownsRow w3.heap.size 5 1 v all.length (all.map (Value.int .u8)) ∧
      Blk wr g 51 (stCells h' buf' f' d' all.length) ∧ Bx (WInv h0 (pre ++ all) h' buf' f' d') ∧ w.grownBy wr none ∧ w3.heap.size ≤ wr.heap.size)
    (fun _ cv _ => n - (intOf cv).toNat)
  case atStart => exact ⟨0, [], _, _, _, _, by omega, rfl, by simp, own_empty w3 w3.heap.size (Nat.le_refl _), hb3.alloc _, ⟨by rw [List.append_nil]; exact HI3.out⟩, gb_alloc hgw3 _, by simp⟩
  case round =>
    obtain ⟨k, all, h', buf', f', d', hk, rfl, hal, hown, hb, HI, hgw1, hsz⟩ := hrel
    obtain ⟨wo, hwo⟩ : ∃ x, x = wr := ⟨_, rfl⟩
    subst hwo
    have hg3 : g < w3.heap.size := hb3.lt
    have hgo : g < wo.heap.size := hb.lt
    have hTo := hT.grown hgw1 (by simp)
    by_cases hlt : k < n
    · obtain ⟨hxl, hnc, hxa⟩ := HR.out
      obtain ⟨ad, rfl, hab, hxat⟩ := hxa (by omega)
      obtain ⟨⟨B, m, d, xs⟩, hxk⟩ : ∃ x, xss[k]? = some x := ⟨_, List.getElem?_eq_getElem (by omega)⟩
      obtain ⟨hc0, hrx0⟩ := hxat k B m d xs hxk
      have hck : wo.cell? (ad.add k) = some (.slice B m d) := hgw1.cell hc0 (by simp)
      have HRX := Lib.hid (hrx0.grown hgw1)
      have HXM := Bx.mk hrx0.1
      have HX0 := Lib.hid hrx0
      have HC0 := Lib.hid hc0
      clear hxat hxa hrx0 hc0 hxk hxl
      obtain ⟨A6, c6, rfl, hB6⟩ := own_apart hown hg3
      have hi1 : (k : Int) < n := by omega
      by_cases hm : 2000 < m
      · have y1 : (2000 : Int) < m := by omega
        go_wp2
        go_ret
        exact ⟨rfl, hgw1⟩
      · have y1 : ¬ (2000 : Int) < m := by omega
        by_cases hm2 : 2000 < all.length + m
        · have y2 : (2000 : Int) < (all.length : Int) + m := by omega
          go_wp2
          go_ret
          exact ⟨rfl, hgw1⟩
        · have y2 : ¬ (2000 : Int) < (all.length : Int) + m := by omega
          have F1 := Lib.hid (own_empty wo wo.heap.size (Nat.le_refl _))
          have R1 := Lib.hid (HRX.out.grown (World.grownBy_alloc wo (.cells #[] 5) none))
          have S1 := Lib.hid (show wo.heap.size ≤ (wo.alloc (.cells #[] 5)).heap.size by simp)
          have hck1 : (wo.alloc (.cells #[] 5)).cell? (ad.add k) = some (.slice B m d) := (World.grownBy_alloc wo (.cells #[] 5) none).cell hck (by simp)
          have B1 := Lib.hid (show 0 + m ≤ 1000000000 by omega)
          have B2 := Lib.hid (show all.length + m ≤ 1000000000 by omega)
          go_wp2_with (refine wpList_app rfl (.tmp 56) (.tmp 60) rfl wo.heap.size _ 0 [] rfl F1.out B m d xs rfl R1.out B1.out S1.out ?_)
          intro v8 wa hown8 hgr8
          have hra : wo.grownBy wa none := gb_own (gb_alloc (gb_refl _ _) _) hgr8 (fun b e => (F1.out.lt b e).1)
          obtain ⟨A8, c8, rfl, hB8⟩ := own_apart hown8 hgo
          have hba := hb.grown hra (by simp)
          have hTa := hTo.grown hra (by simp)
          have hgwa := gb_trans hgw1 hra
          clear F1 R1 S1
          go_wp2_with fail
          refine (write_any g h0 (pre ++ all) xs h' buf' f' d' all.length A8 m c8 _ hba HI.out hB8 h3g hTa (by omega) (by omega) (by rw [List.length_append]; have := HPL.out; omega)).mono ?_
          rintro e wb ⟨rfl, h2, buf2, f2, d2, hbb, hI2, hgb⟩
          rw [List.append_assoc] at hI2
          have HI2 := Bx.mk hI2
          clear hI2
          have hgwb : w.grownBy wb none := gb_new hgwa hgb hgw
          have hownb := (hown.kept hra (own_none hown)).kept hgb (own_not (hown.kept hra (own_none hown)) hg3)
          have hown8b := hown8.kept hgb (own_not hown8 hgo)
          have hTb := hT.grown hgwb (by simp)
          have hszb : w3.heap.size ≤ wb.heap.size := Nat.le_trans hsz (Nat.le_trans hra.size hgb.size)
          go_wp2_with fail
          go_loopw [9] (fun kv wi => ∃ (j : Nat) (ys : List Value), j ≤ m ∧ kv = .int .i64 j ∧ wi.ownsRow wo.heap.size 5 1 (.slice A8 m c8) m ys ∧ wb.grownBy wi (Value.slice A8 m c8).ownBlock)
            (fun kv _ => m - (intOf kv).toNat)
          case atStart => exact ⟨0, _, by omega, rfl, hown8b, gb_refl _ _⟩
          case round =>
            obtain ⟨j, ys, hj, rfl, hownj, hgj⟩ := hrel
            by_cases hjm : j < m
            · have q1 : (j : Int) < m := by omega
              obtain ⟨o, cp, hv, ho1, ho2⟩ := hownj.form (by omega)
              injection hv with hv1 hv2 hv3
              subst hv1
              have hyl := hownj.1
              obtain ⟨uj, cj⟩ : ∃ u, wr.cell? ⟨o, j, none⟩ = some u := ⟨ys[j]'(by omega), by rw [hownj.cellAt j (by omega), List.getElem?_eq_getElem (by omega)]⟩
              have fj := hownj.frozenAt j
              obtain ⟨hs1, hs2⟩ := hownj.stored j (.int .u8 7)
              have HS1 := Lib.hid hs1
              have HS2 := Lib.hid hs2
              clear hs1 hs2 hyl
              go_wp2_with fail
              go_roundw
              case rel => exact ⟨j + 1, _, by omega, by go_num, HS1.out, gb_trans hgj HS2.out⟩
              case measure => simp [intOf]; omega
            · have q1 : ¬ (j : Int) < m := by omega
              have hgwc : w.grownBy wr none := gb_own hgwb hgj (fun b e => by have := (hown8b.lt b e).1; have := hgw1.size; omega)
              have hownc := hownb.kept hgj (own_far hown (fun o e => (hown8b.lt o e).1))
              have hbc := hbb.grown hgj (fun e => by have := (hown8b.lt g e.symm).1; omega)
              have hck2 : wr.cell? (ad.add k) = some (.slice B m d) := hgwc.cell HC0.out (by simp)
              have R2 := Lib.hid (HX0.out.grown hgwc)
              have S2 := Lib.hid (Nat.le_trans hszb hgj.size)
              clear hownj
              go_wp2_with (refine wpList_app rfl (.tmp 74) (.tmp 78) rfl w3.heap.size _ all.length all rfl hownc B m d xs rfl R2.out B2.out S2.out ?_)
              intro v9 wd hown9 hgr9
              rw [← List.map_append] at hown9
              have hgwd : w.grownBy wd none := gb_own hgwc hgr9 (fun b e => by have := (hownc.lt b e).1; have := hgw3.size; omega)
              have hbd := hbc.notOwn hownc hgr9 hg3
              have hTd := hT.grown hgwd (by simp)
              have hszd : w3.heap.size ≤ wd.heap.size := Nat.le_trans S2.out hgr9.size
              obtain ⟨A9, c9, rfl, hB9⟩ := own_apart hown9 hg3
              have HB9 := Lib.hid hB9
              clear hB9 hB8 hB6
              have HL := Bx.mk (show (all ++ xs).length = all.length + m by rw [List.length_append, HXM.out])
              by_cases h3 : k % 3 = 1
              · have t1 : (k : Int) % 3 = 1 := by omega
                have t2 : (k : Int).tmod 3 = 1 := by rw [Int.tmod_eq_emod_of_nonneg (by omega)]; exact t1
                go_wp2_with fail
                refine (sum_any g h0 (pre ++ (all ++ xs)) h2 buf2 f2 d2 _ _ hbd HI2.out hTd (by rw [List.length_append, HL.out]; have := HPL.out; omega)).mono ?_
                rintro e we ⟨rfl, hge⟩
                have hbe := hbd.grown hge (by simp)
                have howne := hown9.kept hge (own_none hown9)
                go_wp2_with fail
                refine (len_any g h2 buf2 f2 d2 _ _ hbe).mono ?_
                rintro e wf ⟨rfl, rfl⟩
                go_wp2_with fail
                go_roundw
                case rel =>
                  refine ⟨k + 1, all ++ xs, h2, buf2, f2, d2, by omega, by go_num, by rw [HL.out]; omega, by rw [HL.out]; exact howne, by rw [HL.out]; exact hbe, HI2, gb_trans hgwd hge, Nat.le_trans hszd hge.size⟩
                case measure => simp [intOf]; omega
              · obtain ⟨r, hr3⟩ : ∃ r, r = k % 3 := ⟨_, rfl⟩
                have t1 : ¬ (k : Int) % 3 = 1 := by omega
                have t2 : (k : Int).tmod 3 = r := by rw [Int.tmod_eq_emod_of_nonneg (by omega)]; omega
                have t3 : ¬ (r : Int) = 1 := by omega
                go_wp2_with fail
                refine (len_any g h2 buf2 f2 d2 _ _ hbd).mono ?_
                rintro e wf ⟨rfl, rfl⟩
                go_wp2_with fail
                go_roundw
                case rel =>
                  refine ⟨k + 1, all ++ xs, h2, buf2, f2, d2, by omega, by go_num, by rw [HL.out]; omega, by rw [HL.out]; exact hown9, by rw [HL.out]; exact hbd, HI2, hgwd, hszd⟩
                case measure => simp [intOf]; omega
    · have hi1 : ¬ (k : Int) < n := by omega
      obtain ⟨A6, c6, rfl, R6⟩ := RdS.own hown
      have HR6 := Lib.hid R6
      clear R6
      go_wp2_with fail
      refine (psum_any A6 all.length c6 all _ HR6.out hTo (by omega)).mono ?_
      rintro e wa ⟨rfl, hga⟩
      have hgwa := gb_trans hgw1 hga
      have hTa := hT.grown hgwa (by simp)
      have hba := hb.grown hga (by simp)
      go_wp2_with fail
      refine (keyed_yes A2 A6 n2 c2 all.length c6 ks all _ (hr2.grown hgwa) (HR6.out.grown hga) hTa (by omega) (by omega) (by omega)).mono ?_
      rintro e wk ⟨rfl, hgk⟩
      replace hgwa := gb_trans hgwa hgk
      replace hTa := hT.grown hgwa (by simp)
      replace hba := hba.grown hgk (by simp)
      rw [HW.out]
      go_wp2_with fail
      refine (sum_any g h0 (pre ++ all) h' buf' f' d' _ _ hba HI.out hTa (by rw [List.length_append]; have := HPL.out; omega)).mono ?_
      rintro e wc ⟨rfl, hgc⟩
      have hgwc := gb_trans hgwa hgc
      have hTc := hT.grown hgwc (by simp)
      have hbc := hba.grown hgc (by simp)
      go_wp2_with fail
      refine (sum_any g h0 (pre ++ all) h' buf' f' d' _ _ hbc HI.out hTc (by rw [List.length_append]; have := HPL.out; omega)).mono ?_
      rintro e we ⟨rfl, hge⟩
      go_wp2_with fail
      go_ret
      exact ⟨rfl, gb_trans hgwc hge⟩

theorem writes_any (A A2 : Option Addr) (n c n2 c2 : Nat) (xss : List (Option Addr × Nat × Nat × List Int)) (ks : List Int) (w : World) (hT : Tabs w) (hr : RdSS w A n c xss) (hr2 : RdS w A2 n2 c2 ks) :
    Calls Tryd.prog 7 #[.slice A n c, .slice A2 n2 c2] w fun e w' => e = .returned (.bool true) ∧ w.grownBy w' none := by
  by_cases h : 40 < n ∨ 32 < n2
  · exact writes_far A A2 n c n2 c2 w hT h
  · rcases Nat.eq_zero_or_pos n2 with h0 | h0
    · exact writes_near0 A A2 n c n2 c2 xss ks w hT hr hr2 (by omega) h0
    · exact writes_near1 A A2 n c n2 c2 xss ks w hT hr hr2 (by omega) h0 (by omega)
end Go.Proofs.YtmedobeogdnkfaaDoor
