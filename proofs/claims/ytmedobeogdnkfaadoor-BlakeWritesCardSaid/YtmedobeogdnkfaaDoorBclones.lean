/- The walk over salchowlaw03.BlakeClones. -/
import Derived.Test.YtmedobeogdnkfaaDoorBapp
namespace Go.Proofs.YtmedobeogdnkfaaDoor
open Go.RowKit

theorem clones_far (A1 A2 A3 : Option Addr) (n1 n2 n3 c1 c2 c3 : Nat) (w : World) (hT : Tabs w) (h : 2000 < n1 ∨ 2000 < n2 ∨ 2000 < n3) :
    Calls Tryd.prog 4 #[.slice A1 n1 c1, .slice A2 n2 c2, .slice A3 n3 c3] w fun e w' => e = .returned (.bool true) ∧ w.grownBy w' none := by
  by_cases h1 : 2000 < n1
  · have z1 : (2000 : Int) < n1 := by omega
    go_enter Tryd.func4, Tryd.ntmps4
    go_wp2_with fail
    refine (awake_any _ hT).mono ?_
    rintro e w1 ⟨rfl, hg⟩
    go_wp2
    go_ret
    exact ⟨rfl, hg⟩
  · have z1 : ¬ (2000 : Int) < n1 := by omega
    by_cases h2 : 2000 < n2
    · have z2 : (2000 : Int) < n2 := by omega
      go_enter Tryd.func4, Tryd.ntmps4
      go_wp2_with fail
      refine (awake_any _ hT).mono ?_
      rintro e w1 ⟨rfl, hg⟩
      go_wp2
      go_ret
      exact ⟨rfl, hg⟩
    · have z2 : ¬ (2000 : Int) < n2 := by omega
      have z3 : (2000 : Int) < n3 := by omega
      go_enter Tryd.func4, Tryd.ntmps4
      go_wp2_with fail
      refine (awake_any _ hT).mono ?_
      rintro e w1 ⟨rfl, hg⟩
      go_wp2
      go_ret
      exact ⟨rfl, hg⟩

set_option maxRecDepth 1000000 in
set_option maxHeartbeats 2000000 in
theorem clones_near (A1 A2 A3 : Option Addr) (n1 n2 n3 c1 c2 c3 : Nat) (xs ys zs : List Int) (w : World) (hT : Tabs w) (hr1 : RdS w A1 n1 c1 xs) (hr2 : RdS w A2 n2 c2 ys) (hr3 : RdS w A3 n3 c3 zs) (h1 : n1 ≤ 2000) (h2 : n2 ≤ 2000) (h3 : n3 ≤ 2000) :
    Calls Tryd.prog 4 #[.slice A1 n1 c1, .slice A2 n2 c2, .slice A3 n3 c3] w fun e w' => e = .returned (.bool true) ∧ w.grownBy w' none := by
  have z1 : ¬ (2000 : Int) < n1 := by omega
  have z2 : ¬ (2000 : Int) < n2 := by omega
  have z3 : ¬ (2000 : Int) < n3 := by omega
  have l1 := hr1.1
  have l2 := hr2.1
  have l3 := hr3.1
  have L1 := Bx.mk l1
  have L2 := Bx.mk l2
  have L3 := Bx.mk l3
  clear l1 l2 l3
  go_enter Tryd.func4, Tryd.ntmps4
  go_wp2_with fail
  refine (awake_any _ hT).mono ?_
  rintro e w1 ⟨rfl, hg1⟩
  have hT1 := hT.grown hg1 (by simp)
  go_wp2_with fail
  refine (new_any _ hT1).mono ?_
  rintro e w2 ⟨g, rfl, hgs, hb2, hg2⟩
  have hT2 := hT1.grown hg2 (by simp)
  have h3g : 3 ≤ g := Nat.le_trans hT1.2.2.2 hgs
  have hgw2 := gb_trans hg1 hg2
  have hgw : w.heap.size ≤ g := Nat.le_trans hg1.size hgs
  go_wp2_with fail
  refine (write_any g (hStart 0) [] xs (hStart 0) (fun _ => 0) 0 0 0 A1 n1 c1 _ hb2 (WInv.start _ _) (hr1.apart hgw2 hgw) h3g hT2 (by decide) (by omega) (by simp; omega)).mono ?_
  rintro e w3 ⟨rfl, h', buf', f', d', hb3, hI3, hg3⟩
  rw [List.nil_append] at hI3
  have HI3 := Bx.mk hI3
  clear hI3
  rw [show (0 : Int) + n1 = n1 from by omega] at hb3
  have hT3 := hT2.grown hg3 (fun k e => by injection e with e; omega)
  have hgw3 := gb_new hgw2 hg3 hgw
  go_wp2_with fail
  refine (clone_any g h' buf' f' d' n1 _ hb3).mono ?_
  rintro e w4 ⟨t, rfl, hts, hbt4, hg4⟩
  have hT4 := hT3.grown hg4 (by simp)
  have hgt : g ≠ t := Nat.ne_of_lt (Nat.lt_of_lt_of_le hb3.lt hts)
  have hb4 := hb3.grown hg4 (by simp)
  have hgw4 := gb_trans hgw3 hg4
  have h3t : 3 ≤ t := by have := hb3.lt; omega
  have htw : w.heap.size ≤ t := Nat.le_trans hgw3.size hts
  go_wp2_with fail
  refine (len_any t h' buf' f' d' n1 _ hbt4).mono ?_
  rintro e w5 ⟨rfl, rfl⟩
  go_wp2_with fail
  refine (write_any g (hStart 0) xs ys h' buf' f' d' n1 A2 n2 c2 _ hb4 HI3.out (hr2.apart hgw4 hgw) h3g hT4 (by omega) (by omega) (by rw [L1.out]; omega)).mono ?_
  rintro e w6 ⟨rfl, h6, buf6, f6, d6, hb6, hI6, hg6⟩
  have HI6 := Bx.mk hI6
  clear hI6
  have hT6 := hT4.grown hg6 (fun k e => by injection e with e; omega)
  have hbt6 := hbt4.grown hg6 (by intro e; injection e with e; exact hgt e.symm)
  have hgw6 := gb_new hgw4 hg6 hgw
  go_wp2_with fail
  refine (write_any t (hStart 0) xs zs h' buf' f' d' n1 A3 n3 c3 _ hbt6 HI3.out (hr3.apart hgw6 htw) h3t hT6 (by omega) (by omega) (by rw [L1.out]; omega)).mono ?_
  rintro e w7 ⟨rfl, h7, buf7, f7, d7, hb7, hI7, hg7⟩
  have HI7 := Bx.mk hI7
  clear hI7
  have hT7 := hT6.grown hg7 (fun k e => by injection e with e; omega)
  have hbg7 := hb6.grown hg7 (by intro e; injection e with e; exact hgt e)
  have hgw7 := gb_new hgw6 hg7 htw
  go_wp2_with fail
  refine (sum_any g (hStart 0) (xs ++ ys) h6 buf6 f6 d6 _ _ hbg7 HI6.out hT7 (by rw [List.length_append, L1.out, L2.out]; omega)).mono ?_
  rintro e w8 ⟨rfl, hg8⟩
  have hgw8 := gb_trans hgw7 hg8
  have B1 : 0 + n1 ≤ 1000000000 := by omega
  have B2 : n1 + n2 ≤ 1000000000 := by omega
  have B3 : n1 + n3 ≤ 1000000000 := by omega
  have HB1 := Lib.hid B1; have HB2 := Lib.hid B2; have HB3 := Lib.hid B3
  clear B1 B2 B3
  have F1 := Lib.hid (own_empty w8 w8.heap.size (Nat.le_refl _))
  have R1 := Lib.hid ((hr1.grown hgw8).grown (World.grownBy_alloc w8 (.cells #[] 5) none))
  have S1 := Lib.hid (show w8.heap.size ≤ (w8.alloc (.cells #[] 5)).heap.size by simp)
  go_wp2_with (refine wpList_app rfl (.tmp 47) (.tmp 48) rfl w8.heap.size _ 0 [] rfl F1.out A1 n1 c1 xs rfl R1.out HB1.out S1.out ?_)
  intro v9 w9 hown9 hgr9
  have h89 : w8.grownBy w9 none := gb_own (gb_alloc (gb_refl _ _) _) hgr9 (fun b e => (F1.out.lt b e).1)
  have R2 := Lib.hid (hr2.grown (gb_trans hgw8 h89))
  have S2 := Lib.hid h89.size
  go_wp2_with (refine wpList_app rfl (.tmp 49) (.tmp 50) rfl w8.heap.size _ n1 xs rfl hown9 A2 n2 c2 ys rfl R2.out HB2.out S2.out ?_)
  intro v10 w10 hown10 hgr10
  have h8a : w8.grownBy w10 none := gb_own h89 hgr10 (fun b e => (hown9.lt b e).1)
  rw [← List.map_append] at hown10
  obtain ⟨A10, c10, rfl, R10⟩ := RdS.own hown10
  have hT10 := hT.grown (gb_trans hgw8 h8a) (by simp)
  go_wp2_with fail
  refine (psum_any A10 (n1 + n2) c10 (xs ++ ys) _ R10 hT10 (by omega)).mono ?_
  rintro e w11 ⟨rfl, hg11⟩
  have h811 := gb_trans h8a hg11
  have hgw11 := gb_trans hgw8 h811
  have hb11 := hb7.grown (gb_trans hg8 h811) (by simp)
  have hT11 := hT.grown hgw11 (by simp)
  go_wp2_with fail
  refine (sum_any t (hStart 0) (xs ++ zs) h7 buf7 f7 d7 _ _ hb11 HI7.out hT11 (by rw [List.length_append, L1.out, L3.out]; omega)).mono ?_
  rintro e w12 ⟨rfl, hg12⟩
  have hgw12 := gb_trans hgw11 hg12
  clear F1 R1 S1 R2 S2
  have F1 := Lib.hid (own_empty w12 w12.heap.size (Nat.le_refl _))
  have R1 := Lib.hid ((hr1.grown hgw12).grown (World.grownBy_alloc w12 (.cells #[] 5) none))
  have S1 := Lib.hid (show w12.heap.size ≤ (w12.alloc (.cells #[] 5)).heap.size by simp)
  go_wp2_with (refine wpList_app_g rfl (.tmp 57) (.tmp 58) rfl w12.heap.size _ 0 [] rfl F1.out A1 n1 c1 xs rfl R1.out HB1.out S1.out ?_)
  intro v13 w13 hown13 hgr13
  have hcd : w12.grownBy w13 none := gb_own (gb_alloc (gb_refl _ _) _) hgr13 (fun b e => (F1.out.lt b e).1)
  have R2 := Lib.hid (hr3.grown (gb_trans hgw12 hcd))
  have S2 := Lib.hid hcd.size
  go_wp2_with (refine wpList_app_g rfl (.tmp 59) (.tmp 60) rfl w12.heap.size _ n1 xs rfl hown13 A3 n3 c3 zs rfl R2.out HB3.out S2.out ?_)
  intro v14 w14 hown14 hgr14
  have hce : w12.grownBy w14 none := gb_own hcd hgr14 (fun b e => (hown13.lt b e).1)
  rw [← List.map_append] at hown14
  obtain ⟨A14, c14, rfl, R14⟩ := RdS.own hown14
  have hT14 := hT.grown (gb_trans hgw12 hce) (by simp)
  go_wp2_with fail
  refine (psum_any A14 (n1 + n3) c14 (xs ++ zs) _ R14 hT14 (by omega)).mono ?_
  rintro e w15 ⟨rfl, hg15⟩
  go_wp2_with fail
  go_ret
  exact ⟨rfl, gb_trans (gb_trans hgw12 hce) hg15⟩

theorem clones_any (A1 A2 A3 : Option Addr) (n1 n2 n3 c1 c2 c3 : Nat) (xs ys zs : List Int) (w : World) (hT : Tabs w) (hr1 : RdS w A1 n1 c1 xs) (hr2 : RdS w A2 n2 c2 ys) (hr3 : RdS w A3 n3 c3 zs) :
    Calls Tryd.prog 4 #[.slice A1 n1 c1, .slice A2 n2 c2, .slice A3 n3 c3] w fun e w' => e = .returned (.bool true) ∧ w.grownBy w' none := by
  by_cases h : 2000 < n1 ∨ 2000 < n2 ∨ 2000 < n3
  · exact clones_far A1 A2 A3 n1 n2 n3 c1 c2 c3 w hT h
  · exact clones_near A1 A2 A3 n1 n2 n3 c1 c2 c3 xs ys zs w hT hr1 hr2 hr3 (by omega) (by omega) (by omega)
end Go.Proofs.YtmedobeogdnkfaaDoor
