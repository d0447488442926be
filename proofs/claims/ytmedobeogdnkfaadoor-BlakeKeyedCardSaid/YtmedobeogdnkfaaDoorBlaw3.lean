/- The walks over BlakeSums, BlakeKeyed and BlakeKeys, and that they answer true. -/
import Derived.Test.YtmedobeogdnkfaaDoorBdig
import Derived.Laws.IdiomStrings
namespace Go.Proofs.YtmedobeogdnkfaaDoor
open Go.RowKit

theorem refsum_any (A : Option Addr) (n c : Nat) (xs : List Int) (w : World) (hr : RdS w A n c xs) (hx : ∀ x ∈ xs, 0 ≤ x ∧ x < 256) (hn : n ≤ 100000) :
    Calls Tryd.prog 12 #[.slice A n c] w fun e w' => e = .returned (.string (digestS (hStart 0) xs)) ∧ w.grownBy w' none := by
  have C := refdigest_any none A 0 0 n c [] xs w (RdS.nil _ _ _) hr (by simp) hx (by omega) hn
  have C' : Calls Tryd.prog 19 #[.slice none 0 0, .slice A n c] w fun e w' => e = .returned (.string (digestS (hStart 0) xs)) ∧ w.grownBy w' none := by
    simpa [keyPart] using C
  have HC := Lib.hid C'
  clear C C' hr hx
  go_enter Tryd.func12, Tryd.ntmps12
  go_wp2_with fail
  refine HC.out.mono ?_
  rintro e w1 ⟨rfl, hg⟩
  go_wp2_with fail
  go_ret
  exact ⟨rfl, hg⟩
theorem keyedS_eq {ks : List Int} {n : Nat} (h : ks.length = n) (h1 : 1 ≤ n) (xs : List Int) : keyedS ks xs = digestS (hStart n) (keyPart ks ++ xs) := by
  rw [keyedS, keyPart, if_neg (by omega), h]
theorem refkeyed_any (A A2 : Option Addr) (n c n2 c2 : Nat) (ks xs : List Int) (w : World) (hr : RdS w A n c ks) (hr2 : RdS w A2 n2 c2 xs) (hk : ∀ x ∈ ks, 0 ≤ x ∧ x < 256) (hx : ∀ x ∈ xs, 0 ≤ x ∧ x < 256) (h1 : 1 ≤ n) (hn : n ≤ 32) (hn2 : n2 ≤ 100000) :
    Calls Tryd.prog 19 #[.slice A n c, .slice A2 n2 c2] w fun e w' => e = .returned (.string (keyedS ks xs)) ∧ w.grownBy w' none := by
  rw [keyedS_eq hr.1 h1]
  exact refdigest_any A A2 n c n2 c2 ks xs w hr hr2 hk hx hn hn2
theorem convert_rds {w : World} {A : Option Addr} {n c : Nat} {xs : List Int} (h : RdS w A n c xs) (hx : ∀ x ∈ xs, 0 ≤ x ∧ x < 256) : (convert 22 9 (.slice A n c)).run Tryd.prog w = .ok (.string (strOfNums xs)) w := by
  rcases A with _ | ad
  · have h0 : n = 0 := by
      rcases Nat.eq_zero_or_pos n with h0 | h0
      · exact h0
      · obtain ⟨_, e, _⟩ := h.2.2 h0; cases e
    obtain rfl : xs = [] := List.eq_nil_of_length_eq_zero (by rw [h.1]; exact h0)
    rw [run_convert_bytes_nil w 22 5 Tryd.underlying22 Tryd.underlying5 n c 9 Tryd.underlying9]
    rfl
  · have hl : (xs.map fun n => UInt8.ofNat n.toNat).length = n := by rw [List.length_map, h.1]
    have := run_convert_bytes_back (P := Tryd.prog) w 22 9 5 ad c (xs.map fun n => UInt8.ofNat n.toNat) Tryd.underlying22 Tryd.underlying5 Tryd.underlying9 (fun j hj => by
      have hj' : j < n := by omega
      obtain ⟨ad', e, _, hc⟩ := h.2.2 (by omega)
      injection e with e
      subst e
      have hjx : j < xs.length := by rw [h.1]; exact hj'
      rw [hc j (.int .u8 xs[j]) (by rw [List.getElem?_map, List.getElem?_eq_getElem hjx]; rfl)]
      have hb := hx xs[j] (List.getElem_mem hjx)
      simp only [List.getElem_map]
      congr 2
      obtain ⟨k, hk⟩ := Int.eq_ofNat_of_zero_le hb.1
      rw [hk] at hb ⊢
      simp
      omega)
    rw [hl] at this
    exact this

set_option maxRecDepth 100000 in
set_option maxHeartbeats 1000000 in
theorem sums_any (A : Option Addr) (n c : Nat) (xs : List Int) (w : World) (hT : Tabs w) (hr : RdS w A n c xs) (hx : ∀ x ∈ xs, 0 ≤ x ∧ x < 256) :
    Calls Tryd.prog 3 #[.slice A n c] w fun e w' => e = .returned (.bool true) ∧ w.grownBy w' none := by
  by_cases h1 : 2000 < n
  · have z1 : (2000 : Int) < n := by omega
    clear hx hr
    go_enter Tryd.func3, Tryd.ntmps3
    go_wp2_with fail
    refine (awake_any _ hT).mono ?_
    rintro e w1 ⟨rfl, hg⟩
    go_wp2
    go_ret
    exact ⟨rfl, hg⟩
  · have z1 : ¬ (2000 : Int) < n := by omega
    have HR := Lib.hid hr
    have HX := Lib.hid hx
    clear hr hx
    go_enter Tryd.func3, Tryd.ntmps3
    go_wp2_with fail
    refine (awake_any _ hT).mono ?_
    rintro e w1 ⟨rfl, hg1⟩
    go_wp2_with fail
    refine (psum_any A n c xs _ (HR.out.grown hg1) (hT.grown hg1 (by simp)) (by omega)).mono ?_
    rintro e w2 ⟨rfl, hg2⟩
    go_wp2_with fail
    refine (refsum_any A n c xs _ (HR.out.grown (gb_trans hg1 hg2)) HX.out (by omega)).mono ?_
    rintro e w3 ⟨rfl, hg3⟩
    go_wp2_with fail
    go_ret
    exact ⟨rfl, gb_trans (gb_trans hg1 hg2) hg3⟩

set_option maxRecDepth 100000 in
set_option maxHeartbeats 2000000 in
theorem keyedlaw_any (A A2 : Option Addr) (n c n2 c2 : Nat) (ks xs : List Int) (w : World) (hT : Tabs w) (hr : RdS w A n c ks) (hr2 : RdS w A2 n2 c2 xs) (hk : ∀ x ∈ ks, 0 ≤ x ∧ x < 256) (hx : ∀ x ∈ xs, 0 ≤ x ∧ x < 256) :
    Calls Tryd.prog 6 #[.slice A n c, .slice A2 n2 c2] w fun e w' => e = .returned (.bool true) ∧ w.grownBy w' none := by
  by_cases h1 : 2000 < n
  · have z1 : (2000 : Int) < n := by omega
    clear hx hr hr2 hk
    go_enter Tryd.func6, Tryd.ntmps6
    go_wp2_with fail
    refine (awake_any _ hT).mono ?_
    rintro e w1 ⟨rfl, hg⟩
    go_wp2
    go_ret
    exact ⟨rfl, hg⟩
  have z1 : ¬ (2000 : Int) < n := by omega
  by_cases h2 : 2000 < n2
  · have z2 : (2000 : Int) < n2 := by omega
    clear hx hr hr2 hk
    go_enter Tryd.func6, Tryd.ntmps6
    go_wp2_with fail
    refine (awake_any _ hT).mono ?_
    rintro e w1 ⟨rfl, hg⟩
    go_wp2
    go_ret
    exact ⟨rfl, hg⟩
  have z2 : ¬ (2000 : Int) < n2 := by omega
  by_cases h3 : n < 1 ∨ 32 < n
  · have HN := Lib.hid h3
    have h4 : (n : Int) < 1 ∨ ¬ (n : Int) < 1 ∧ (32 : Int) < n := by omega
    clear hx hr hr2 hk h3
    rcases h4 with z3 | ⟨z3, z4⟩
    · go_enter Tryd.func6, Tryd.ntmps6
      go_wp2_with fail
      refine (awake_any _ hT).mono ?_
      rintro e w1 ⟨rfl, hg⟩
      go_wp2_with fail
      refine (keyed_no A A2 n c n2 c2 _ HN.out).mono ?_
      rintro e w2 ⟨rfl, rfl⟩
      go_wp2_with fail
      refine (newKeyed_no A n c _ HN.out).mono ?_
      rintro e w3 ⟨rfl, rfl⟩
      go_wp2_with fail
      go_ret
      exact ⟨rfl, hg⟩
    · go_enter Tryd.func6, Tryd.ntmps6
      go_wp2_with fail
      refine (awake_any _ hT).mono ?_
      rintro e w1 ⟨rfl, hg⟩
      go_wp2_with fail
      refine (keyed_no A A2 n c n2 c2 _ HN.out).mono ?_
      rintro e w2 ⟨rfl, rfl⟩
      go_wp2_with fail
      refine (newKeyed_no A n c _ HN.out).mono ?_
      rintro e w3 ⟨rfl, rfl⟩
      go_wp2_with fail
      go_ret
      exact ⟨rfl, hg⟩
  have z3 : ¬ (n : Int) < 1 := by omega
  have z4 : ¬ (32 : Int) < n := by omega
  have hkb : (keyBlock ks).length = 64 := keyBlock_length (by rw [hr.1]; omega)
  have HKB := Bx.mk hkb
  have HL := Bx.mk hr.1
  have HL2 := Bx.mk hr2.1
  have HR := Lib.hid hr
  have HR2 := Lib.hid hr2
  have HK := Lib.hid hk
  have HX := Lib.hid hx
  clear hr hr2 hk hx hkb h3
  go_enter Tryd.func6, Tryd.ntmps6
  go_wp2_with fail
  refine (awake_any _ hT).mono ?_
  rintro e w1 ⟨rfl, hg1⟩
  have hT1 := hT.grown hg1 (by simp)
  go_wp2_with fail
  refine (keyed_yes A A2 n c n2 c2 ks xs _ (HR.out.grown hg1) (HR2.out.grown hg1) hT1 (by omega) (by omega) (by omega)).mono ?_
  rintro e w2 ⟨rfl, hg2⟩
  have hg12 := gb_trans hg1 hg2
  have hT2 := hT.grown hg12 (by simp)
  go_wp2_with fail
  refine (newKeyed_yes A n c ks _ (HR.out.grown hg12) hT2 (by omega) (by omega)).mono ?_
  rintro e w3 ⟨g, h', buf', f', d', rfl, hgs, hb3, hI3, hg3⟩
  have hg13 := gb_trans hg12 hg3
  have hT3 := hT.grown hg13 (by simp)
  have HI3 := Bx.mk hI3
  clear hI3
  have hgw : w.heap.size ≤ g := Nat.le_trans hg12.size hgs
  have h3g : 3 ≤ g := Nat.le_trans hT.2.2.2 hgw
  go_wp2_with fail
  refine (len_any g h' buf' f' d' 0 _ hb3).mono ?_
  rintro e w4 ⟨rfl, rfl⟩
  go_wp2_with fail
  refine (write_any g (hStart n) (keyBlock ks) xs h' buf' f' d' 0 A2 n2 c2 _ hb3 HI3.out (HR2.out.apart hg13 hgw) h3g hT3 (by decide) (by omega) (by rw [HKB.out]; omega)).mono ?_
  rintro e w5 ⟨rfl, h5, buf5, f5, d5, hb5, hI5, hg5⟩
  rw [show (0 : Int) + n2 = n2 from by omega] at hb5
  have HI5 := Bx.mk hI5
  clear hI5
  have hg15 := gb_new hg13 hg5 hgw
  have hT5 := hT.grown hg15 (by simp)
  go_wp2_with fail
  refine (refkeyed_any A A2 n c n2 c2 ks xs _ (HR.out.grown hg15) (HR2.out.grown hg15) HK.out HX.out (by omega) (by omega) (by omega)).mono ?_
  rintro e w6 ⟨rfl, hg6⟩
  have hb6 := hb5.grown hg6 (by simp)
  have hg16 := gb_trans hg15 hg6
  have hT6 := hT.grown hg16 (by simp)
  go_wp2_with fail
  refine (sum_any g (hStart n) (keyBlock ks ++ xs) h5 buf5 f5 d5 _ _ hb6 HI5.out hT6 (by rw [List.length_append, HKB.out, HL2.out]; omega)).mono ?_
  rintro e w7 ⟨rfl, hg7⟩
  rw [show digestS (hStart n) (keyBlock ks ++ xs) = keyedS ks xs by rw [keyedS, HL.out]]
  have hb7 := hb6.grown hg7 (by simp)
  have hg17 := gb_trans hg16 hg7
  go_wp2_with fail
  refine (len_any g h5 buf5 f5 d5 n2 _ hb7).mono ?_
  rintro e w8 ⟨rfl, rfl⟩
  go_wp2_with fail
  go_ret
  exact ⟨rfl, hg17⟩

set_option maxRecDepth 100000 in
set_option maxHeartbeats 2000000 in
theorem keys_any (A A2 A3 : Option Addr) (n c n2 c2 n3 c3 : Nat) (ks ls xs : List Int) (w : World) (hT : Tabs w) (hr : RdS w A n c ks) (hr2 : RdS w A2 n2 c2 ls) (hr3 : RdS w A3 n3 c3 xs) (hk : ∀ x ∈ ks, 0 ≤ x ∧ x < 256) (hl : ∀ x ∈ ls, 0 ≤ x ∧ x < 256) (hx : ∀ x ∈ xs, 0 ≤ x ∧ x < 256) :
    Calls Tryd.prog 5 #[.slice A n c, .slice A2 n2 c2, .slice A3 n3 c3] w fun e w' => e = .returned (.bool true) ∧ w.grownBy w' none := by
  have HR := Lib.hid hr
  have HR2 := Lib.hid hr2
  have HR3 := Lib.hid hr3
  have HK := Lib.hid hk
  have HL := Lib.hid hl
  have HX := Lib.hid hx
  clear hr hr2 hr3 hk hl hx
  by_cases h1 : 200 < n3
  · have z1 : (200 : Int) < n3 := by omega
    go_enter Tryd.func5, Tryd.ntmps5
    go_wp2_with fail
    refine (awake_any _ hT).mono ?_
    rintro e w1 ⟨rfl, hg⟩
    go_wp2
    go_ret
    exact ⟨rfl, hg⟩
  have z1 : ¬ (200 : Int) < n3 := by omega
  by_cases h2 : n < 1
  · have z2 : (n : Int) < 1 := by omega
    go_enter Tryd.func5, Tryd.ntmps5
    go_wp2_with fail
    refine (awake_any _ hT).mono ?_
    rintro e w1 ⟨rfl, hg⟩
    go_wp2
    go_ret
    exact ⟨rfl, hg⟩
  have z2 : ¬ (n : Int) < 1 := by omega
  by_cases h3 : 32 < n
  · have z3 : (32 : Int) < n := by omega
    go_enter Tryd.func5, Tryd.ntmps5
    go_wp2_with fail
    refine (awake_any _ hT).mono ?_
    rintro e w1 ⟨rfl, hg⟩
    go_wp2
    go_ret
    exact ⟨rfl, hg⟩
  have z3 : ¬ (32 : Int) < n := by omega
  by_cases h4 : n2 < 1
  · have z4 : (n2 : Int) < 1 := by omega
    go_enter Tryd.func5, Tryd.ntmps5
    go_wp2_with fail
    refine (awake_any _ hT).mono ?_
    rintro e w1 ⟨rfl, hg⟩
    go_wp2
    go_ret
    exact ⟨rfl, hg⟩
  have z4 : ¬ (n2 : Int) < 1 := by omega
  by_cases h5 : 32 < n2
  · have z5 : (32 : Int) < n2 := by omega
    go_enter Tryd.func5, Tryd.ntmps5
    go_wp2_with fail
    refine (awake_any _ hT).mono ?_
    rintro e w1 ⟨rfl, hg⟩
    go_wp2
    go_ret
    exact ⟨rfl, hg⟩
  have z5 : ¬ (32 : Int) < n2 := by omega
  obtain ⟨sa, hsa⟩ : ∃ s, s = strOfNums ks := ⟨_, rfl⟩
  obtain ⟨sb, hsb⟩ : ∃ s, s = strOfNums ls := ⟨_, rfl⟩
  have HA := Bx.mk hsa
  have HB := Bx.mk hsb
  clear hsa hsb
  go_enter Tryd.func5, Tryd.ntmps5
  go_wp2_with fail
  refine (awake_any _ hT).mono ?_
  rintro e w1 ⟨rfl, hg1⟩
  have v1 := convert_rds (HR.out.grown hg1) HK.out
  have v2 := convert_rds (HR2.out.grown hg1) HL.out
  rw [← HA.out] at v1
  rw [← HB.out] at v2
  go_wp2_with fail
  · go_ret
    exact ⟨rfl, hg1⟩
  clear v1 v2
  refine (keyed_yes A A3 n c n3 c3 ks xs _ (HR.out.grown hg1) (HR3.out.grown hg1) (hT.grown hg1 (by simp)) (by omega) (by omega) (by omega)).mono ?_
  rintro e w2 ⟨rfl, hg2⟩
  have hg12 := gb_trans hg1 hg2
  go_wp2_with fail
  refine (keyed_yes A2 A3 n2 c2 n3 c3 ls xs _ (HR2.out.grown hg12) (HR3.out.grown hg12) (hT.grown hg12 (by simp)) (by omega) (by omega) (by omega)).mono ?_
  rintro e w3 ⟨rfl, hg3⟩
  have hg13 := gb_trans hg12 hg3
  obtain ⟨x, hx⟩ : ∃ x, x = keyedS ks xs := ⟨_, rfl⟩
  obtain ⟨y, hy⟩ : ∃ y, y = keyedS ls xs := ⟨_, rfl⟩
  rw [← hx, ← hy]
  go_wp2_with fail
  refine (refkeyed_any A A3 n c n3 c3 ks xs _ (HR.out.grown hg13) (HR3.out.grown hg13) HK.out HX.out (by omega) (by omega) (by omega)).mono ?_
  rintro e w4 ⟨rfl, hg4⟩
  have hg14 := gb_trans hg13 hg4
  rw [← hx]
  go_wp2_with fail
  refine (refkeyed_any A2 A3 n2 c2 n3 c3 ls xs _ (HR2.out.grown hg14) (HR3.out.grown hg14) HL.out HX.out (by omega) (by omega) (by omega)).mono ?_
  rintro e w5 ⟨rfl, hg5⟩
  have hg15 := gb_trans hg14 hg5
  rw [← hy]
  go_wp2_with fail
  refine (psum_any A3 n3 c3 xs _ (HR3.out.grown hg15) (hT.grown hg15 (by simp)) (by omega)).mono ?_
  rintro e w6 ⟨rfl, hg6⟩
  have hg16 := gb_trans hg15 hg6
  go_wp2_with fail
  refine (refkeyed_any A A3 n c n3 c3 ks xs _ (HR.out.grown hg16) (HR3.out.grown hg16) HK.out HX.out (by omega) (by omega) (by omega)).mono ?_
  rintro e w7 ⟨rfl, hg7⟩
  have hg17 := gb_trans hg16 hg7
  rw [← hx]
  go_wp2_with fail
  refine (refsum_any A3 n3 c3 xs _ (HR3.out.grown hg17) HX.out (by omega)).mono ?_
  rintro e w8 ⟨rfl, hg8⟩
  have hg18 := gb_trans hg17 hg8
  go_wp2_with fail
  go_ret
  exact ⟨rfl, hg18⟩
end Go.Proofs.YtmedobeogdnkfaaDoor
