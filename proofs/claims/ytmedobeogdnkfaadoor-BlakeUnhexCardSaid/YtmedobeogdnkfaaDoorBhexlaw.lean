/- The walks over BlakeHex and BlakeUnhex, and that they answer true. -/
import Derived.Test.YtmedobeogdnkfaaDoorBunhex3
namespace Go.Proofs.YtmedobeogdnkfaaDoor
open Go.RowKit

theorem hexV_hexD {k : Int} (h0 : 0 ≤ k) (h1 : k < 16) : hexV (hexD k) = k := by
  unfold hexD; split <;> unfold hexV <;> split <;> (try split) <;> omega
theorem hexD_hexV {c : Int} (h1 : hexV c < 16) : hexD (hexV c) = c := by
  unfold hexV at *
  split at h1
  · rw [if_pos (by assumption)]; unfold hexD; split <;> omega
  · split at h1
    · rw [if_neg (by assumption), if_pos (by assumption)]; unfold hexD; split <;> omega
    · omega
theorem strOfNums_bytesI (s : ByteArray) : strOfNums (bytesI s) = s := by
  obtain ⟨d⟩ := s
  show ByteArray.mk ((d.toList.map (fun b => (b.toNat : Int))).map fun n => UInt8.ofNat n.toNat).toArray = _
  congr 1
  rw [List.map_map]
  have : ((fun n : Int => UInt8.ofNat n.toNat) ∘ fun b : UInt8 => (b.toNat : Int)) = id := by
    funext b; simp
  rw [this, List.map_id, Array.toArray_toList]
theorem bytesI_strOfNums {xs : List Int} (h : ∀ x ∈ xs, 0 ≤ x ∧ x < 256) : bytesI (strOfNums xs) = xs := by
  show ((xs.map fun n => UInt8.ofNat n.toNat).toArray.toList).map (fun b : UInt8 => (b.toNat : Int)) = xs
  rw [List.toList_toArray, List.map_map]
  conv => rhs; rw [← List.map_id xs]
  apply List.map_congr_left
  intro x hx
  have := h x hx
  obtain ⟨n, rfl⟩ := Int.eq_ofNat_of_zero_le this.1
  simp
  omega
theorem hexL_bd {xs : List Int} (h : ∀ x ∈ xs, 0 ≤ x ∧ x < 256) : ∀ x ∈ hexL xs, 0 ≤ x ∧ x < 256 := by
  intro x hx
  simp only [hexL, List.mem_flatMap, List.mem_cons, List.not_mem_nil, or_false] at hx
  obtain ⟨b, hb, hx⟩ := hx
  have := h b hb
  rcases hx with rfl | rfl <;> (unfold hexD; split <;> omega)
theorem hexL_getD : ∀ (xs : List Int) (j : Nat), j < xs.length → (hexL xs).getD (2 * j) 0 = hexD (xs.getD j 0 / 16) ∧ (hexL xs).getD (2 * j + 1) 0 = hexD (xs.getD j 0 % 16)
  | [], j, h => absurd h (by simp)
  | x :: xs, 0, _ => by simp [hexL]
  | x :: xs, j + 1, h => by
    have := hexL_getD xs j (by simpa using h)
    have e : hexL (x :: xs) = hexD (x / 16) :: hexD (x % 16) :: hexL xs := by simp [hexL]
    rw [e, show 2 * (j + 1) = 2 * j + 1 + 1 from by omega, show 2 * j + 1 + 1 + 1 = (2 * j + 1) + 1 + 1 from by omega]
    simpa only [List.getD_cons_succ] using this
/-- What Hex has written is read back. -/
theorem unhex_hex {xs : List Int} (h : ∀ x ∈ xs, 0 ≤ x ∧ x < 256) : okTo (hexL xs) xs.length ∧ unhexL (hexL xs) xs.length = xs := by
  have hat : ∀ j, j < xs.length → 0 ≤ xs.getD j 0 ∧ xs.getD j 0 < 256 := fun j hj => by
    rw [List.getD_eq_getElem?_getD, List.getElem?_eq_getElem hj]; exact h _ (List.getElem_mem hj)
  refine ⟨fun j hj => ?_, ?_⟩
  · obtain ⟨e1, e2⟩ := hexL_getD xs j hj
    have := hat j hj
    rw [e1, e2, hexV_hexD (by omega) (by omega), hexV_hexD (by omega) (by omega)]
    omega
  · apply List.ext_getElem
    · simp [unhexL]
    · intro j h1 h2
      obtain ⟨e1, e2⟩ := hexL_getD xs j h2
      have := hat j h2
      simp only [unhexL, List.getElem_map, List.getElem_range]
      rw [e1, e2, hexV_hexD (by omega) (by omega), hexV_hexD (by omega) (by omega)]
      have e : xs.getD j 0 = xs[j] := by rw [List.getD_eq_getElem?_getD, List.getElem?_eq_getElem h2]; rfl
      rw [e]; omega
/-- What is read is written again. -/
theorem hex_unhex {ys : List Int} : ∀ k, 2 * k ≤ ys.length → okTo ys k → (∀ x ∈ ys, 0 ≤ x ∧ x < 256) → hexL (unhexL ys k) = ys.take (2 * k)
  | 0, _, _, _ => rfl
  | k + 1, h, ok, hb => by
    have ih := hex_unhex k (by omega) (fun j hj => ok j (by omega)) hb
    obtain ⟨v0, v1⟩ := ok k (by omega)
    have b0 : ∀ j, 0 ≤ ys.getD j 0 := fun j => by
      rw [List.getD_eq_getElem?_getD]
      rcases Nat.lt_or_ge j ys.length with h' | h'
      · rw [List.getElem?_eq_getElem h']; exact (hb _ (List.getElem_mem h')).1
      · rw [List.getElem?_eq_none h']; exact Int.le_refl 0
    have n0 := (hexV_bd (b0 (2 * k))).1
    have n1 := (hexV_bd (b0 (2 * k + 1))).1
    rw [unhexL_succ, hexL_snoc, ih, show (16 * hexV (ys.getD (2 * k) 0) + hexV (ys.getD (2 * k + 1) 0)) / 16 = hexV (ys.getD (2 * k) 0) by omega,
      show (16 * hexV (ys.getD (2 * k) 0) + hexV (ys.getD (2 * k + 1) 0)) % 16 = hexV (ys.getD (2 * k + 1) 0) by omega, hexD_hexV v0, hexD_hexV v1,
      show 2 * (k + 1) = 2 * k + 1 + 1 from by omega]
    have t1 : ys.take (2 * k + 1) = ys.take (2 * k) ++ [ys[2 * k]] := by rw [List.take_add_one, List.getElem?_eq_getElem (by omega)]; rfl
    have t2 : ys.take (2 * k + 1 + 1) = ys.take (2 * k + 1) ++ [ys[2 * k + 1]] := by rw [List.take_add_one, List.getElem?_eq_getElem (by omega)]; rfl
    rw [List.getD_eq_getElem?_getD, List.getD_eq_getElem?_getD, List.getElem?_eq_getElem (show 2 * k < ys.length by omega), List.getElem?_eq_getElem (show 2 * k + 1 < ys.length by omega), t2, t1, List.append_assoc]
    rfl
theorem unhexL_bd {ys : List Int} {k : Nat} (ok : okTo ys k) (hb : ∀ j, 0 ≤ ys.getD j 0) : ∀ x ∈ unhexL ys k, 0 ≤ x ∧ x < 256 := by
  intro x hx
  simp only [unhexL, List.mem_map, List.mem_range] at hx
  obtain ⟨j, hj, rfl⟩ := hx
  obtain ⟨v0, v1⟩ := ok j hj
  have n0 := (hexV_bd (hb (2 * j))).1
  have n1 := (hexV_bd (hb (2 * j + 1))).1
  omega

set_option maxRecDepth 100000 in
set_option maxHeartbeats 1000000 in
theorem hexlaw_any (s : ByteArray) (w : World) (hT : Tabs w) :
    Calls Tryd.prog 8 #[.string s] w fun e w' => e = .returned (.bool true) ∧ w.grownBy w' none := by
  by_cases hs : 2000 < s.size
  · have z1 : (2000 : Int) < s.size := by omega
    go_enter Tryd.func8, Tryd.ntmps8
    go_wp2_with fail
    refine (awake_any _ hT).mono ?_
    rintro e w1 ⟨rfl, hg⟩
    go_wp2
    go_ret
    exact ⟨rfl, hg⟩
  · have z1 : ¬ (2000 : Int) < s.size := by omega
    have hb := bytesI_bd s
    obtain ⟨k1, k2⟩ := unhex_hex hb
    obtain ⟨h, hh⟩ : ∃ h, h = strOfNums (hexL (bytesI s)) := ⟨_, rfl⟩
    have hl : h.size = 2 * s.size := by rw [hh, strOfNums_size, hexL_length, bytesI_length]
    have hu : unhexV h = .tuple #[.string s, .bool true] := by
      have e1 : bytesI h = hexL (bytesI s) := by rw [hh, bytesI_strOfNums (hexL_bd hb)]
      have e2 : h.size / 2 = (bytesI s).length := by rw [bytesI_length]; omega
      rw [unhexV, e1, e2, if_pos ⟨by omega, k1⟩, k2, strOfNums_bytesI]
    have hl' : (h.size : Int) = 2 * (s.size : Int) := by omega
    have c1 : ∀ W, Calls Tryd.prog 21 #[.string s] W fun e w' => e = .returned (.string h) ∧ W.grownBy w' none := fun W => by rw [hh]; exact hex_any s W (by omega)
    have c2 : ∀ W, Calls Tryd.prog 22 #[.string h] W fun e w' => e = .returned (.tuple #[.string s, .bool true]) ∧ W.grownBy w' none := fun W => by rw [← hu]; exact unhex_any h W (by omega)
    have c3 : ∀ W, Calls Tryd.prog 23 #[.string s] W fun e w' => e = .returned (.string h) ∧ W.grownBy w' none := fun W => by rw [hh]; exact refhex_any s W (by omega)
    have C1 := Lib.hid c1; have C2 := Lib.hid c2; have C3 := Lib.hid c3
    clear c1 c2 c3 hu k1 k2 hb hh hl
    go_enter Tryd.func8, Tryd.ntmps8
    go_wp2_with fail
    refine (awake_any _ hT).mono ?_
    rintro e w1 ⟨rfl, hg1⟩
    go_wp2_with fail
    refine (C1.out _).mono ?_
    rintro e w2 ⟨rfl, hg2⟩
    go_wp2_with fail
    refine (C2.out _).mono ?_
    rintro e w3 ⟨rfl, hg3⟩
    go_wp2_with fail
    refine (C3.out _).mono ?_
    rintro e w4 ⟨rfl, hg4⟩
    go_wp2_with fail
    go_ret
    exact ⟨rfl, gb_trans (gb_trans (gb_trans hg1 hg2) hg3) hg4⟩

set_option maxRecDepth 100000 in
set_option maxHeartbeats 1000000 in
theorem unhexlaw_any (s : ByteArray) (w : World) (hT : Tabs w) :
    Calls Tryd.prog 9 #[.string s] w fun e w' => e = .returned (.bool true) ∧ w.grownBy w' none := by
  by_cases hs : 2000 < s.size
  · have z1 : (2000 : Int) < s.size := by omega
    go_enter Tryd.func9, Tryd.ntmps9
    go_wp2_with fail
    refine (awake_any _ hT).mono ?_
    rintro e w1 ⟨rfl, hg⟩
    go_wp2
    go_ret
    exact ⟨rfl, hg⟩
  · have z1 : ¬ (2000 : Int) < s.size := by omega
    have hb := bytesI_bd s
    have c1 := fun W => unhex_any s W (by omega)
    have c2 := fun W => refunhex_any s W (by omega)
    by_cases hok : s.size % 2 = 0 ∧ okTo (bytesI s) (s.size / 2)
    · rw [unhexV, if_pos hok] at c1 c2
      have hl : (unhexL (bytesI s) (s.size / 2)).length = s.size / 2 := by simp [unhexL]
      have hub := unhexL_bd hok.2 (fun j => (bytesI_at s j).1)
      obtain ⟨a, ha⟩ : ∃ a, a = strOfNums (unhexL (bytesI s) (s.size / 2)) := ⟨_, rfl⟩
      rw [← ha] at c1 c2
      have hx : strOfNums (hexL (bytesI a)) = s := by
        rw [ha, bytesI_strOfNums hub, hex_unhex _ (by rw [bytesI_length]; omega) hok.2 hb, List.take_of_length_le (by rw [bytesI_length]; omega), strOfNums_bytesI]
      have c3 := fun W => hex_any a W (by rw [ha, strOfNums_size, hl]; omega)
      rw [hx] at c3
      have C1 := Lib.hid c1; have C2 := Lib.hid c2; have C3 := Lib.hid c3
      clear c1 c2 c3 hub hx ha hl hok hb
      go_enter Tryd.func9, Tryd.ntmps9
      go_wp2_with fail
      refine (awake_any _ hT).mono ?_
      rintro e w1 ⟨rfl, hg1⟩
      go_wp2_with fail
      refine (C1.out _).mono ?_
      rintro e w2 ⟨rfl, hg2⟩
      go_wp2_with fail
      refine (C2.out _).mono ?_
      rintro e w3 ⟨rfl, hg3⟩
      go_wp2_with fail
      refine (C3.out _).mono ?_
      rintro e w4 ⟨rfl, hg4⟩
      go_wp2_with fail
      go_ret
      exact ⟨rfl, gb_trans (gb_trans (gb_trans hg1 hg2) hg3) hg4⟩
    · rw [unhexV, if_neg hok] at c1 c2
      have C1 := Lib.hid c1; have C2 := Lib.hid c2
      clear c1 c2 hok hb
      go_enter Tryd.func9, Tryd.ntmps9
      go_wp2_with fail
      refine (awake_any _ hT).mono ?_
      rintro e w1 ⟨rfl, hg1⟩
      go_wp2_with fail
      refine (C1.out _).mono ?_
      rintro e w2 ⟨rfl, hg2⟩
      go_wp2_with fail
      refine (C2.out _).mono ?_
      rintro e w3 ⟨rfl, hg3⟩
      go_wp2_with fail
      go_ret
      exact ⟨rfl, gb_trans (gb_trans hg1 hg2) hg3⟩
end Go.Proofs.YtmedobeogdnkfaaDoor
