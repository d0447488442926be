/- The walks over blake.Hex, value, Unhex and the reference's Hex, digit, Unhex. -/
import Derived.Test.YtmedobeogdnkfaaDoorBkey
import Derived.Deep.AppendLies
namespace Go.Proofs.YtmedobeogdnkfaaDoor
open Go.RowKit

theorem gb_own {w w1 w2 : World} {row r : Option Nat} (h : w.grownBy w1 row) (k : w1.grownBy w2 r) (hr : ∀ b, r = some b → w.heap.size ≤ b) : w.grownBy w2 row :=
  ⟨k.os.trans h.os, k.tape.trans h.tape, k.output.trans h.output, Nat.le_trans h.size k.size, fun i hi hn => (k.block i (Nat.lt_of_lt_of_le hi h.size) (fun e => by have := hr i e.symm; omega)).trans (h.block i hi hn)⟩

/-- 'string(out)', out a slice of bytes of the call's own. -/
theorem convert_own {w : World} {base : Nat} {v : Value} {n : Nat} {xs : List Int} (h : w.ownsRow base 5 1 v n (xs.map (Value.int .u8))) : (convert 22 9 v).run Tryd.prog w = .ok (.string (strOfNums xs)) w := by
  have hl : xs.length = n := by have := h.1; simpa using this
  rcases h.2 with ⟨rfl, h0⟩ | ⟨g, cap, cur, hv, hb, hg, hnc, hcm, hcs, htake⟩
  · rw [run_convert_bytes_nil w 22 5 Tryd.underlying22 Tryd.underlying5 0 0 9 Tryd.underlying9]
    obtain rfl : xs = [] := List.eq_nil_of_length_eq_zero (by omega)
    rfl
  · subst hv
    refine run_convert_bytes_arg w 22 5 Tryd.underlying22 Tryd.underlying5 g 0 n cap xs hl (fun i hi => ?_) 9 Tryd.underlying9
    have := h.cells (g := g) rfl i (.int .u8 (xs.getD i 0)) (by rw [List.getElem?_map, List.getElem?_eq_getElem (by omega), List.getD_eq_getElem?_getD, List.getElem?_eq_getElem (by omega)]; rfl)
    rwa [Addr.add_mid] at this

/-- The bytes of a string as numbers. -/
def bytesI (s : ByteArray) : List Int := s.data.toList.map fun b => (b.toNat : Int)
theorem bytesI_length (s : ByteArray) : (bytesI s).length = s.size := by
  show (s.data.toList.map _).length = s.data.size
  rw [List.length_map, Array.length_toList]
theorem bytesI_bd (s : ByteArray) : ∀ b ∈ bytesI s, 0 ≤ b ∧ b < 256 := by
  intro b hb
  simp only [bytesI, List.mem_map] at hb
  obtain ⟨c, _, rfl⟩ := hb
  have := c.toNat_lt
  omega
theorem bytesI_at (s : ByteArray) (i : Nat) : 0 ≤ (bytesI s).getD i 0 ∧ (bytesI s).getD i 0 < 256 := by
  rw [List.getD_eq_getElem?_getD]
  rcases Nat.lt_or_ge i (bytesI s).length with h | h
  · rw [List.getElem?_eq_getElem h]
    exact bytesI_bd s _ (List.getElem_mem h)
  · rw [List.getElem?_eq_none h]; simp
theorem index_str {P : Program} {t : TypeId} (ht : P.underlying t = some .string) (s : ByteArray) {k : IntKind} {i : Nat} (hi : i < s.size) (W : World) : (Instr.index t (.string s) (.int k i)).run P W = .ok (.int .u8 ((bytesI s).getD i 0)) W := by
  have h2 : (s.data.toList.map fun b => (b.toNat : Int)).getD i 0 = (s[i].toNat : Int) := by
    rw [List.getD_eq_getElem?_getD, List.getElem?_map, List.getElem?_eq_getElem (by rw [Array.length_toList]; exact hi)]
    rfl
  have h3 : s[i]? = some s[i] := by simp [hi]
  simp only [Instr.index, asIntOf, Sem.run_bind, run_underlying ht, Result.andThen_ok, bytesI, h2]
  simp [h3]

/-- A hexadecimal digit of 0 to 15; the value of a digit, or 16. -/
def hexD (k : Int) : Int := if k < 10 then 48 + k else 87 + k
def hexV (c : Int) : Int := if 48 ≤ c ∧ c ≤ 57 then c - 48 else if 97 ≤ c ∧ c ≤ 102 then c - 87 else 16
def hexL (xs : List Int) : List Int := xs.flatMap fun b => [hexD (b / 16), hexD (b % 16)]
theorem hexL_length (xs : List Int) : (hexL xs).length = 2 * xs.length := by
  induction xs with
  | nil => rfl
  | cons b xs ih => simp only [hexL, List.flatMap_cons, List.length_append, List.length_cons, List.length_nil] at ih ⊢; omega
theorem hexL_snoc (xs : List Int) (b : Int) : hexL (xs ++ [b]) = hexL xs ++ [hexD (b / 16), hexD (b % 16)] := by simp [hexL]

theorem index_dig {P : Program} {t : TypeId} (ht : P.underlying t = some .string) {k : IntKind} {v : Int} (h0 : 0 ≤ v) (h1 : v < 16) (W : World) :
    (Instr.index t (.string ⟨#[48, 49, 50, 51, 52, 53, 54, 55, 56, 57, 97, 98, 99, 100, 101, 102]⟩) (.int k v)).run P W = .ok (.int .u8 (hexD v)) W := by
  obtain ⟨n, rfl⟩ := Int.eq_ofNat_of_zero_le h0
  rw [index_str ht _ (by show n < 16; omega)]
  have h : n < 16 := by omega
  have all : ∀ n, n < 16 → (bytesI ⟨#[48, 49, 50, 51, 52, 53, 54, 55, 56, 57, 97, 98, 99, 100, 101, 102]⟩).getD n 0 = hexD n := by decide +kernel
  rw [all n h]

set_option maxHeartbeats 400000 in
theorem value_any (c : Int) (w : World) (h0 : 0 ≤ c) (h1 : c < 256) : Calls Tryd.prog 29 #[.int .u8 c] w fun e w' => e = .returned (.int .u8 (hexV c)) ∧ w = w' := by
  unfold hexV
  by_cases a : 48 ≤ c
  · by_cases b : c ≤ 57
    · rw [if_pos ⟨a, b⟩]
      go_enter Tryd.func29, Tryd.ntmps29
      go_wp2
      go_ret
      exact ⟨rfl, rfl⟩
    · rw [if_neg (fun h => b h.2)]
      by_cases d : 97 ≤ c
      · by_cases e : c ≤ 102
        · rw [if_pos ⟨d, e⟩]
          go_enter Tryd.func29, Tryd.ntmps29
          go_wp2
          go_ret
          refine ⟨?_, rfl⟩
          show Ending.returned (.int .u8 _) = _
          congr 2; omega
        · rw [if_neg (fun h => e h.2)]
          go_enter Tryd.func29, Tryd.ntmps29
          go_wp2
          go_ret
          exact ⟨rfl, rfl⟩
      · rw [if_neg (fun h => d h.1)]
        go_enter Tryd.func29, Tryd.ntmps29
        go_wp2
        go_ret
        exact ⟨rfl, rfl⟩
  · rw [if_neg (fun h => a h.1), if_neg (fun h => by omega)]
    have d : ¬ 97 ≤ c := by omega
    go_enter Tryd.func29, Tryd.ntmps29
    go_wp2
    go_ret
    exact ⟨rfl, rfl⟩

theorem Tryd.infoU8 : (Tryd.prog.info? 5).map (fun i => (i.zero, i.size, i.bytes)) = some (some (.int .u8 0), 1, 1) := by kernel_rfl

theorem and15 {b : Int} (h0 : 0 ≤ b) (h1 : b < 256) : bits BinOp.and IntKind.u8 b 15 = b % 16 := by
  obtain ⟨n, rfl⟩ := Int.eq_ofNat_of_zero_le h0
  have h := u8_and_nat n 15 (by omega) (by decide)
  have := Nat.and_two_pow_sub_one_eq_mod n 4
  simp only [Nat.reducePow, Nat.reduceSub] at this
  rw [this] at h
  refine Eq.trans (by rfl) (h.trans ?_)
  omega

set_option maxRecDepth 100000 in
set_option maxHeartbeats 1000000 in
theorem hex_any (s : ByteArray) (w : World) (hs : s.size ≤ 1000000) :
    Calls Tryd.prog 21 #[.string s] w fun e w' => e = .returned (.string (strOfNums (hexL (bytesI s)))) ∧ w.grownBy w' none := by
  obtain ⟨i0, hi, hz0, hz1, hz2⟩ := info_parts Tryd.infoU8
  have U := Tryd.underlying22
  have hsz : (s.size : Int) ≤ 1000000 := by omega
  go_enter Tryd.func21, Tryd.ntmps21
  go_wp2_with (at_make; refine wpList_make_own _ rfl _ _ 22 rfl w.heap.size 5 i0 (.int .u8 0) 1 U hi hz0 hz1 _ _ _ (2 * s.size) rfl rfl (by omega) ?b1 ?b2 ?b3 ?_)
  case b1 => rw [hz2]; omega
  case b2 => unfold maxLen; omega
  case b3 => exact Nat.le_refl _
  intro w1 hown hgrow
  go_wp2_with fail
  go_loopw [3, 11] (fun v c wr => ∃ k : Nat, k ≤ s.size ∧ c = .int .i64 k ∧ wr.ownsRow w.heap.size 5 1 v (2 * k) ((hexL ((bytesI s).take k)).map (Value.int .u8)) ∧ w.grownBy wr none)
    (fun _ c _ => s.size - (intOf c).toNat)
  case atStart => exact ⟨0, by omega, rfl, hown, hgrow⟩
  case round =>
    obtain ⟨k, hk, rfl, hown', hg'⟩ := hrel
    by_cases hlt : k < s.size
    · have hb := bytesI_at s k
      obtain ⟨b, hbd⟩ : ∃ b, b = (bytesI s).getD k 0 := ⟨_, rfl⟩
      rw [← hbd] at hb
      obtain ⟨hb0, hb1⟩ := hb
      have hi1 : (k : Int) < s.size := by omega
      have hx1 : ∀ W, (Instr.index 9 (.string s) (.int .i64 k)).run Tryd.prog W = .ok (.int .u8 b) W := fun W => by rw [hbd]; exact index_str Tryd.underlying9 s hlt W
      have e1 := and15 hb0 hb1
      have hx2 : ∀ W, (Instr.index 9 (.string ⟨#[48, 49, 50, 51, 52, 53, 54, 55, 56, 57, 97, 98, 99, 100, 101, 102]⟩) (.int .u8 (b / 16))).run Tryd.prog W = .ok (.int .u8 (hexD (b / 16))) W := index_dig Tryd.underlying9 (by omega) (by omega)
      have hx3 : ∀ W, (Instr.index 9 (.string ⟨#[48, 49, 50, 51, 52, 53, 54, 55, 56, 57, 97, 98, 99, 100, 101, 102]⟩) (.int .u8 (b % 16))).run Tryd.prog W = .ok (.int .u8 (hexD (b % 16))) W := index_dig Tryd.underlying9 (by omega) (by omega)
      have HBd := Bx.mk hbd
      have hsz' := hg'.size
      clear hbd
      have F1 := Lib.hid (World.news_of_block (w := (wr.alloc (.cells #[.int .u8 (hexD (b / 16)), .int .u8 (hexD (b % 16))] 5)).drew) (heap_alloc_new wr _))
      have F2 := Lib.hid (show ∀ u ∈ [Value.int .u8 (hexD (b / 16)), .int .u8 (hexD (b % 16))], u.oneCell' = true by intro u hu; simp at hu; rcases hu with rfl | rfl <;> rfl)
      have F3 := Lib.hid (show 2 * k + 2 ≤ maxLen by unfold maxLen; omega)
      have F4 := Lib.hid (show (2 * k + 2) * 1 ≤ 140737488355328 by omega)
      have F5 := Lib.hid (show w.heap.size ≤ ((wr.alloc (.cells #[.int .u8 (hexD (b / 16)), .int .u8 (hexD (b % 16))] 5)).drew).heap.size by simp; omega)
      have F6 := Lib.hid (show ((wr.alloc (.cells #[.int .u8 (hexD (b / 16)), .int .u8 (hexD (b % 16))] 5)).drew).heap.size = wr.heap.size + 1 by simp)
      have E : (bytesI s).take (k + 1) = (bytesI s).take k ++ [b] := by
        rw [List.take_add_one, HBd.out, List.getD_eq_getElem?_getD, List.getElem?_eq_getElem (by rw [bytesI_length]; exact hlt)]
        rfl
      have HE := Bx.mk E
      clear E
      have hbase : ∀ b, u3.ownBlock = some b → w.heap.size ≤ b := fun b e => (hown'.lt b e).1
      have HG := Lib.hid hbase
      clear hbase
      go_wp2_with fail
      go_region_law (refine step_append_lies _ rfl _ _ _ rfl w.heap.size 5 i0 (.int .u8 0) 1 1 U hi hz0 hz1 hz2 rfl (by decide) _ (2 * k) _ rfl (World.ownsRow.drew (hown'.alloc _)) ⟨wr.heap.size, 0, none⟩ 2 2 [.int .u8 (hexD (b / 16)), .int .u8 (hexD (b % 16))] rfl rfl F1.out F2.out (by decide) F3.out F4.out F5.out (wr.heap.size + 1) F6.out ?_; intro g cap w2 hown2 hgrow2 hat2 hlt2)
      all_goals
        go_wp2_with fail
        go_roundw
        case rel =>
          refine ⟨k + 1, by omega, by go_num, ?_, gb_own (gb_drew (gb_alloc hg' _)) hgrow2 HG.out⟩
          rw [HE.out, hexL_snoc, List.map_append]; exact hown2
        case measure => simp [intOf]; omega
    · have hi1 : ¬ (k : Int) < s.size := by omega
      obtain rfl : k = s.size := by omega
      rw [List.take_of_length_le (by rw [bytesI_length]; exact Nat.le_refl _)] at hown'
      have hcv := convert_own hown'
      go_wp2_with fail
      go_ret
      exact ⟨rfl, hg'⟩
end Go.Proofs.YtmedobeogdnkfaaDoor
