/- The state of a digest (blake.State) as one block of 75 cells; what hash computes, as plain functions on words. -/
import Derived.Test.YtmedobeogdnkfaaDoorBmix
namespace Go.Proofs.YtmedobeogdnkfaaDoor
open Go.RowKit

/-- The cells of a State. -/
def stCells (h buf : Nat → Int) (filled done length : Int) : Array Value :=
  ((List.range 75).map fun j => if j < 8 then Value.int .u32 (h j) else if j < 72 then .int .u8 (buf (j - 8)) else if j = 72 then .int .i64 filled else if j = 73 then .int .u64 done else .int .i64 length).toArray

section
variable (h buf : Nat → Int) (filled done length : Int)
theorem st_size : (stCells h buf filled done length).size = 75 := by simp [stCells]
theorem st_h {j : Nat} (hj : j < 8) : (stCells h buf filled done length)[j]? = some (.int .u32 (h j)) := by
  simp [stCells, show j < 75 by omega, hj]
theorem st_buf {j : Nat} (hj : j < 64) : (stCells h buf filled done length)[8 + j]? = some (.int .u8 (buf j)) := by
  simp [stCells, show 8 + j < 75 by omega, show ¬ 8 + j < 8 by omega, show 8 + j < 72 by omega]
theorem st_filled : (stCells h buf filled done length)[72]? = some (.int .i64 filled) := by simp [stCells]
theorem st_done : (stCells h buf filled done length)[73]? = some (.int .u64 done) := by simp [stCells]
theorem st_length : (stCells h buf filled done length)[74]? = some (.int .i64 length) := by simp [stCells]
theorem st_get {j : Nat} (hj : j < 75) : (stCells h buf filled done length)[j]? = some (if j < 8 then Value.int .u32 (h j) else if j < 72 then .int .u8 (buf (j - 8)) else if j = 72 then .int .i64 filled else if j = 73 then .int .u64 done else .int .i64 length) := by
  simp [stCells, hj]
theorem st_none {j : Nat} (hj : ¬ j < 75) : (stCells h buf filled done length)[j]? = none := by
  rw [Array.getElem?_eq_none]; rw [st_size]; omega
theorem st_put_h {i : Nat} (hi : i < 8) (v : Int) : (stCells h buf filled done length).setIfInBounds i (.int .u32 v) = stCells (upd h i v) buf filled done length := by
  apply Array.ext_getElem?
  intro j
  rw [Array.getElem?_setIfInBounds, st_size]
  by_cases hj : j < 75
  · rw [st_get _ _ _ _ _ hj, st_get _ _ _ _ _ hj]
    by_cases e : i = j
    · subst e; simp [show i < 75 by omega, hi, upd_same]
    · rw [if_neg e, upd_other h v (by omega)]
  · rw [st_none _ _ _ _ _ hj, st_none _ _ _ _ _ hj]; simp; omega
theorem st_put_buf {i : Nat} (hi : i < 64) (v : Int) : (stCells h buf filled done length).setIfInBounds (8 + i) (.int .u8 v) = stCells h (upd buf i v) filled done length := by
  apply Array.ext_getElem?
  intro j
  rw [Array.getElem?_setIfInBounds, st_size]
  by_cases hj : j < 75
  · rw [st_get _ _ _ _ _ hj, st_get _ _ _ _ _ hj]
    by_cases e : 8 + i = j
    · subst e; simp [show 8 + i < 75 by omega, show ¬ 8 + i < 8 by omega, show 8 + i < 72 by omega, upd_same]
    · rw [if_neg e]
      by_cases h8 : j < 8
      · simp [h8]
      · rw [upd_other buf v (by omega)]
  · rw [st_none _ _ _ _ _ hj, st_none _ _ _ _ _ hj]; simp; omega
theorem st_put_filled (v : Int) : (stCells h buf filled done length).setIfInBounds 72 (.int .i64 v) = stCells h buf v done length := by
  apply Array.ext_getElem?
  intro j
  rw [Array.getElem?_setIfInBounds, st_size]
  by_cases hj : j < 75
  · rw [st_get _ _ _ _ _ hj, st_get _ _ _ _ _ hj]
    by_cases e : 72 = j
    · subst e; simp
    · rw [if_neg e]; simp [show ¬ j = 72 by omega]
  · rw [st_none _ _ _ _ _ hj, st_none _ _ _ _ _ hj]; simp; omega
theorem st_put_done (v : Int) : (stCells h buf filled done length).setIfInBounds 73 (.int .u64 v) = stCells h buf filled v length := by
  apply Array.ext_getElem?
  intro j
  rw [Array.getElem?_setIfInBounds, st_size]
  by_cases hj : j < 75
  · rw [st_get _ _ _ _ _ hj, st_get _ _ _ _ _ hj]
    by_cases e : 73 = j
    · subst e; simp
    · rw [if_neg e]; simp [show ¬ j = 73 by omega]
  · rw [st_none _ _ _ _ _ hj, st_none _ _ _ _ _ hj]; simp; omega
theorem st_put_length (v : Int) : (stCells h buf filled done length).setIfInBounds 74 (.int .i64 v) = stCells h buf filled done v := by
  apply Array.ext_getElem?
  intro j
  rw [Array.getElem?_setIfInBounds, st_size]
  by_cases hj : j < 75
  · rw [st_get _ _ _ _ _ hj, st_get _ _ _ _ _ hj]
    by_cases e : 74 = j
    · subst e; simp
    · rw [if_neg e]
      by_cases h1 : j < 8
      · simp [h1]
      · by_cases h2 : j < 72
        · simp [h1, h2]
        · by_cases h3 : j = 72
          · simp [h3]
          · simp [show j = 73 by omega]
  · rw [st_none _ _ _ _ _ hj, st_none _ _ _ _ _ hj]; simp; omega
end

/-- A word of a block after k of its four bytes. -/
def wpart (b : Nat → Int) (j : Nat) : Nat → Int
  | 0 => 0
  | k + 1 => bits BinOp.or IntKind.u32 (wpart b j k) (b (4 * j + k) * 2 ^ (8 * k) % 4294967296)
/-- The sixteen words under way: i are done, and of the i-th k bytes. -/
def wordsUpTo (b : Nat → Int) (i k : Nat) : Nat → Int := fun j => if j < i then wpart b j 4 else if j = i then wpart b j k else 0
/-- The words of a block. -/
def wordsOf (b : Nat → Int) : Nat → Int := fun j => wpart b j 4

theorem wordsUpTo_step (b : Nat → Int) (i k : Nat) : upd (wordsUpTo b i k) i (bits BinOp.or IntKind.u32 (wpart b i k) (b (4 * i + k) * 2 ^ (8 * k) % 4294967296)) = wordsUpTo b i (k + 1) := by
  funext j
  unfold upd wordsUpTo
  by_cases e : j = i
  · subst e; simp [wpart]
  · simp [e]
theorem wordsUpTo_next (b : Nat → Int) (i : Nat) : wordsUpTo b i 4 = wordsUpTo b (i + 1) 0 := by
  funext j
  unfold wordsUpTo
  by_cases h : j < i
  · simp [h, show j < i + 1 by omega]
  · by_cases e : j = i
    · subst e; simp
    · simp [h, e, show ¬ j < i + 1 by omega, wpart]
theorem wordsUpTo_all (b : Nat → Int) {j : Nat} (h : j < 16) : wordsUpTo b 16 0 j = wordsOf b j := by simp [wordsUpTo, wordsOf, h]
theorem wordsUpTo_at (b : Nat → Int) (i k : Nat) : wordsUpTo b i k i = wpart b i k := by simp [wordsUpTo]

/-- The constants of the program's table 'iv'. -/
def ivL : List Int := [1779033703, 3144134277, 1013904242, 2773480762, 1359893119, 2600822924, 528734635, 1541459225]
def ivF (j : Nat) : Int := ivL.getD j 0
/-- The words v while they are laid: i of each half are done. -/
def vUpTo (h : Nat → Int) (i : Nat) : Nat → Int := fun j => if j < 8 then (if j < i then h j else 0) else if j < 8 + i then ivF (j - 8) else 0
theorem vUpTo_step (h : Nat → Int) {i : Nat} (hi : i < 8) : upd (upd (vUpTo h i) i (h i)) (i + 8) (ivF i) = vUpTo h (i + 1) := by
  funext j
  unfold upd vUpTo
  by_cases e : j = i + 8
  · subst e; simp [show ¬ i + 8 < 8 by omega, show i + 8 < 8 + (i + 1) by omega]
  · by_cases e2 : j = i
    · subst e2; simp [hi]
    · simp only [e, e2, if_false]
      by_cases h8 : j < 8
      · simp only [h8, if_true]
        by_cases hj : j < i
        · simp [hj, show j < i + 1 by omega]
        · simp [hj, show ¬ j < i + 1 by omega]
      · simp only [h8, if_false]
        by_cases hj : j < 8 + i
        · simp [hj, show j < 8 + (i + 1) by omega]
        · simp [hj, show ¬ j < 8 + (i + 1) by omega]
/-- The words v when they are laid. -/
def vInit (h : Nat → Int) : Nat → Int := fun j => if j < 8 then h j else ivF (j - 8)
theorem vUpTo_all (h : Nat → Int) {j : Nat} (hj : j < 16) : vUpTo h 8 j = vInit h j := by
  unfold vUpTo vInit
  by_cases h8 : j < 8
  · simp [h8]
  · simp [h8, show j < 8 + 8 by omega]

/-- The words v when the count and the last block's mark are in: t is the number of bytes so far. -/
def vCount (h : Nat → Int) (t : Int) : Nat → Int := upd (upd (vInit h) 12 (bits BinOp.xor IntKind.u32 (vInit h 12) (t % 4294967296))) 13 (bits BinOp.xor IntKind.u32 (vInit h 13) (t / 4294967296))
def vStart (h : Nat → Int) (t : Int) (last : Bool) : Nat → Int := if last then upd (vCount h t) 14 (bits BinOp.xor IntKind.u32 IntKind.u32.max (vInit h 14)) else vCount h t
theorem vCount_14 (h : Nat → Int) (t : Int) : vCount h t 14 = vInit h 14 := by simp [vCount, upd]

/-- The tables sigma and lanes, told by row and place. -/
def sigL : List Nat := [0, 1, 2, 3, 4, 5, 6, 7, 8, 9, 10, 11, 12, 13, 14, 15, 14, 10, 4, 8, 9, 15, 13, 6, 1, 12, 0, 2, 11, 7, 5, 3, 11, 8, 12, 0, 5, 2, 15, 13, 10, 14, 3, 6, 7, 1, 9, 4, 7, 9, 3, 1, 13, 12, 11, 14, 2, 6, 5, 10, 4, 0, 15, 8, 9, 0, 5, 7, 2, 4, 10, 15, 14, 1, 11, 12, 6, 8, 3, 13, 2, 12, 6, 10, 0, 11, 8, 3, 4, 13, 7, 5, 15, 14, 1, 9, 12, 5, 1, 15, 14, 13, 4, 10, 0, 7, 6, 3, 9, 2, 8, 11, 13, 11, 7, 14, 12, 1, 3, 9, 5, 0, 15, 4, 8, 6, 2, 10, 6, 15, 14, 9, 11, 3, 0, 8, 12, 2, 13, 7, 1, 4, 10, 5, 10, 2, 8, 4, 7, 6, 1, 5, 15, 11, 9, 14, 3, 12, 13, 0]
def lanL : List Nat := [0, 4, 8, 12, 1, 5, 9, 13, 2, 6, 10, 14, 3, 7, 11, 15, 0, 5, 10, 15, 1, 6, 11, 12, 2, 7, 8, 13, 3, 4, 9, 14]
def sig (r j : Nat) : Nat := sigL.getD (16 * r + j) 0
def lan (i j : Nat) : Nat := lanL.getD (4 * i + j) 0
def sigCells : List Value := sigL.map fun (z : Nat) => Value.int .u8 z
def lanCells : List Value := lanL.map fun (z : Nat) => Value.int .u8 z
def sigRow (r : Nat) : List Value := [.int .u8 (sig r 0), .int .u8 (sig r 1), .int .u8 (sig r 2), .int .u8 (sig r 3), .int .u8 (sig r 4), .int .u8 (sig r 5), .int .u8 (sig r 6), .int .u8 (sig r 7), .int .u8 (sig r 8), .int .u8 (sig r 9), .int .u8 (sig r 10), .int .u8 (sig r 11), .int .u8 (sig r 12), .int .u8 (sig r 13), .int .u8 (sig r 14), .int .u8 (sig r 15)]
theorem sig_lt {r j : Nat} (hr : r < 10) (hj : j < 16) : sig r j < 16 := by
  have all : ∀ r, r < 10 → ∀ j, j < 16 → sig r j < 16 := by decide
  exact all r hr j hj
theorem sigRow_at (r : Nat) {j : Nat} (hj : j < 16) : (sigRow r)[j]? = some (.int .u8 (sig r j)) := by
  have all : ∀ j, j < 16 → (sigRow r)[j]? = some (.int .u8 (sig r j)) := by
    intro j hj
    rcases (show j = 0 ∨ j = 1 ∨ j = 2 ∨ j = 3 ∨ j = 4 ∨ j = 5 ∨ j = 6 ∨ j = 7 ∨ j = 8 ∨ j = 9 ∨ j = 10 ∨ j = 11 ∨ j = 12 ∨ j = 13 ∨ j = 14 ∨ j = 15 from by omega) with rfl | rfl | rfl | rfl | rfl | rfl | rfl | rfl | rfl | rfl | rfl | rfl | rfl | rfl | rfl | rfl <;> rfl
  exact all j hj
set_option maxRecDepth 100000 in
theorem sig_cut {r : Nat} (hr : r < 10) : (sigCells.drop (r * 16)).take 16 = sigRow r := by
  rcases (show r = 0 ∨ r = 1 ∨ r = 2 ∨ r = 3 ∨ r = 4 ∨ r = 5 ∨ r = 6 ∨ r = 7 ∨ r = 8 ∨ r = 9 from by omega) with rfl | rfl | rfl | rfl | rfl | rfl | rfl | rfl | rfl | rfl <;> rfl
theorem lan_cut {i : Nat} (hi : i < 8) : (lanCells.drop (i * 4)).take 4 = [.int .u8 (lan i 0), .int .u8 (lan i 1), .int .u8 (lan i 2), .int .u8 (lan i 3)] := by
  rcases (show i = 0 ∨ i = 1 ∨ i = 2 ∨ i = 3 ∨ i = 4 ∨ i = 5 ∨ i = 6 ∨ i = 7 from by omega) with rfl | rfl | rfl | rfl | rfl | rfl | rfl | rfl <;> simp [lanCells, lanL, lan]
theorem lan_ok {i : Nat} (hi : i < 8) : lan i 0 < 16 ∧ lan i 1 < 16 ∧ lan i 2 < 16 ∧ lan i 3 < 16 ∧ ¬ lan i 0 = lan i 1 ∧ ¬ lan i 0 = lan i 2 ∧ ¬ lan i 0 = lan i 3 ∧ ¬ lan i 1 = lan i 2 ∧ ¬ lan i 1 = lan i 3 ∧ ¬ lan i 2 = lan i 3 := by
  have all : ∀ i, i < 8 → lan i 0 < 16 ∧ lan i 1 < 16 ∧ lan i 2 < 16 ∧ lan i 3 < 16 ∧ ¬ lan i 0 = lan i 1 ∧ ¬ lan i 0 = lan i 2 ∧ ¬ lan i 0 = lan i 3 ∧ ¬ lan i 1 = lan i 2 ∧ ¬ lan i 1 = lan i 3 ∧ ¬ lan i 2 = lan i 3 := by decide
  exact all i hi

theorem sigRow_one (r : Nat) : (sigRow r).toArray.all (·.oneCell') = true := by simp [sigRow, Value.oneCell']
theorem sigRow_size (r : Nat) : (sigRow r).toArray.size = 16 := rfl

/-- The words v after k mixings of round r; after r rounds; the state behind a block. -/
def mixesF (m : Nat → Int) (r : Nat) (v : Nat → Int) : Nat → (Nat → Int)
  | 0 => v
  | k + 1 => mixF (mixesF m r v k) (lan k 0) (lan k 1) (lan k 2) (lan k 3) (m (sig r (2 * k))) (m (sig r (2 * k + 1)))
def roundsF (m v : Nat → Int) : Nat → (Nat → Int)
  | 0 => v
  | r + 1 => mixesF m r (roundsF m v r) 8
def hUpTo (h v : Nat → Int) (i : Nat) : Nat → Int := fun j => if j < i then bits BinOp.xor IntKind.u32 (h j) (bits BinOp.xor IntKind.u32 (v j) (v (j + 8))) else h j
/-- The state behind the block buf: t bytes in all, the last one or not. -/
def compressF (h buf : Nat → Int) (t : Int) (last : Bool) : Nat → Int := hUpTo h (roundsF (wordsOf buf) (vStart h t last) 10) 8
theorem hUpTo_step (h v : Nat → Int) (i : Nat) : upd (hUpTo h v i) i (bits BinOp.xor IntKind.u32 (h i) (bits BinOp.xor IntKind.u32 (v i) (v (i + 8)))) = hUpTo h v (i + 1) := by
  funext j
  unfold upd hUpTo
  by_cases e : j = i
  · subst e; simp
  · by_cases hj : j < i
    · simp [e, hj, show j < i + 1 by omega]
    · simp [e, hj, show ¬ j < i + 1 by omega]
theorem hUpTo_zero (h v : Nat → Int) : hUpTo h v 0 = h := by funext j; simp [hUpTo]
theorem hUpTo_at (h v : Nat → Int) (i : Nat) : hUpTo h v i i = h i := by simp [hUpTo]
end Go.Proofs.YtmedobeogdnkfaaDoor
