/- Words for memory that all walks of this seat use: a block that is known whole ('Blk'); what a call leaves of the blocks that were there ('grownBy', closed under steps); arrays of words told by a function. -/
import Derived.Test.YtmedobeogdnkfaaDoorRows
import Derived.WalkKit
import Derived.Deep.Draws
import Derived.Deep.MidRow
namespace Go.Proofs.YtmedobeogdnkfaaDoor
open Go.RowKit

/-- A fact kept from the walk, under a structure: no tactic of the walk looks into it (a bound with a large numeral must not be unfolded). -/
structure Bx (p : Prop) : Prop where
  out : p

/-- Block g holds just the cells cs, of element type t; none of them is frozen. -/
def Blk (w : World) (g : Nat) (t : TypeId) (cs : Array Value) : Prop := w.heap[g]? = some (.cells cs t (0, 0))

section
variable {w w' : World} {g : Nat} {t : TypeId} {cs : Array Value}
theorem Blk.lt (h : Blk w g t cs) : g < w.heap.size := (Array.getElem?_eq_some_iff.1 h).1
theorem Blk.cell (h : Blk w g t cs) (i : Nat) : w.cell? ⟨g, i, none⟩ = cs[i]? := cell_of_row w g i cs t (0, 0) h
theorem Blk.frozen (h : Blk w g t cs) (i : Nat) : w.frozen? ⟨g, i, none⟩ = false := frozen_of_row w g i cs t h
theorem Blk.new (w : World) (t : TypeId) (cs : Array Value) : Blk (w.alloc (.cells cs t)) w.heap.size t cs := heap_alloc_new w _
theorem Blk.drew (h : Blk w g t cs) : Blk w.drew g t cs := h
theorem Blk.drewN (h : Blk w g t cs) (n : Nat) : Blk (w.drewN n) g t cs := h
theorem Blk.alloc (h : Blk w g t cs) (o : Obj) : Blk (w.alloc o) g t cs := (Below.heap_alloc w o g h.lt).trans h
theorem Blk.put (h : Blk w g t cs) (i : Nat) (u : Value) : Blk (w.setCell ⟨g, i, none⟩ u) g t (cs.setIfInBounds i u) := heap_setCell_same w g i cs t u h
theorem Blk.far (h : Blk w g t cs) {p : Addr} (hp : g ≠ p.block) (u : Value) : Blk (w.setCell p u) g t cs := (heap_setCell_other w p g u hp).trans h
theorem Blk.grown {row : Option Nat} (h : Blk w g t cs) (hb : w.grownBy w' row) (hg : some g ≠ row) : Blk w' g t cs := (hb.block g h.lt hg).trans h
theorem Blk.below {B : Nat} (h : Blk w g t cs) (hb : Below B w w') (hg : g < B) : Blk w' g t cs := (hb.block g hg).trans h
theorem Blk.apart {g' : Nat} {t' : TypeId} {cs' : Array Value} (h : Blk w g t cs) (h' : Blk w g' t' cs') (hne : t ≠ t') : g ≠ g' := by
  rintro rfl
  unfold Blk at h h'
  rw [h] at h'
  injection h' with h'
  injection h' with _ ht
  exact hne ht
end

section
variable {w w1 w2 w' : World} {row : Option Nat} {g : Nat}
theorem gb_trans (h : w.grownBy w1 row) (k : w1.grownBy w2 row) : w.grownBy w2 row :=
  ⟨k.os.trans h.os, k.tape.trans h.tape, k.output.trans h.output, Nat.le_trans h.size k.size, fun i hi hn => (k.block i (Nat.lt_of_lt_of_le hi h.size) hn).trans (h.block i hi hn)⟩
theorem gb_refl (w : World) (row : Option Nat) : w.grownBy w row := World.grownBy.refl w row
theorem gb_some (h : w.grownBy w' none) (row : Option Nat) : w.grownBy w' row := ⟨h.os, h.tape, h.output, h.size, fun i hi _ => h.block i hi (by simp)⟩
theorem gb_alloc (h : w.grownBy w' row) (o : Obj) : w.grownBy (w'.alloc o) row := gb_trans h (World.grownBy_alloc w' o row)
theorem gb_drew (h : w.grownBy w' row) : w.grownBy w'.drew row := ⟨h.os, h.tape, h.output, h.size, h.block⟩
theorem gb_drewN (h : w.grownBy w' row) (n : Nat) : w.grownBy (w'.drewN n) row := ⟨h.os, h.tape, h.output, h.size, h.block⟩
theorem gb_put (h : w.grownBy w' (some g)) (i : Nat) (u : Value) : w.grownBy (w'.setCell ⟨g, i, none⟩ u) (some g) :=
  gb_trans h ⟨rfl, rfl, rfl, by simp [World.setCell], fun k _ hk => heap_setCell_other w' _ k u (fun e => hk (by rw [e]))⟩
/-- A store into a block that the call itself has made. -/
theorem gb_put_new (h : w.grownBy w' row) {p : Addr} (hp : w.heap.size ≤ p.block) (u : Value) : w.grownBy (w'.setCell p u) row :=
  ⟨h.os, h.tape, h.output, by have := h.size; simpa [World.setCell] using this, fun k hk hn => (heap_setCell_other w' p k u (by omega)).trans (h.block k hk hn)⟩
/-- What is written is new: of what was there nothing has turned. -/
theorem gb_new {r : Nat} (h : w.grownBy w1 row) (k : w1.grownBy w2 (some r)) (hr : w.heap.size ≤ r) : w.grownBy w2 row :=
  ⟨k.os.trans h.os, k.tape.trans h.tape, k.output.trans h.output, Nat.le_trans h.size k.size, fun i hi hn => (k.block i (Nat.lt_of_lt_of_le hi h.size) (by intro e; injection e with e; omega)).trans (h.block i hi hn)⟩
theorem gb_below (h : w.grownBy w' none) : Below w.heap.size w w' := ⟨h.os, h.tape, h.output, h.size, fun k hk => h.block k hk (by simp)⟩
theorem below_gb (h : Below w.heap.size w w') : w.grownBy w' none := ⟨h.os, h.tape, h.output, h.size, fun k hk _ => h.block k hk⟩
end

section
theorem heap_setCells_other (b : Nat) : ∀ (vs : List Value) (o : Nat) (w : World) (k : Nat), k ≠ b → (w.setCells b o vs).heap[k]? = w.heap[k]?
  | [], _, _, _, _ => rfl
  | v :: r, o, w, k, h => by
    show ((w.setCell ⟨b, o, none⟩ v).setCells b (o + 1) r).heap[k]? = _
    rw [heap_setCells_other b r (o + 1) _ k h, heap_setCell_other _ _ _ _ h]
theorem size_setCells (b : Nat) : ∀ (vs : List Value) (o : Nat) (w : World), (w.setCells b o vs).heap.size = w.heap.size
  | [], _, _ => rfl
  | v :: r, o, w => by
    show ((w.setCell ⟨b, o, none⟩ v).setCells b (o + 1) r).heap.size = _
    rw [size_setCells b r (o + 1) _]; simp [World.setCell]
theorem same_setCells (b : Nat) : ∀ (vs : List Value) (o : Nat) (w : World), (w.setCells b o vs).os = w.os ∧ (w.setCells b o vs).tape = w.tape ∧ (w.setCells b o vs).output = w.output
  | [], _, _ => ⟨rfl, rfl, rfl⟩
  | v :: r, o, w => by
    show ((w.setCell ⟨b, o, none⟩ v).setCells b (o + 1) r).os = _ ∧ ((w.setCell ⟨b, o, none⟩ v).setCells b (o + 1) r).tape = _ ∧ ((w.setCell ⟨b, o, none⟩ v).setCells b (o + 1) r).output = _
    exact same_setCells b r (o + 1) _
theorem Blk.farCells {w : World} {g : Nat} {t : TypeId} {cs : Array Value} (h : Blk w g t cs) {b : Nat} (hb : g ≠ b) (o : Nat) (vs : List Value) : Blk (w.setCells b o vs) g t cs := (heap_setCells_other b vs o w g hb).trans h
theorem gb_setCells_new {w w' : World} {row : Option Nat} (h : w.grownBy w' row) {b : Nat} (hb : w.heap.size ≤ b) (o : Nat) (vs : List Value) : w.grownBy (w'.setCells b o vs) row := by
  obtain ⟨h1, h2, h3⟩ := same_setCells b vs o w'
  exact ⟨h1.trans h.os, h2.trans h.tape, h3.trans h.output, by rw [size_setCells]; exact h.size, fun k hk hn => (heap_setCells_other b vs o w' k (by omega)).trans (h.block k hk hn)⟩
end

def putAll (c : Array Value) (o : Nat) : List Value → Array Value
  | [] => c
  | v :: r => putAll (c.setIfInBounds o v) (o + 1) r
theorem putAll_size : ∀ (vs : List Value) (c : Array Value) (o : Nat), (putAll c o vs).size = c.size
  | [], _, _ => rfl
  | v :: r, c, o => by rw [putAll, putAll_size r]; simp
theorem putAll_get : ∀ (vs : List Value) (c : Array Value) (o j : Nat), o + vs.length ≤ c.size → (putAll c o vs)[j]? = if o ≤ j ∧ j < o + vs.length then vs[j - o]? else c[j]?
  | [], c, o, j, _ => by rw [putAll, if_neg (by simp only [List.length_nil]; omega)]
  | v :: r, c, o, j, h => by
    simp only [List.length_cons] at h ⊢
    rw [putAll, putAll_get r _ _ _ (by simp; omega), Array.getElem?_setIfInBounds]
    by_cases e : o = j
    · subst e
      rw [if_neg (by omega), if_pos rfl, if_pos (by omega), if_pos (by omega)]
      simp
    · rw [if_neg e]
      by_cases h1 : o + 1 ≤ j ∧ j < o + 1 + r.length
      · rw [if_pos h1, if_pos (by omega), show j - o = (j - (o + 1)) + 1 from by omega, List.getElem?_cons_succ]
      · rw [if_neg h1, if_neg (by omega)]
theorem Blk.putCells {g : Nat} {t : TypeId} : ∀ (vs : List Value) {w : World} {cs : Array Value} (o : Nat) (_h : Blk w g t cs), Blk (w.setCells g o vs) g t (putAll cs o vs)
  | [], _, _, _, h => h
  | v :: r, _, _, o, h => Blk.putCells r (o + 1) (h.put o v)
/-- A block that is written whole. -/
theorem Blk.whole {w : World} {g : Nat} {t : TypeId} {cs : Array Value} (h : Blk w g t cs) (vs : Array Value) (hn : vs.size = cs.size) : Blk (w.setCells g 0 vs.toList) g t vs := by
  have h1 := h.putCells vs.toList 0
  have e : putAll cs 0 vs.toList = vs := by
    apply Array.ext_getElem?
    intro j
    rw [putAll_get _ _ _ _ (by simp; omega)]
    by_cases hj : j < vs.size
    · rw [if_pos (by simp; omega)]; simp
    · rw [if_neg (by simp; omega), Array.getElem?_eq_none (by omega), Array.getElem?_eq_none (by omega)]
  rwa [e] at h1
/-- The cells of a block, as a range. -/
theorem Blk.range {w : World} {g : Nat} {t : TypeId} {cs : Array Value} (h : Blk w g t cs) : w.rangeAt g 0 cs.toList := fun j v hv => by
  rw [h.cell, Nat.zero_add]
  simpa using hv
theorem there_blk {w : World} {g : Nat} {t : TypeId} {cs : Array Value} (h : Blk w g t cs) {n : Nat} (hn : n ≤ cs.size) : w.there g 0 n := fun j hj => by
  refine ⟨?_, h.frozen _⟩
  rw [h.cell, Nat.zero_add, Array.getElem?_eq_getElem (show j < cs.size by omega)]
  rfl

/-- The cells of an array of n words, told by a function. -/
def wordsK (k : IntKind) (n : Nat) (f : Nat → Int) : Array Value := ((List.range n).map fun j => Value.int k (f j)).toArray
/-- The function that is f but for v at i. -/
def upd (f : Nat → Int) (i : Nat) (v : Int) : Nat → Int := fun j => if j = i then v else f j
theorem upd_same (f : Nat → Int) (i : Nat) (v : Int) : upd f i v i = v := if_pos rfl
theorem upd_other (f : Nat → Int) {i j : Nat} (v : Int) (h : j ≠ i) : upd f i v j = f j := if_neg h

theorem wordsK_size (k : IntKind) (n : Nat) (f : Nat → Int) : (wordsK k n f).size = n := by simp [wordsK]
theorem wordsK_get (k : IntKind) (n : Nat) (f : Nat → Int) {i : Nat} (h : i < n) : (wordsK k n f)[i]? = some (.int k (f i)) := by
  simp [wordsK, h]
theorem wordsK_put (k : IntKind) (n : Nat) (f : Nat → Int) {i : Nat} (_h : i < n) (v : Int) : (wordsK k n f).setIfInBounds i (.int k v) = wordsK k n (upd f i v) := by
  apply Array.ext_getElem?
  intro j
  rw [Array.getElem?_setIfInBounds]
  by_cases hj : j < n
  · rw [wordsK_get k n _ hj, wordsK_get k n _ hj, wordsK_size]
    by_cases e : i = j
    · subst e; simp [upd_same, hj]
    · rw [if_neg e, upd_other f v (by omega)]
  · have h1 : (wordsK k n f)[j]? = none := by rw [Array.getElem?_eq_none]; rw [wordsK_size]; omega
    have h2 : (wordsK k n (upd f i v))[j]? = none := by rw [Array.getElem?_eq_none]; rw [wordsK_size]; omega
    rw [h1, h2, wordsK_size]
    simp; omega
theorem wordsK_congr (k : IntKind) {n : Nat} {f f' : Nat → Int} (h : ∀ j, j < n → f j = f' j) : wordsK k n f = wordsK k n f' := by
  unfold wordsK
  congr 1
  apply List.map_congr_left
  intro j hj
  rw [h j (by simpa using hj)]
end Go.Proofs.YtmedobeogdnkfaaDoor
