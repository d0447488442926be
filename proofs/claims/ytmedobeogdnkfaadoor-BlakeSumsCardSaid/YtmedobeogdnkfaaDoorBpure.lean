/- The plain law of an incremental digest: what the state holds after so many bytes ('WInv'), and what a piece of bytes more makes of it. No Go in it. -/
import Derived.Test.YtmedobeogdnkfaaDoorBst
namespace Go.Proofs.YtmedobeogdnkfaaDoor

theorem getD_app_l (xs ys : List Int) {j : Nat} (h : j < xs.length) : (xs ++ ys).getD j 0 = xs.getD j 0 := by
  rw [List.getD_eq_getElem?_getD, List.getD_eq_getElem?_getD, List.getElem?_append_left h]
theorem getD_app_r (xs ys : List Int) {j : Nat} (h : xs.length ≤ j) : (xs ++ ys).getD j 0 = ys.getD (j - xs.length) 0 := by
  rw [List.getD_eq_getElem?_getD, List.getD_eq_getElem?_getD, List.getElem?_append_right h]

/-- The k-th block of 64 bytes; past the end there are zeros. -/
def blkAt (xs : List Int) (k : Nat) : Nat → Int := fun j => xs.getD (64 * k + j) 0
/-- The words after k whole blocks, none of them the last. -/
def chain (h0 : Nat → Int) (xs : List Int) : Nat → (Nat → Int)
  | 0 => h0
  | k + 1 => compressF (chain h0 xs k) (blkAt xs k) (64 * (k + 1)) false
/-- The words of the digest. -/
def finalF (h0 : Nat → Int) (xs : List Int) : Nat → Int := compressF (chain h0 xs ((xs.length - 1) / 64)) (blkAt xs ((xs.length - 1) / 64)) xs.length true

theorem wpart_congr {b b' : Nat → Int} {j : Nat} (h : ∀ k, k < 4 → b (4 * j + k) = b' (4 * j + k)) : ∀ k, k ≤ 4 → wpart b j k = wpart b' j k := by
  intro k
  induction k with
  | zero => intro _; rfl
  | succ k ih => intro hk; simp only [wpart]; rw [ih (by omega), h k (by omega)]
theorem wordsOf_congr {b b' : Nat → Int} (h : ∀ j, j < 64 → b j = b' j) {j : Nat} (hj : j < 16) : wordsOf b j = wordsOf b' j := wpart_congr (fun k hk => h _ (by omega)) 4 (by omega)
theorem mixesF_congr {m m' : Nat → Int} (h : ∀ j, j < 16 → m j = m' j) {r : Nat} (hr : r < 10) (v : Nat → Int) : ∀ k, k ≤ 8 → mixesF m r v k = mixesF m' r v k := by
  intro k
  induction k with
  | zero => intro _; rfl
  | succ k ih =>
    intro hk
    simp only [mixesF]
    rw [ih (by omega), h _ (sig_lt hr (by omega)), h _ (sig_lt hr (by omega))]
theorem roundsF_congr {m m' : Nat → Int} (h : ∀ j, j < 16 → m j = m' j) (v : Nat → Int) : ∀ r, r ≤ 10 → roundsF m v r = roundsF m' v r := by
  intro r
  induction r with
  | zero => intro _; rfl
  | succ r ih => intro hr; simp only [roundsF]; rw [ih (by omega), mixesF_congr h (by omega) _ 8 (by omega)]
theorem compressF_congr (h : Nat → Int) {b b' : Nat → Int} (hb : ∀ j, j < 64 → b j = b' j) (t : Int) (last : Bool) : compressF h b t last = compressF h b' t last := by
  unfold compressF
  rw [roundsF_congr (fun j hj => wordsOf_congr hb hj) _ 10 (by omega)]

theorem chain_more (h0 : Nat → Int) (xs ys : List Int) : ∀ k, 64 * k ≤ xs.length → chain h0 (xs ++ ys) k = chain h0 xs k := by
  intro k
  induction k with
  | zero => intro _; rfl
  | succ k ih =>
    intro hk
    simp only [chain]
    rw [ih (by omega)]
    refine compressF_congr _ (fun j hj => ?_) _ _
    simp only [blkAt]
    rw [getD_app_l _ _ (by omega)]

/-- What the state holds after the bytes xs. -/
def WInv (h0 : Nat → Int) (xs : List Int) (h buf : Nat → Int) (filled : Nat) (done : Int) : Prop :=
  filled = xs.length - 64 * ((xs.length - 1) / 64) ∧ done = 64 * ((xs.length - 1) / 64 : Nat) ∧ h = chain h0 xs ((xs.length - 1) / 64) ∧ ∀ j, j < filled → buf j = xs.getD (64 * ((xs.length - 1) / 64) + j) 0
/-- The same when there is room in the buffer. -/
def PInv (h0 : Nat → Int) (xs : List Int) (h buf : Nat → Int) (filled : Nat) (done : Int) : Prop :=
  ∃ q : Nat, filled < 64 ∧ xs.length = 64 * q + filled ∧ done = 64 * (q : Int) ∧ h = chain h0 xs q ∧ ∀ j, j < filled → buf j = xs.getD (64 * q + j) 0

theorem WInv.start (h0 buf : Nat → Int) : WInv h0 [] h0 buf 0 0 := ⟨rfl, rfl, rfl, fun j hj => absurd hj (by omega)⟩
theorem WInv.le {h0 : Nat → Int} {xs : List Int} {h buf : Nat → Int} {filled : Nat} {done : Int} (hw : WInv h0 xs h buf filled done) : filled ≤ 64 ∧ 0 ≤ done ∧ done + filled = xs.length := by
  obtain ⟨h1, h2, _, _⟩ := hw
  omega
theorem WInv.room {h0 : Nat → Int} {xs : List Int} {h buf : Nat → Int} {filled : Nat} {done : Int} (hw : WInv h0 xs h buf filled done) (hf : filled ≠ 64) : PInv h0 xs h buf filled done := by
  obtain ⟨h1, h2, h3, h4⟩ := hw
  exact ⟨(xs.length - 1) / 64, by omega, by omega, h2, h3, h4⟩
theorem WInv.full {h0 : Nat → Int} {xs : List Int} {h buf : Nat → Int} {done : Int} (hw : WInv h0 xs h buf 64 done) : PInv h0 xs (compressF h buf (done + 64) false) buf 0 (done + 64) := by
  obtain ⟨h1, h2, h3, h4⟩ := hw
  refine ⟨(xs.length - 1) / 64 + 1, by omega, by omega, by omega, ?_, fun j hj => absurd hj (by omega)⟩
  simp only [chain]
  rw [← h3, compressF_congr h (b := buf) (b' := blkAt xs ((xs.length - 1) / 64)) (fun j hj => h4 j hj), show done + 64 = 64 * (((xs.length - 1) / 64 : Nat) + 1 : Int) from by omega]
/-- The buffer with bytes laid into it from f on. -/
def bufPut (buf : Nat → Int) (f : Nat) (ys : List Int) : Nat → Int := fun j => if f ≤ j ∧ j < f + ys.length then ys.getD (j - f) 0 else buf j
theorem PInv.put {h0 : Nat → Int} {xs ys : List Int} {h buf : Nat → Int} {filled : Nat} {done : Int} (hp : PInv h0 xs h buf filled done) (h1 : 0 < ys.length) (h2 : filled + ys.length ≤ 64) : WInv h0 (xs ++ ys) h (bufPut buf filled ys) (filled + ys.length) done := by
  obtain ⟨q, hf, hl, hd, hh, hb⟩ := hp
  have e : ((xs ++ ys).length - 1) / 64 = q := by simp only [List.length_append]; omega
  unfold WInv
  rw [e]
  refine ⟨by simp only [List.length_append]; omega, hd, by rw [chain_more _ _ _ _ (by omega)]; exact hh, fun j hj => ?_⟩
  unfold bufPut
  by_cases hj2 : filled ≤ j
  · rw [if_pos ⟨hj2, hj⟩, getD_app_r _ _ (by omega)]
    congr 1; omega
  · rw [if_neg (by omega), hb j (by omega), getD_app_l _ _ (by omega)]
/-- The last block: what the digest is of. -/
theorem WInv.final {h0 : Nat → Int} {xs : List Int} {h buf : Nat → Int} {filled : Nat} {done : Int} (hw : WInv h0 xs h buf filled done) : compressF h (fun j => if j < filled then buf j else 0) (done + filled) true = finalF h0 xs := by
  have hl := hw.le
  obtain ⟨h1, h2, h3, h4⟩ := hw
  unfold finalF
  rw [← h3, hl.2.2]
  refine compressF_congr _ (fun j hj => ?_) _ _
  simp only [blkAt]
  by_cases hjf : j < filled
  · rw [if_pos hjf, h4 j hjf]
  · rw [if_neg hjf, List.getD_eq_getElem?_getD, List.getElem?_eq_none (by omega)]; rfl
end Go.Proofs.YtmedobeogdnkfaaDoor
