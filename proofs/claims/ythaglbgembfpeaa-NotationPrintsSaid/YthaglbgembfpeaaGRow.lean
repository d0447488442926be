/- A slice of items, of chains of items, that reads as data, in the print's kinds. -/
import Derived.Test.YthaglbgembfpeaaP0
import Derived.Deep.Slices
import Derived.ChangeArms
import Derived.ProofKit
namespace Go.Proofs.Ythaglbgembfpeaa
open Go.RowKit Go.ChangeShapes Go.WideShapes Go.Deep Go.Proofs.Ythaglbgembfpeaa.P Go.Proofs.YthaglbgembfpeaaW.PrintWords Go.Proofs.YthaglbgembfpeaaW.PrintLast

theorem item_of_trod {H : Type} {enc : TypeId × Value → H} {w : World} {base : Nat} {spare : Nat → Bool} {held : Bool} {fuel : Nat} {cs : List Value} {x : DataW H × List MemPlace}
    (h : DataW.trod enc Try.prog w base spare held fuel 49 cs = some x) : ∃ a : S49, k49.K w a cs := by
  obtain ⟨xs, n, _, _, hl, hlen, hf⟩ := DataW.trod_struct Try.underlying49 h
  have hl5 : cs.length = 5 := hl.trans (by kernel_rfl)
  match cs, hl5 with
  | [c0, c1, c2, c3, c4], _ =>
    have k24 : Try.prog.cellsOf 9 = 1 := by kernel_rfl
    have k3 : Try.prog.cellsOf 3 = 1 := by kernel_rfl
    have k4 : Try.prog.cellsOf 4 = 1 := by kernel_rfl
    match xs, hlen with
    | [y0, y1, y2, y3, y4], _ =>
      have f0 := hf 0 _ rfl
      have f1 := hf 1 _ rfl
      have f2 := hf 2 _ rfl
      have f3 := hf 3 _ rfl
      have f4 := hf 4 _ rfl
      simp [k24, k3, k4] at f0 f1 f2 f3 f4
      obtain ⟨s, e0, _, _⟩ := DataW.trod_string Try.underlying9 f0
      obtain ⟨m, e1, _, _⟩ := DataW.trod_int Try.underlying3 f1
      obtain ⟨b2, e2, _⟩ := DataW.trod_bool Try.underlying4 f2
      obtain ⟨b3, e3, _⟩ := DataW.trod_bool Try.underlying4 f3
      obtain ⟨b4, e4, _⟩ := DataW.trod_bool Try.underlying4 f4
      simp only [List.cons.injEq, and_true] at e0 e1 e2 e3 e4
      subst e0 e1 e2 e3 e4
      exact ⟨⟨s, m, b2, b3, b4⟩, k49_mk w _⟩
/-- A row whose elements read: in the print's kind. -/
theorem row_of_trod {α : Type} [Inhabited α] (K : Kd α) {H : Type} {enc : TypeId × Value → H} {w : World} {base : Nat} {spare : Nat → Bool} {held : Bool} {fuel : Nat} {t e : TypeId} {A : Option Addr} {n c : Nat} {x : DataW H × List MemPlace}
    (ht : Try.prog.underlying t = some (.slice e)) (hsz : Try.prog.cellsOf e = K.sz)
    (el : ∀ {fuel cs x}, DataW.trod enc Try.prog w base spare held fuel e cs = some x → ∃ a, K.K w a cs)
    (h : DataW.trod enc Try.prog w base spare held fuel t [.slice A n c] = some x) : ∃ l : List α, l.length = n ∧ n ≤ c ∧ n ≤ maxLen ∧ Kd.C K w A n l := by
  rcases open_slice ht h with ⟨h0, _⟩ | ⟨a, len, cap, m, n', D, Pl, hcs, hb, hl, hm, hmm, _, hx⟩
  · simp at h0
    obtain ⟨rfl, rfl, rfl⟩ := h0
    exact ⟨[], rfl, Nat.le_refl _, Nat.zero_le _, rfl, by omega, fun h => absurd h (by omega)⟩
  · simp at hcs
    obtain ⟨rfl, rfl, rfl⟩ := hcs
    have hlm : n ≤ m := by rw [hmm]; split <;> omega
    have each : ∀ i, i < n → ∃ a' : α, ∃ cs', w.cells? base (a.add (i * K.sz)) K.sz = some cs' ∧ K.K w a' cs' := fun i hi => by
      obtain ⟨cs', h1, h2⟩ := hx i (by omega)
      rw [hsz] at h1
      obtain ⟨a', ha'⟩ := el h2
      exact ⟨a', cs', h1, ha'⟩
    obtain ⟨f, hf⟩ := choose_lt each
    have h9 : maxLen ≤ 9223372036854775807 := by decide
    refine ⟨(List.range n).map f, by simp, hl, by omega, by simp, by omega, fun hn => ⟨a, rfl, fun j p hp => ?_⟩⟩
    have hj : j < n := by have := (List.getElem?_eq_some_iff.1 hp).1; simpa using this
    rw [List.getElem?_map, List.getElem?_range hj] at hp
    injection hp with hp
    subst hp
    obtain ⟨cs', h1, h2⟩ := hf j hj
    obtain ⟨_, hlen, hcell⟩ := World.cells?_some h1
    refine ⟨cs', hlen, h2, fun i u hu => ?_⟩
    have hi : i < K.sz := by have := (List.getElem?_eq_some_iff.1 hu).1; omega
    rw [← Deep.add_add, hcell i hi, hu]
instance : Inhabited S49 := ⟨z49⟩
theorem items_of_trod {H : Type} {enc : TypeId × Value → H} {w : World} {base : Nat} {spare : Nat → Bool} {held : Bool} {A : Option Addr} {n c : Nat} {d : DataW H} {p : List MemPlace}
    (h : DataW.Trod enc Try.prog w base spare held 23 (.slice A n c) d p) : ∃ l : List S49, l.length = n ∧ n ≤ c ∧ n ≤ maxLen ∧ Kd.C k49 w A n l := by
  obtain ⟨fuel, hf⟩ := h
  exact row_of_trod k49 Try.underlying23 (by kernel_rfl) item_of_trod hf
theorem chains_of_trod {H : Type} {enc : TypeId × Value → H} {w : World} {base : Nat} {spare : Nat → Bool} {held : Bool} {A : Option Addr} {n c : Nat} {d : DataW H} {p : List MemPlace}
    (h : DataW.Trod enc Try.prog w base spare held 42 (.slice A n c) d p) : ∃ l : List (List S49), l.length = n ∧ n ≤ c ∧ n ≤ maxLen ∧ Kd.C (Kd.slice 49 k49) w A n l := by
  obtain ⟨fuel, hf⟩ := h
  refine row_of_trod (Kd.slice 49 k49) Try.underlying42 (by kernel_rfl) (fun {fuel cs x} h => ?_) hf
  have h' := h
  rcases open_slice Try.underlying23 h with ⟨h0, _⟩ | ⟨a, len, cap, m, n', D, Pl, hcs, _⟩
  · subst h0
    obtain ⟨l, hl, hc, _, hC⟩ := row_of_trod k49 Try.underlying23 (by kernel_rfl) item_of_trod h'
    exact ⟨l, none, 0, by rw [hl], by omega, by rw [hl]; exact hC⟩
  · subst hcs
    obtain ⟨l, hl, hc, _, hC⟩ := row_of_trod k49 Try.underlying23 (by kernel_rfl) item_of_trod h'
    exact ⟨l, some a, cap, by rw [hl], by omega, by rw [hl]; exact hC⟩
end Go.Proofs.Ythaglbgembfpeaa
