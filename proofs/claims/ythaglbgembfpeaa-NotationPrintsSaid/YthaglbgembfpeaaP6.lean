/- Each Go function as a plain Lean function, and the proof that its call comes to what that function says: made by a program of this session over the kit's print. -/
import Derived.Test.YthaglbgembfpeaaP0
import Derived.Test.YthaglbgembfpeaaP4
import Derived.Test.YthaglbgembfpeaaP5
namespace Go.Proofs.Ythaglbgembfpeaa.P
open Go.RowKit Go.Proofs.YthaglbgembfpeaaW.PrintWords Go.Proofs.YthaglbgembfpeaaW.PrintLast Go.Proofs.YthaglbgembfpeaaW.PrintMore
attribute [local go_sem] max2_int min2_int max_two min_two max_three min_three max_four min_four   -- for this text's walks alone
set_option linter.unusedVariables false
set_option linter.unusedSimpArgs false

/-! ### salchowref19_item: function 28 -/
mutual
def salchowref19_item.j1 : Nat → ByteArray → Int → Int → Int → Option (ByteArray × Int × Bool × Bool × Bool × Int × Int × Int)
  | 0, _, _, _, _ => none
  | k + 1, x0, x1, x2, x9 => if x9 = x1 then (some ((⟨#[]⟩ : ByteArray), 0, false, false, false, 0, 2, x1)) else (if x2 = 30 then (some ((⟨#[]⟩ : ByteArray), 0, false, false, false, 0, 6, x1)) else (if 0 ≤ x1 then (if x1 ≤ x9 then (if x9 ≤ (x0.size : Int) then ((salchowref04_Code.f k (x0.extract (x1 : Int).toNat (x9 : Int).toNat)).bind fun t183 => (if t183 = true then (salchowref19_item.l1 k x0 x9 (x0.extract (x1 : Int).toNat (x9 : Int).toNat) 0 false false false) else (some ((⟨#[]⟩ : ByteArray), 0, false, false, false, 0, 3, x1)))) else (none)) else (none)) else (none)))
def salchowref19_item.l1 : Nat → ByteArray → Int → ByteArray → Int → Bool → Bool → Bool → Option (ByteArray × Int × Bool × Bool × Bool × Int × Int × Int)
  | 0, _, _, _, _, _, _, _ => none
  | k + 1, x0, x9, x183000, x183001, x183002, x183003, x183004 => if x9 < (x0.size : Int) then (if 0 ≤ x9 then (if (bt x0 x9) = 60 then (if x183001 = 9 then (some ((⟨#[]⟩ : ByteArray), 0, false, false, false, 0, 6, x9)) else (salchowref19_item.l1 k x0 (wrap64 (x9 + 1)) x183000 (wrap64 (x183001 + 1)) x183002 x183003 x183004)) else (if (bt x0 x9) = 63 then (if x183002 = true then (some ((⟨#[]⟩ : ByteArray), 0, false, false, false, 0, 4, x9)) else (salchowref19_item.l1 k x0 (wrap64 (x9 + 1)) x183000 x183001 true x183003 x183004)) else (if (bt x0 x9) = 42 then (if x183003 = true then (some ((⟨#[]⟩ : ByteArray), 0, false, false, false, 0, 4, x9)) else (salchowref19_item.l1 k x0 (wrap64 (x9 + 1)) x183000 x183001 x183002 true x183004)) else (if (bt x0 x9) = 43 then (some (x183000, x183001, x183002, x183003, true, wrap64 (x9 + 1), 0, 0)) else (some (x183000, x183001, x183002, x183003, x183004, x9, 0, 0)))))) else (none)) else (some (x183000, x183001, x183002, x183003, x183004, x9, 0, 0))
def salchowref19_item.l0 : Nat → ByteArray → Int → Int → Int → Option (ByteArray × Int × Bool × Bool × Bool × Int × Int × Int)
  | 0, _, _, _, _ => none
  | k + 1, x0, x1, x2, x9 => if x9 < (x0.size : Int) then (if 0 ≤ x9 then ((salchowref19_letter.f (bt x0 x9)).bind fun t181 => (if t181 = true then (salchowref19_item.l0 k x0 x1 x2 (wrap64 (x9 + 1))) else (salchowref19_item.j1 k x0 x1 x2 x9))) else (none)) else (salchowref19_item.j1 k x0 x1 x2 x9)
end
def salchowref19_item.f (k : Nat) (a0 : ByteArray) (a1 : Int) (a2 : Int) : Option (ByteArray × Int × Bool × Bool × Bool × Int × Int × Int) := salchowref19_item.l0 k a0 a1 a2 a1
theorem salchowref19_item.mono_l : ∀ k, (∀ y0 y1 y2 y3, LeO (salchowref19_item.j1 k y0 y1 y2 y3) (salchowref19_item.j1 (k + 1) y0 y1 y2 y3)) ∧ (∀ y0 y1 y2 y3 y4 y5 y6, LeO (salchowref19_item.l1 k y0 y1 y2 y3 y4 y5 y6) (salchowref19_item.l1 (k + 1) y0 y1 y2 y3 y4 y5 y6)) ∧ (∀ y0 y1 y2 y3, LeO (salchowref19_item.l0 k y0 y1 y2 y3) (salchowref19_item.l0 (k + 1) y0 y1 y2 y3))
  | 0 => ⟨fun _ _ _ _ r h => by simp [salchowref19_item.j1] at h, fun _ _ _ _ _ _ _ r h => by simp [salchowref19_item.l1] at h, fun _ _ _ _ r h => by simp [salchowref19_item.l0] at h⟩
  | k + 1 => by
    obtain ⟨ih0, ih1, ih2⟩ := salchowref19_item.mono_l k
    refine ⟨?_, ?_, ?_⟩
    · intro y0 y1 y2 y3
      unfold salchowref19_item.j1
      repeat' first
      | (with_reducible exact ih0 _ _ _ _)
      | (with_reducible exact ih1 _ _ _ _ _ _ _)
      | (with_reducible exact ih2 _ _ _ _)
      | (with_reducible exact salchowref04_Code.mono _ _)
      | (with_reducible exact LeO.refl _)
      | (with_reducible exact LeO.none _)
      | (with_reducible refine LeO.ite ?_ ?_)
      | (with_reducible refine LeO.bind ?_ (fun _ => ?_))
      | exact ih0 _ _ _ _
      | exact ih1 _ _ _ _ _ _ _
      | exact ih2 _ _ _ _
      | exact salchowref04_Code.mono _ _
      | exact LeO.none _
      | refine LeO.ite ?_ ?_
      | refine LeO.bind ?_ (fun _ => ?_)
    · intro y0 y1 y2 y3 y4 y5 y6
      unfold salchowref19_item.l1
      repeat' first
      | (with_reducible exact ih0 _ _ _ _)
      | (with_reducible exact ih1 _ _ _ _ _ _ _)
      | (with_reducible exact ih2 _ _ _ _)
      | (with_reducible exact salchowref04_Code.mono _ _)
      | (with_reducible exact LeO.refl _)
      | (with_reducible exact LeO.none _)
      | (with_reducible refine LeO.ite ?_ ?_)
      | (with_reducible refine LeO.bind ?_ (fun _ => ?_))
      | exact ih0 _ _ _ _
      | exact ih1 _ _ _ _ _ _ _
      | exact ih2 _ _ _ _
      | exact salchowref04_Code.mono _ _
      | exact LeO.none _
      | refine LeO.ite ?_ ?_
      | refine LeO.bind ?_ (fun _ => ?_)
    · intro y0 y1 y2 y3
      unfold salchowref19_item.l0
      repeat' first
      | (with_reducible exact ih0 _ _ _ _)
      | (with_reducible exact ih1 _ _ _ _ _ _ _)
      | (with_reducible exact ih2 _ _ _ _)
      | (with_reducible exact salchowref04_Code.mono _ _)
      | (with_reducible exact LeO.refl _)
      | (with_reducible exact LeO.none _)
      | (with_reducible refine LeO.ite ?_ ?_)
      | (with_reducible refine LeO.bind ?_ (fun _ => ?_))
      | exact ih0 _ _ _ _
      | exact ih1 _ _ _ _ _ _ _
      | exact ih2 _ _ _ _
      | exact salchowref04_Code.mono _ _
      | exact LeO.none _
      | refine LeO.ite ?_ ?_
      | refine LeO.bind ?_ (fun _ => ?_)
theorem salchowref19_item.mono : ∀ a0 a1 a2 k, LeO (salchowref19_item.f k a0 a1 a2) (salchowref19_item.f (k + 1) a0 a1 a2) := by
  intro a0 a1 a2 k
  obtain ⟨ih0, ih1, ih2⟩ := salchowref19_item.mono_l k
  unfold salchowref19_item.f
  repeat' first
      | (with_reducible exact ih0 _ _ _ _)
      | (with_reducible exact ih1 _ _ _ _ _ _ _)
      | (with_reducible exact ih2 _ _ _ _)
      | (with_reducible exact salchowref04_Code.mono _ _)
      | (with_reducible exact LeO.refl _)
      | (with_reducible exact LeO.none _)
      | (with_reducible refine LeO.ite ?_ ?_)
      | (with_reducible refine LeO.bind ?_ (fun _ => ?_))
      | exact ih0 _ _ _ _
      | exact ih1 _ _ _ _ _ _ _
      | exact ih2 _ _ _ _
      | exact salchowref04_Code.mono _ _
      | exact LeO.none _
      | refine LeO.ite ?_ ?_
      | refine LeO.bind ?_ (fun _ => ?_)
set_option maxHeartbeats 8000000 in
set_option maxRecDepth 100000 in
theorem salchowref19_item.calls (k : Nat) (a0 : ByteArray) (a1 : Int) (a2 : Int) (r1 : ByteArray) (r2 : Int) (r3 : Bool) (r4 : Bool) (r5 : Bool) (r6 : Int) (r7 : Int) (r8 : Int) (w : World) (h : salchowref19_item.f k a0 a1 a2 = some (r1, r2, r3, r4, r5, r6, r7, r8)) :
    Calls Try.prog 28 #[.string a0, .int .i64 a1, .int .i64 a2] w fun e w' => e = .returned (.tuple #[.agg #[.string r1, .int .i64 r2, .bool r3, .bool r4, .bool r5], .int .i64 r6, .agg #[.int .i64 r7, .int .i64 r8]]) ∧ Below w.heap.size w w' := by
  have hu49 := Try.underlying49
  have hu26 := Try.underlying26
  have HB := Aside0.mk (Below.refl w.heap.size w)
  have H : (salchowref19_item.l0 k a0 a1 a2 a1) = some (r1, r2, r3, r4, r5, r6, r7, r8) := h
  clear h
  have HC4 := Aside0.mk H
  clear H
  go_enter Try.func28, Try.ntmps28
  go_upto_block 0 with (first | ((with_reducible refine gate_dst (N := 6) rfl ?_); refine box_event ?hg (N := 6) ?hd (cs := #[.string (⟨#[]⟩ : ByteArray), .int .i64 0, .bool false, .bool false, .bool false]) (t := 49) ?hr ?_; (case hd => rfl); (case hg => rfl); (case hr => first | (go_simp; done) | (go_simp; rfl)); intro gb179 hg w5 hbox hb; have n0_ := Aside0.mk (below_step (by repeat (first | (with_reducible first | exact HB.out | apply below_alloc | apply pw_below_drewN | apply below_drew1) | exact HB.out)) hb); have n1_ := Aside0.mk (hbox); have n2_ := Aside0.mk ((by rw [hg]; exact (below_size (by repeat (first | (with_reducible first | exact HB.out | apply below_alloc | apply pw_below_drewN | apply below_drew1) | exact HB.out))) : w.heap.size ≤ gb179)); have n3_ := Aside0.mk ((by rw [hg]; exact (below_size (by repeat (first | (with_reducible first | exact HB.out | apply below_alloc | apply pw_below_drewN | apply below_drew1) | exact HB.out))) : w.heap.size ≤ gb179)); clear HB; have HB := n0_; have BK179 := n1_; have GW179 := n2_; have GE179 := n3_; clear n0_ n1_ n2_ n3_; clear hb hbox hg) | ((with_reducible refine gate_dst (N := 8) rfl ?_); refine box_event ?hg (N := 8) ?hd (cs := #[.int .i64 0, .int .i64 0]) (t := 26) ?hr ?_; (case hd => rfl); (case hg => rfl); (case hr => first | (go_simp; done) | (go_simp; rfl)); intro gb180 hg w6 hbox hb; have n0_ := Aside0.mk (blk_below (g := gb179) (o := .cells #[.string (⟨#[]⟩ : ByteArray), .int .i64 0, .bool false, .bool false, .bool false] 49 (0, 0)) (by (with_reducible repeat (first | refine blk_drewN ?_ _ | refine blk_drew ?_ | refine blk_alloc ?_ _)); exact BK179.out) hb); have n1_ := Aside0.mk (below_step (by repeat (first | (with_reducible first | exact HB.out | apply below_alloc | apply pw_below_drewN | apply below_drew1 | refine below_set ?_ GE179.out) | exact HB.out)) hb); have n2_ := Aside0.mk (hbox); have n3_ := Aside0.mk ((by rw [hg]; exact (below_size (by repeat (first | (with_reducible first | exact HB.out | apply below_alloc | apply pw_below_drewN | apply below_drew1 | refine below_set ?_ GE179.out) | exact HB.out))) : w.heap.size ≤ gb180)); have n4_ := Aside0.mk ((by rw [hg]; exact (below_size (by repeat (first | (with_reducible first | exact HB.out | apply below_alloc | apply pw_below_drewN | apply below_drew1 | refine below_set ?_ GE179.out) | exact HB.out))) : w.heap.size ≤ gb180)); have n5_ := Aside0.mk ((by rw [hg]; exact Nat.ne_of_lt (blk_lt (g := gb179) (o := .cells #[.string (⟨#[]⟩ : ByteArray), .int .i64 0, .bool false, .bool false, .bool false] 49 (0, 0)) (by (with_reducible repeat (first | refine blk_drewN ?_ _ | refine blk_drew ?_ | refine blk_alloc ?_ _)); exact BK179.out)) : gb179 ≠ gb180)); have n6_ := Aside0.mk ((by rw [hg]; exact Nat.ne_of_gt (blk_lt (g := gb179) (o := .cells #[.string (⟨#[]⟩ : ByteArray), .int .i64 0, .bool false, .bool false, .bool false] 49 (0, 0)) (by (with_reducible repeat (first | refine blk_drewN ?_ _ | refine blk_drew ?_ | refine blk_alloc ?_ _)); exact BK179.out)) : gb180 ≠ gb179)); clear BK179; clear HB; have BK179 := n0_; have HB := n1_; have BK180 := n2_; have GW180 := n3_; have GE180 := n4_; have NB179_180 := n5_; have NB180_179 := n6_; clear n0_ n1_ n2_ n3_ n4_ n5_ n6_; clear hb hbox hg))
  (try simp only [Act.put, List.setIfInBounds_toArray, List.set_cons_zero, List.set_cons_succ])
  go_cut [9] (fun v9 wc => ∃ (kq : Nat) (x9_3 : Int), v9 = .int .i64 x9_3 ∧ Aside0 (salchowref19_item.j1 kq a0 a1 a2 x9_3 = some (r1, r2, r3, r4, r5, r6, r7, r8)) ∧ Aside0 (kq ≤ k) ∧ Aside0 (wc.heap[gb179]? = some (.cells #[.string (⟨#[]⟩ : ByteArray), .int .i64 0, .bool false, .bool false, .bool false] 49 (0, 0))) ∧ Aside0 (wc.heap[gb180]? = some (.cells #[.int .i64 0, .int .i64 0] 26 (0, 0))) ∧ Aside0 (Below w.heap.size w wc))
  case first =>
    have H := HC4.out
    clear HC4
    have H' := Aside0.mk H
    clear H
    go_wp2
    go_loopg [9] k (fun kq v9 w' => ∃ (x9_1 : Int), v9 = .int .i64 x9_1 ∧ Aside0 (salchowref19_item.l0 kq a0 a1 a2 x9_1 = some (r1, r2, r3, r4, r5, r6, r7, r8)) ∧ Aside0 (kq ≤ k) ∧ Aside0 (w'.heap[gb179]? = some (.cells #[.string (⟨#[]⟩ : ByteArray), .int .i64 0, .bool false, .bool false, .bool false] 49 (0, 0))) ∧ Aside0 (w'.heap[gb180]? = some (.cells #[.int .i64 0, .int .i64 0] 26 (0, 0))) ∧ Aside0 (Below w.heap.size w w'))
    case atStart => exact ⟨(a1), (by first | rfl | (simp; done) | (simp [*]; done)), H', ⟨Nat.le_refl _⟩, ⟨by (with_reducible repeat (first | refine blk_drewN ?_ _ | refine blk_drew ?_ | refine blk_alloc ?_ _)); exact BK179.out⟩, ⟨by (with_reducible repeat (first | refine blk_drewN ?_ _ | refine blk_drew ?_ | refine blk_alloc ?_ _)); exact BK180.out⟩, ⟨by repeat (first | (with_reducible first | exact HB.out | apply below_alloc | apply pw_below_drewN | apply below_drew1 | refine below_set ?_ GE179.out | refine below_set ?_ GE180.out) | exact HB.out)⟩⟩
    case round =>
      clear H'
      try clear c2
      try clear p2
      obtain ⟨x9_1, rfl, HA, HK1, BK179, BK180, HB⟩ := hrel
      cases gk with
      | zero => exact absurd HA.out (by simp [salchowref19_item.l0])
      | succ k1 =>
        have H := HA.out
        clear HA
        simp only [salchowref19_item.l0] at H
        by_cases c7 : x9_1 < (a0.size : Int)
        · rw [if_pos c7] at H
          have c7b0 : decide (x9_1 < (a0.size : Int)) = true := decide_eq_true c7
          clear c7
          (first | rw [c7b0] | (simp only [i64_w, i32_w]; rw [c7b0]) | skip)
          by_cases c8 : 0 ≤ x9_1
          · rw [if_pos c8] at H
            have c8b0 : decide (0 ≤ x9_1) = true := decide_eq_true c8
            clear c8
            replace H := Option.bind_eq_some_iff.mp H
            obtain ⟨t181, A100, H⟩ := H
            replace H : (if t181 = true then (salchowref19_item.l0 k1 a0 a1 a2 (wrap64 (x9_1 + 1))) else (salchowref19_item.j1 k1 a0 a1 a2 x9_1)) = some (r1, r2, r3, r4, r5, r6, r7, r8) := H
            have A10 := Aside0.mk A100
            clear A100
            by_cases c11 : t181 = true
            · subst c11
              have H1 : (salchowref19_item.l0 k1 a0 a1 a2 (wrap64 (x9_1 + 1))) = some (r1, r2, r3, r4, r5, r6, r7, r8) := by rw [if_pos rfl] at H; exact H
              clear H
              have H := H1
              clear H1
              have H' := Aside0.mk H
              clear H
              have p9 : 0 ≤ (x9_1 : Int) := of_decide_eq_true (by first | (with_reducible assumption) | assumption)
              have q9 : x9_1 < (a0.size : Int) := of_decide_eq_true (by first | (with_reducible assumption) | assumption)
              have hx9 := bt_at a0 x9_1
              replace p9 := eq_true p9
              replace q9 := eq_true q9
              go_wp2_with (first | (go_at_call 41; (with_reducible refine (salchowref19_letter.calls (bt a0 x9_1) true _ A10.out).mono ?_); rintro e w' ⟨rfl, ⟨nd, rfl⟩⟩))
              go_roundg k1
              case measure => have := HK1.out; omega
              case rel => exact ⟨(wrap64 (x9_1 + 1)), (by first | rfl | (simp; done) | (simp [*]; done)), H', ⟨by have := HK1.out; omega⟩, ⟨by (with_reducible repeat (first | refine blk_drewN ?_ _ | refine blk_drew ?_ | refine blk_alloc ?_ _)); exact BK179.out⟩, ⟨by (with_reducible repeat (first | refine blk_drewN ?_ _ | refine blk_drew ?_ | refine blk_alloc ?_ _)); exact BK180.out⟩, ⟨by repeat (first | (with_reducible first | exact HB.out | apply below_alloc | apply pw_below_drewN | apply below_drew1 | refine below_set ?_ GE179.out | refine below_set ?_ GE180.out) | exact HB.out)⟩⟩
            · replace c11 := Bool.eq_false_iff.mpr c11
              subst c11
              have H1 : (salchowref19_item.j1 k1 a0 a1 a2 x9_1) = some (r1, r2, r3, r4, r5, r6, r7, r8) := by rw [if_neg (show ¬ (false = true) by decide)] at H; exact H
              clear H
              have H := H1
              clear H1
              have H' := Aside0.mk H
              clear H
              have p9 : 0 ≤ (x9_1 : Int) := of_decide_eq_true (by first | (with_reducible assumption) | assumption)
              have q9 : x9_1 < (a0.size : Int) := of_decide_eq_true (by first | (with_reducible assumption) | assumption)
              have hx9 := bt_at a0 x9_1
              replace p9 := eq_true p9
              replace q9 := eq_true q9
              go_wp2_with (first | (go_at_call 41; (with_reducible refine (salchowref19_letter.calls (bt a0 x9_1) false _ A10.out).mono ?_); rintro e w' ⟨rfl, ⟨nd, rfl⟩⟩))
              go_meet
              case rel => exact ⟨_, (x9_1), (by first | rfl | (simp; done) | (simp [*]; done)), H', ⟨by have := HK1.out; first | omega | exact Nat.le_refl _⟩, ⟨by (with_reducible repeat (first | refine blk_drewN ?_ _ | refine blk_drew ?_ | refine blk_alloc ?_ _)); exact BK179.out⟩, ⟨by (with_reducible repeat (first | refine blk_drewN ?_ _ | refine blk_drew ?_ | refine blk_alloc ?_ _)); exact BK180.out⟩, ⟨by repeat (first | (with_reducible first | exact HB.out | apply below_alloc | apply pw_below_drewN | apply below_drew1 | refine below_set ?_ GE179.out | refine below_set ?_ GE180.out) | exact HB.out)⟩⟩
          · rw [if_neg c8] at H
            exact absurd H (by simp)
        · rw [if_neg c7] at H
          have c7b0 : decide (x9_1 < (a0.size : Int)) = false := decide_eq_false c7
          clear c7
          (first | rw [c7b0] | (simp only [i64_w, i32_w]; rw [c7b0]) | skip)
          have H' := Aside0.mk H
          clear H
          go_wp2
          go_meet
          case rel => exact ⟨_, (x9_1), (by first | rfl | (simp; done) | (simp [*]; done)), H', ⟨by have := HK1.out; first | omega | exact Nat.le_refl _⟩, ⟨by (with_reducible repeat (first | refine blk_drewN ?_ _ | refine blk_drew ?_ | refine blk_alloc ?_ _)); exact BK179.out⟩, ⟨by (with_reducible repeat (first | refine blk_drewN ?_ _ | refine blk_drew ?_ | refine blk_alloc ?_ _)); exact BK180.out⟩, ⟨by repeat (first | (with_reducible first | exact HB.out | apply below_alloc | apply pw_below_drewN | apply below_drew1 | refine below_set ?_ GE179.out | refine below_set ?_ GE180.out) | exact HB.out)⟩⟩
  case rest =>
    clear HC4
    try clear c1
    try clear c2
    try clear p2
    try clear p6
    try clear c7
    try clear c7b0
    try clear c8
    try clear c8b0
    try clear p9
    try clear q9
    try clear hx9
    try clear c11
    try clear p2
    try clear p9
    try clear q9
    obtain ⟨kq, x9_3, rfl, HA, HJ3, BK179, BK180, HB⟩ := hcut
    cases kq with
    | zero => exact absurd HA.out (by simp [salchowref19_item.j1])
    | succ kj3 =>
      have H := HA.out
      clear HA
      simp only [salchowref19_item.j1] at H
      by_cases c12 : x9_3 = a1
      · rw [if_pos c12] at H
        have c12b0 : (x9_3 == a1) = true := beq_iff_eq.mpr c12
        have c12b1 : (x9_3 != a1) = false := bne_eq_false_iff_eq.mpr c12
        clear c12
        simp only [Option.some.injEq, Prod.mk.injEq] at H
        obtain ⟨rfl, rfl, rfl, rfl, rfl, rfl, rfl, rfl⟩ := H
        have hnb13 := NB179_180.out
        have hnc13 := NB180_179.out
        have hcz14_0 : wc.cell? ⟨gb179, 0, none⟩ = some (.string (⟨#[]⟩ : ByteArray)) := (blk_cell BK179.out 0).trans rfl
        have hcz14_1 : wc.cell? ⟨gb179, 1, none⟩ = some (.int .i64 0) := (blk_cell BK179.out 1).trans rfl
        have hcz14_2 : wc.cell? ⟨gb179, 2, none⟩ = some (.bool false) := (blk_cell BK179.out 2).trans rfl
        have hcz14_3 : wc.cell? ⟨gb179, 3, none⟩ = some (.bool false) := (blk_cell BK179.out 3).trans rfl
        have hcz14_4 : wc.cell? ⟨gb179, 4, none⟩ = some (.bool false) := (blk_cell BK179.out 4).trans rfl
        have hfz14_0 := blk_frozen BK179.out 0
        have hfz14_1 := blk_frozen BK179.out 1
        have hfz14_2 := blk_frozen BK179.out 2
        have hfz14_3 := blk_frozen BK179.out 3
        have hfz14_4 := blk_frozen BK179.out 4
        have hcz15_0 : wc.cell? ⟨gb180, 0, none⟩ = some (.int .i64 0) := (blk_cell BK180.out 0).trans rfl
        have hcz15_1 : wc.cell? ⟨gb180, 1, none⟩ = some (.int .i64 0) := (blk_cell BK180.out 1).trans rfl
        have hfz15_0 := blk_frozen BK180.out 0
        have hfz15_1 := blk_frozen BK180.out 1
        go_wp2
        refine bodyPost_ret (results_list (rs := [.cell 6 49, .tmp 7, .cell 8 26]) rfl (by simp) (.cell gb179 49 #[.string (⟨#[]⟩ : ByteArray), .int .i64 0, .bool false, .bool false, .bool false] (0, 0) _ rfl (by (with_reducible repeat (first | refine blk_drewN ?_ _ | refine blk_drew ?_ | refine blk_alloc ?_ _)); refine blk_far ?_ NB179_180.out _; (with_reducible repeat (first | refine blk_drewN ?_ _ | refine blk_drew ?_ | refine blk_alloc ?_ _)); refine blk_far ?_ NB179_180.out _; (with_reducible repeat (first | refine blk_drewN ?_ _ | refine blk_drew ?_ | refine blk_alloc ?_ _)); refine blk_put (cs := #[.string (⟨#[]⟩ : ByteArray), .int .i64 0, .bool false, .bool false, .bool false]) ?_ 4 _ rfl; (with_reducible repeat (first | refine blk_drewN ?_ _ | refine blk_drew ?_ | refine blk_alloc ?_ _)); refine blk_put (cs := #[.string (⟨#[]⟩ : ByteArray), .int .i64 0, .bool false, .bool false, .bool false]) ?_ 3 _ rfl; (with_reducible repeat (first | refine blk_drewN ?_ _ | refine blk_drew ?_ | refine blk_alloc ?_ _)); refine blk_put (cs := #[.string (⟨#[]⟩ : ByteArray), .int .i64 0, .bool false, .bool false, .bool false]) ?_ 2 _ rfl; (with_reducible repeat (first | refine blk_drewN ?_ _ | refine blk_drew ?_ | refine blk_alloc ?_ _)); refine blk_put (cs := #[.string (⟨#[]⟩ : ByteArray), .int .i64 0, .bool false, .bool false, .bool false]) ?_ 1 _ rfl; (with_reducible repeat (first | refine blk_drewN ?_ _ | refine blk_drew ?_ | refine blk_alloc ?_ _)); refine blk_put (cs := #[.string (⟨#[]⟩ : ByteArray), .int .i64 0, .bool false, .bool false, .bool false]) ?_ 0 _ rfl; (with_reducible repeat (first | refine blk_drewN ?_ _ | refine blk_drew ?_ | refine blk_alloc ?_ _)); exact BK179.out) Try.underlying49 rfl (by kernel_rfl) (.tmp (.cell gb180 26 #[.int .i64 2, .int .i64 a1] (0, 0) _ rfl (by (with_reducible repeat (first | refine blk_drewN ?_ _ | refine blk_drew ?_ | refine blk_alloc ?_ _)); refine blk_put (cs := #[.int .i64 2, .int .i64 0]) ?_ 1 _ rfl; (with_reducible repeat (first | refine blk_drewN ?_ _ | refine blk_drew ?_ | refine blk_alloc ?_ _)); refine blk_put (cs := #[.int .i64 0, .int .i64 0]) ?_ 0 _ rfl; (with_reducible repeat (first | refine blk_drewN ?_ _ | refine blk_drew ?_ | refine blk_alloc ?_ _)); refine blk_far ?_ NB180_179.out _; (with_reducible repeat (first | refine blk_drewN ?_ _ | refine blk_drew ?_ | refine blk_alloc ?_ _)); refine blk_far ?_ NB180_179.out _; (with_reducible repeat (first | refine blk_drewN ?_ _ | refine blk_drew ?_ | refine blk_alloc ?_ _)); refine blk_far ?_ NB180_179.out _; (with_reducible repeat (first | refine blk_drewN ?_ _ | refine blk_drew ?_ | refine blk_alloc ?_ _)); refine blk_far ?_ NB180_179.out _; (with_reducible repeat (first | refine blk_drewN ?_ _ | refine blk_drew ?_ | refine blk_alloc ?_ _)); refine blk_far ?_ NB180_179.out _; (with_reducible repeat (first | refine blk_drewN ?_ _ | refine blk_drew ?_ | refine blk_alloc ?_ _)); exact BK180.out) Try.underlying26 rfl (by kernel_rfl) .nil)))) rfl ?_
        exact ⟨by first | rfl | (simp [errW_none, errW_some] <;> rfl) | (simp [*, errW_none, errW_some] <;> rfl), by repeat (first | (with_reducible first | exact HB.out | apply below_alloc | apply pw_below_drewN | apply below_drew1 | refine below_set ?_ GE179.out | refine below_set ?_ GE180.out) | exact HB.out)⟩
      · rw [if_neg c12] at H
        have c12b0 : (x9_3 == a1) = false := beq_eq_false_iff_ne.mpr c12
        have c12b1 : (x9_3 != a1) = true := bne_iff_ne.mpr c12
        by_cases c16 : a2 = 30
        · rw [if_pos c16] at H
          have c16b0 : (a2 == 30) = true := beq_iff_eq.mpr c16
          have c16b1 : (a2 != 30) = false := bne_eq_false_iff_eq.mpr c16
          clear c16
          simp only [Option.some.injEq, Prod.mk.injEq] at H
          obtain ⟨rfl, rfl, rfl, rfl, rfl, rfl, rfl, rfl⟩ := H
          have hnb17 := NB179_180.out
          have hnc17 := NB180_179.out
          have hcz18_0 : wc.cell? ⟨gb179, 0, none⟩ = some (.string (⟨#[]⟩ : ByteArray)) := (blk_cell BK179.out 0).trans rfl
          have hcz18_1 : wc.cell? ⟨gb179, 1, none⟩ = some (.int .i64 0) := (blk_cell BK179.out 1).trans rfl
          have hcz18_2 : wc.cell? ⟨gb179, 2, none⟩ = some (.bool false) := (blk_cell BK179.out 2).trans rfl
          have hcz18_3 : wc.cell? ⟨gb179, 3, none⟩ = some (.bool false) := (blk_cell BK179.out 3).trans rfl
          have hcz18_4 : wc.cell? ⟨gb179, 4, none⟩ = some (.bool false) := (blk_cell BK179.out 4).trans rfl
          have hfz18_0 := blk_frozen BK179.out 0
          have hfz18_1 := blk_frozen BK179.out 1
          have hfz18_2 := blk_frozen BK179.out 2
          have hfz18_3 := blk_frozen BK179.out 3
          have hfz18_4 := blk_frozen BK179.out 4
          have hcz19_0 : wc.cell? ⟨gb180, 0, none⟩ = some (.int .i64 0) := (blk_cell BK180.out 0).trans rfl
          have hcz19_1 : wc.cell? ⟨gb180, 1, none⟩ = some (.int .i64 0) := (blk_cell BK180.out 1).trans rfl
          have hfz19_0 := blk_frozen BK180.out 0
          have hfz19_1 := blk_frozen BK180.out 1
          go_wp2
          refine bodyPost_ret (results_list (rs := [.cell 6 49, .tmp 7, .cell 8 26]) rfl (by simp) (.cell gb179 49 #[.string (⟨#[]⟩ : ByteArray), .int .i64 0, .bool false, .bool false, .bool false] (0, 0) _ rfl (by (with_reducible repeat (first | refine blk_drewN ?_ _ | refine blk_drew ?_ | refine blk_alloc ?_ _)); refine blk_far ?_ NB179_180.out _; (with_reducible repeat (first | refine blk_drewN ?_ _ | refine blk_drew ?_ | refine blk_alloc ?_ _)); refine blk_far ?_ NB179_180.out _; (with_reducible repeat (first | refine blk_drewN ?_ _ | refine blk_drew ?_ | refine blk_alloc ?_ _)); refine blk_put (cs := #[.string (⟨#[]⟩ : ByteArray), .int .i64 0, .bool false, .bool false, .bool false]) ?_ 4 _ rfl; (with_reducible repeat (first | refine blk_drewN ?_ _ | refine blk_drew ?_ | refine blk_alloc ?_ _)); refine blk_put (cs := #[.string (⟨#[]⟩ : ByteArray), .int .i64 0, .bool false, .bool false, .bool false]) ?_ 3 _ rfl; (with_reducible repeat (first | refine blk_drewN ?_ _ | refine blk_drew ?_ | refine blk_alloc ?_ _)); refine blk_put (cs := #[.string (⟨#[]⟩ : ByteArray), .int .i64 0, .bool false, .bool false, .bool false]) ?_ 2 _ rfl; (with_reducible repeat (first | refine blk_drewN ?_ _ | refine blk_drew ?_ | refine blk_alloc ?_ _)); refine blk_put (cs := #[.string (⟨#[]⟩ : ByteArray), .int .i64 0, .bool false, .bool false, .bool false]) ?_ 1 _ rfl; (with_reducible repeat (first | refine blk_drewN ?_ _ | refine blk_drew ?_ | refine blk_alloc ?_ _)); refine blk_put (cs := #[.string (⟨#[]⟩ : ByteArray), .int .i64 0, .bool false, .bool false, .bool false]) ?_ 0 _ rfl; (with_reducible repeat (first | refine blk_drewN ?_ _ | refine blk_drew ?_ | refine blk_alloc ?_ _)); exact BK179.out) Try.underlying49 rfl (by kernel_rfl) (.tmp (.cell gb180 26 #[.int .i64 6, .int .i64 a1] (0, 0) _ rfl (by (with_reducible repeat (first | refine blk_drewN ?_ _ | refine blk_drew ?_ | refine blk_alloc ?_ _)); refine blk_put (cs := #[.int .i64 6, .int .i64 0]) ?_ 1 _ rfl; (with_reducible repeat (first | refine blk_drewN ?_ _ | refine blk_drew ?_ | refine blk_alloc ?_ _)); refine blk_put (cs := #[.int .i64 0, .int .i64 0]) ?_ 0 _ rfl; (with_reducible repeat (first | refine blk_drewN ?_ _ | refine blk_drew ?_ | refine blk_alloc ?_ _)); refine blk_far ?_ NB180_179.out _; (with_reducible repeat (first | refine blk_drewN ?_ _ | refine blk_drew ?_ | refine blk_alloc ?_ _)); refine blk_far ?_ NB180_179.out _; (with_reducible repeat (first | refine blk_drewN ?_ _ | refine blk_drew ?_ | refine blk_alloc ?_ _)); refine blk_far ?_ NB180_179.out _; (with_reducible repeat (first | refine blk_drewN ?_ _ | refine blk_drew ?_ | refine blk_alloc ?_ _)); refine blk_far ?_ NB180_179.out _; (with_reducible repeat (first | refine blk_drewN ?_ _ | refine blk_drew ?_ | refine blk_alloc ?_ _)); refine blk_far ?_ NB180_179.out _; (with_reducible repeat (first | refine blk_drewN ?_ _ | refine blk_drew ?_ | refine blk_alloc ?_ _)); exact BK180.out) Try.underlying26 rfl (by kernel_rfl) .nil)))) rfl ?_
          exact ⟨by first | rfl | (simp [errW_none, errW_some] <;> rfl) | (simp [*, errW_none, errW_some] <;> rfl), by repeat (first | (with_reducible first | exact HB.out | apply below_alloc | apply pw_below_drewN | apply below_drew1 | refine below_set ?_ GE179.out | refine below_set ?_ GE180.out) | exact HB.out)⟩
        · rw [if_neg c16] at H
          have c16b0 : (a2 == 30) = false := beq_eq_false_iff_ne.mpr c16
          have c16b1 : (a2 != 30) = true := bne_iff_ne.mpr c16
          by_cases c20 : 0 ≤ a1
          · rw [if_pos c20] at H
            have c20b0 := eq_true c20
            have c20b1 : decide (0 ≤ a1) = true := decide_eq_true c20
            clear c20
            by_cases c21 : a1 ≤ x9_3
            · rw [if_pos c21] at H
              have c21b0 := eq_true c21
              have c21b1 : decide (a1 ≤ x9_3) = true := decide_eq_true c21
              clear c21
              by_cases c22 : x9_3 ≤ (a0.size : Int)
              · rw [if_pos c22] at H
                have c22b0 := eq_true c22
                have c22b1 : decide (x9_3 ≤ (a0.size : Int)) = true := decide_eq_true c22
                clear c22
                replace H := Option.bind_eq_some_iff.mp H
                obtain ⟨t183, A230, H⟩ := H
                replace H : (if t183 = true then (salchowref19_item.l1 kj3 a0 x9_3 (a0.extract (a1 : Int).toNat (x9_3 : Int).toNat) 0 false false false) else (some ((⟨#[]⟩ : ByteArray), 0, false, false, false, 0, 3, a1))) = some (r1, r2, r3, r4, r5, r6, r7, r8) := H
                have A23 := Aside0.mk A230
                clear A230
                by_cases c24 : t183 = true
                · subst c24
                  have H1 : (salchowref19_item.l1 kj3 a0 x9_3 (a0.extract (a1 : Int).toNat (x9_3 : Int).toNat) 0 false false false) = some (r1, r2, r3, r4, r5, r6, r7, r8) := by rw [if_pos rfl] at H; exact H
                  clear H
                  have H := H1
                  clear H1
                  have H' := Aside0.mk H
                  clear H
                  go_wp2_with (first | ((with_reducible refine gate_dst (N := 10) rfl ?_); refine box_event ?hg (N := 10) ?hd (cs := #[.string (⟨#[]⟩ : ByteArray), .int .i64 0, .bool false, .bool false, .bool false]) (t := 49) ?hr ?_; (case hd => rfl); (case hg => rfl); (case hr => first | (go_simp; done) | (go_simp; rfl)); intro gb182 hg w25 hbox hb; have n0_ := Aside0.mk (blk_below (g := gb179) (o := .cells #[.string (⟨#[]⟩ : ByteArray), .int .i64 0, .bool false, .bool false, .bool false] 49 (0, 0)) (by (with_reducible repeat (first | refine blk_drewN ?_ _ | refine blk_drew ?_ | refine blk_alloc ?_ _)); exact BK179.out) hb); have n1_ := Aside0.mk (blk_below (g := gb180) (o := .cells #[.int .i64 0, .int .i64 0] 26 (0, 0)) (by (with_reducible repeat (first | refine blk_drewN ?_ _ | refine blk_drew ?_ | refine blk_alloc ?_ _)); exact BK180.out) hb); have n2_ := Aside0.mk (below_step (by repeat (first | (with_reducible first | exact HB.out | apply below_alloc | apply pw_below_drewN | apply below_drew1 | refine below_set ?_ GE179.out | refine below_set ?_ GE180.out) | exact HB.out)) hb); have n3_ := Aside0.mk (hbox); have n4_ := Aside0.mk ((by rw [hg]; exact (below_size (by repeat (first | (with_reducible first | exact HB.out | apply below_alloc | apply pw_below_drewN | apply below_drew1 | refine below_set ?_ GE179.out | refine below_set ?_ GE180.out) | exact HB.out))) : w.heap.size ≤ gb182)); have n5_ := Aside0.mk ((by rw [hg]; exact (below_size (by repeat (first | (with_reducible first | exact HB.out | apply below_alloc | apply pw_below_drewN | apply below_drew1 | refine below_set ?_ GE179.out | refine below_set ?_ GE180.out) | exact HB.out))) : w.heap.size ≤ gb182)); have n6_ := Aside0.mk ((by rw [hg]; exact Nat.ne_of_lt (blk_lt (g := gb179) (o := .cells #[.string (⟨#[]⟩ : ByteArray), .int .i64 0, .bool false, .bool false, .bool false] 49 (0, 0)) (by (with_reducible repeat (first | refine blk_drewN ?_ _ | refine blk_drew ?_ | refine blk_alloc ?_ _)); exact BK179.out)) : gb179 ≠ gb182)); have n7_ := Aside0.mk ((by rw [hg]; exact Nat.ne_of_gt (blk_lt (g := gb179) (o := .cells #[.string (⟨#[]⟩ : ByteArray), .int .i64 0, .bool false, .bool false, .bool false] 49 (0, 0)) (by (with_reducible repeat (first | refine blk_drewN ?_ _ | refine blk_drew ?_ | refine blk_alloc ?_ _)); exact BK179.out)) : gb182 ≠ gb179)); have n8_ := Aside0.mk ((by rw [hg]; exact Nat.ne_of_lt (blk_lt (g := gb180) (o := .cells #[.int .i64 0, .int .i64 0] 26 (0, 0)) (by (with_reducible repeat (first | refine blk_drewN ?_ _ | refine blk_drew ?_ | refine blk_alloc ?_ _)); exact BK180.out)) : gb180 ≠ gb182)); have n9_ := Aside0.mk ((by rw [hg]; exact Nat.ne_of_gt (blk_lt (g := gb180) (o := .cells #[.int .i64 0, .int .i64 0] 26 (0, 0)) (by (with_reducible repeat (first | refine blk_drewN ?_ _ | refine blk_drew ?_ | refine blk_alloc ?_ _)); exact BK180.out)) : gb182 ≠ gb180)); clear BK179; clear BK180; clear HB; have BK179 := n0_; have BK180 := n1_; have HB := n2_; have BK182 := n3_; have GW182 := n4_; have GE182 := n5_; have NB179_182 := n6_; have NB182_179 := n7_; have NB180_182 := n8_; have NB182_180 := n9_; clear n0_ n1_ n2_ n3_ n4_ n5_ n6_ n7_ n8_ n9_; clear hb hbox hg; have hnb26 := NB182_179.out; have hnc26 := NB179_182.out; have hnb27 := NB182_180.out; have hnc27 := NB180_182.out; have hcz28_0 : w25.cell? ⟨gb182, 0, none⟩ = some (.string (⟨#[]⟩ : ByteArray)) := (blk_cell BK182.out 0).trans rfl; have hcz28_1 : w25.cell? ⟨gb182, 1, none⟩ = some (.int .i64 0) := (blk_cell BK182.out 1).trans rfl; have hcz28_2 : w25.cell? ⟨gb182, 2, none⟩ = some (.bool false) := (blk_cell BK182.out 2).trans rfl; have hcz28_3 : w25.cell? ⟨gb182, 3, none⟩ = some (.bool false) := (blk_cell BK182.out 3).trans rfl; have hcz28_4 : w25.cell? ⟨gb182, 4, none⟩ = some (.bool false) := (blk_cell BK182.out 4).trans rfl; have hfz28_0 := blk_frozen BK182.out 0; have hfz28_1 := blk_frozen BK182.out 1; have hfz28_2 := blk_frozen BK182.out 2; have hfz28_3 := blk_frozen BK182.out 3; have hfz28_4 := blk_frozen BK182.out 4) | ((with_reducible refine gate_callee (f := 42) rfl ?_); refine goesL_ (some 42) rfl rfl Try.func42 (by kernel_rfl) rfl #[.string (a0.extract (a1 : Int).toNat (x9_3 : Int).toNat)] rfl (by (try simp only [List.map_toArray, List.map_cons, List.map_nil]); first | done | rfl | (simp only [List.length_drop, List.length_take]; rfl)) ?_; (with_reducible refine (salchowref04_Code.calls kj3 (a0.extract (a1 : Int).toNat (x9_3 : Int).toNat) true _ A23.out).mono ?_); rintro e w' ⟨rfl, ⟨nd, rfl⟩⟩; refine ⟨_, rfl, ?_⟩))
                  go_loopg [9] kj3 (fun kq v9 w' => ∃ (x9_2 : Int) (x180000_2 : ByteArray) (x180001_2 : Int) (x180002_2 : Bool) (x180003_2 : Bool) (x180004_2 : Bool) (x181000_2 : Int) (x181001_2 : Int) (x183001_2 : Int) (x183002_2 : Bool) (x183003_2 : Bool) (x183004_2 : Bool), v9 = .int .i64 x9_2 ∧ Aside0 (salchowref19_item.l1 kq a0 x9_2 (a0.extract (a1 : Int).toNat (x9_3 : Int).toNat) x183001_2 x183002_2 x183003_2 x183004_2 = some (r1, r2, r3, r4, r5, r6, r7, r8)) ∧ Aside0 (kq ≤ kj3) ∧ Aside0 (w'.heap[gb179]? = some (.cells #[.string x180000_2, .int .i64 x180001_2, .bool x180002_2, .bool x180003_2, .bool x180004_2] 49 (0, 0))) ∧ Aside0 (w'.heap[gb180]? = some (.cells #[.int .i64 x181000_2, .int .i64 x181001_2] 26 (0, 0))) ∧ Aside0 (w'.heap[gb182]? = some (.cells #[.string (a0.extract (a1 : Int).toNat (x9_3 : Int).toNat), .int .i64 x183001_2, .bool x183002_2, .bool x183003_2, .bool x183004_2] 49 (0, 0))) ∧ Aside0 (Below w.heap.size w w'))
                  case atStart => exact ⟨(x9_3), ((⟨#[]⟩ : ByteArray)), (0), (false), (false), (false), (0), (0), (0), (false), (false), (false), (by first | rfl | (simp; done) | (simp [*]; done)), H', ⟨Nat.le_refl _⟩, ⟨by (with_reducible repeat (first | refine blk_drewN ?_ _ | refine blk_drew ?_ | refine blk_alloc ?_ _)); refine blk_far ?_ NB179_182.out _; (with_reducible repeat (first | refine blk_drewN ?_ _ | refine blk_drew ?_ | refine blk_alloc ?_ _)); refine blk_far ?_ NB179_182.out _; (with_reducible repeat (first | refine blk_drewN ?_ _ | refine blk_drew ?_ | refine blk_alloc ?_ _)); refine blk_far ?_ NB179_182.out _; (with_reducible repeat (first | refine blk_drewN ?_ _ | refine blk_drew ?_ | refine blk_alloc ?_ _)); refine blk_far ?_ NB179_182.out _; (with_reducible repeat (first | refine blk_drewN ?_ _ | refine blk_drew ?_ | refine blk_alloc ?_ _)); refine blk_far ?_ NB179_182.out _; (with_reducible repeat (first | refine blk_drewN ?_ _ | refine blk_drew ?_ | refine blk_alloc ?_ _)); exact BK179.out⟩, ⟨by (with_reducible repeat (first | refine blk_drewN ?_ _ | refine blk_drew ?_ | refine blk_alloc ?_ _)); refine blk_far ?_ NB180_182.out _; (with_reducible repeat (first | refine blk_drewN ?_ _ | refine blk_drew ?_ | refine blk_alloc ?_ _)); refine blk_far ?_ NB180_182.out _; (with_reducible repeat (first | refine blk_drewN ?_ _ | refine blk_drew ?_ | refine blk_alloc ?_ _)); refine blk_far ?_ NB180_182.out _; (with_reducible repeat (first | refine blk_drewN ?_ _ | refine blk_drew ?_ | refine blk_alloc ?_ _)); refine blk_far ?_ NB180_182.out _; (with_reducible repeat (first | refine blk_drewN ?_ _ | refine blk_drew ?_ | refine blk_alloc ?_ _)); refine blk_far ?_ NB180_182.out _; (with_reducible repeat (first | refine blk_drewN ?_ _ | refine blk_drew ?_ | refine blk_alloc ?_ _)); exact BK180.out⟩, ⟨by (with_reducible repeat (first | refine blk_drewN ?_ _ | refine blk_drew ?_ | refine blk_alloc ?_ _)); refine blk_put (cs := #[.string (a0.extract (a1 : Int).toNat (x9_3 : Int).toNat), .int .i64 0, .bool false, .bool false, .bool false]) ?_ 4 _ rfl; (with_reducible repeat (first | refine blk_drewN ?_ _ | refine blk_drew ?_ | refine blk_alloc ?_ _)); refine blk_put (cs := #[.string (a0.extract (a1 : Int).toNat (x9_3 : Int).toNat), .int .i64 0, .bool false, .bool false, .bool false]) ?_ 3 _ rfl; (with_reducible repeat (first | refine blk_drewN ?_ _ | refine blk_drew ?_ | refine blk_alloc ?_ _)); refine blk_put (cs := #[.string (a0.extract (a1 : Int).toNat (x9_3 : Int).toNat), .int .i64 0, .bool false, .bool false, .bool false]) ?_ 2 _ rfl; (with_reducible repeat (first | refine blk_drewN ?_ _ | refine blk_drew ?_ | refine blk_alloc ?_ _)); refine blk_put (cs := #[.string (a0.extract (a1 : Int).toNat (x9_3 : Int).toNat), .int .i64 0, .bool false, .bool false, .bool false]) ?_ 1 _ rfl; (with_reducible repeat (first | refine blk_drewN ?_ _ | refine blk_drew ?_ | refine blk_alloc ?_ _)); refine blk_put (cs := #[.string (⟨#[]⟩ : ByteArray), .int .i64 0, .bool false, .bool false, .bool false]) ?_ 0 _ rfl; (with_reducible repeat (first | refine blk_drewN ?_ _ | refine blk_drew ?_ | refine blk_alloc ?_ _)); exact BK182.out⟩, ⟨by repeat (first | (with_reducible first | exact HB.out | apply below_alloc | apply pw_below_drewN | apply below_drew1 | refine below_set ?_ GE179.out | refine below_set ?_ GE180.out | refine below_set ?_ GE182.out) | exact HB.out)⟩⟩
                  case round =>
                    clear H'
                    try clear c1
                    try clear c2
                    try clear p2
                    try clear c4
                    try clear p6
                    try clear c7
                    try clear c7b0
                    try clear c8
                    try clear c8b0
                    try clear p9
                    try clear q9
                    try clear hx9
                    try clear c11
                    try clear c12
                    try clear c12b0
                    try clear c12b1
                    try clear c13
                    try clear c16
                    try clear c16b0
                    try clear c16b1
                    try clear c17
                    try clear c20
                    try clear c20b0
                    try clear c20b1
                    try clear c21
                    try clear c21b0
                    try clear c21b1
                    try clear c22
                    try clear c22b0
                    try clear c22b1
                    try clear c24
                    try clear c26
                    try clear c27
                    try clear c28
                    try clear hcz14_0
                    try clear hcz14_1
                    try clear hcz14_2
                    try clear hcz14_3
                    try clear hcz14_4
                    try clear hcz15_0
                    try clear hcz15_1
                    try clear hcz18_0
                    try clear hcz18_1
                    try clear hcz18_2
                    try clear hcz18_3
                    try clear hcz18_4
                    try clear hcz19_0
                    try clear hcz19_1
                    try clear hcz28_0
                    try clear hcz28_1
                    try clear hcz28_2
                    try clear hcz28_3
                    try clear hcz28_4
                    try clear hfz14_0
                    try clear hfz14_1
                    try clear hfz14_2
                    try clear hfz14_3
                    try clear hfz14_4
                    try clear hfz15_0
                    try clear hfz15_1
                    try clear hfz18_0
                    try clear hfz18_1
                    try clear hfz18_2
                    try clear hfz18_3
                    try clear hfz18_4
                    try clear hfz19_0
                    try clear hfz19_1
                    try clear hfz28_0
                    try clear hfz28_1
                    try clear hfz28_2
                    try clear hfz28_3
                    try clear hfz28_4
                    try clear p2
                    try clear p6
                    try clear p9
                    try clear q9
                    obtain ⟨x9_2, x180000_2, x180001_2, x180002_2, x180003_2, x180004_2, x181000_2, x181001_2, x183001_2, x183002_2, x183003_2, x183004_2, rfl, HA, HK2, BK179, BK180, BK182, HB⟩ := hrel
                    cases gk with
                    | zero => exact absurd HA.out (by simp [salchowref19_item.l1])
                    | succ k2 =>
                      have H := HA.out
                      clear HA
                      simp only [salchowref19_item.l1] at H
                      by_cases c29 : x9_2 < (a0.size : Int)
                      · rw [if_pos c29] at H
                        have c29b0 : decide (x9_2 < (a0.size : Int)) = true := decide_eq_true c29
                        clear c29
                        by_cases c30 : 0 ≤ x9_2
                        · rw [if_pos c30] at H
                          have c30b0 : decide (0 ≤ x9_2) = true := decide_eq_true c30
                          clear c30
                          by_cases c32 : (bt a0 x9_2) = 60
                          · rw [if_pos c32] at H
                            have c32b0 : ((bt a0 x9_2) == 60) = true := beq_iff_eq.mpr c32
                            have c32b1 : ((bt a0 x9_2) != 60) = false := bne_eq_false_iff_eq.mpr c32
                            clear c32
                            by_cases c33 : x183001_2 = 9
                            · rw [if_pos c33] at H
                              have c33b0 : (x183001_2 == 9) = true := beq_iff_eq.mpr c33
                              have c33b1 : (x183001_2 != 9) = false := bne_eq_false_iff_eq.mpr c33
                              clear c33
                              simp only [Option.some.injEq, Prod.mk.injEq] at H
                              obtain ⟨rfl, rfl, rfl, rfl, rfl, rfl, rfl, rfl⟩ := H
                              have p31 : 0 ≤ (x9_2 : Int) := of_decide_eq_true (by first | (with_reducible assumption) | assumption)
                              have q31 : x9_2 < (a0.size : Int) := of_decide_eq_true (by first | (with_reducible assumption) | assumption)
                              have hx31 := bt_at a0 x9_2
                              replace p31 := eq_true p31
                              replace q31 := eq_true q31
                              have hnb34 := NB182_179.out
                              have hnc34 := NB179_182.out
                              have hnb35 := NB182_180.out
                              have hnc35 := NB180_182.out
                              have hcz36_0 : wr.cell? ⟨gb182, 0, none⟩ = some (.string (a0.extract (a1 : Int).toNat (x9_3 : Int).toNat)) := (blk_cell BK182.out 0).trans rfl
                              have hcz36_1 : wr.cell? ⟨gb182, 1, none⟩ = some (.int .i64 x183001_2) := (blk_cell BK182.out 1).trans rfl
                              have hcz36_2 : wr.cell? ⟨gb182, 2, none⟩ = some (.bool x183002_2) := (blk_cell BK182.out 2).trans rfl
                              have hcz36_3 : wr.cell? ⟨gb182, 3, none⟩ = some (.bool x183003_2) := (blk_cell BK182.out 3).trans rfl
                              have hcz36_4 : wr.cell? ⟨gb182, 4, none⟩ = some (.bool x183004_2) := (blk_cell BK182.out 4).trans rfl
                              have hfz36_0 := blk_frozen BK182.out 0
                              have hfz36_1 := blk_frozen BK182.out 1
                              have hfz36_2 := blk_frozen BK182.out 2
                              have hfz36_3 := blk_frozen BK182.out 3
                              have hfz36_4 := blk_frozen BK182.out 4
                              have hnb37 := NB179_180.out
                              have hnc37 := NB180_179.out
                              have hcz38_0 : wr.cell? ⟨gb179, 0, none⟩ = some (.string x180000_2) := (blk_cell BK179.out 0).trans rfl
                              have hcz38_1 : wr.cell? ⟨gb179, 1, none⟩ = some (.int .i64 x180001_2) := (blk_cell BK179.out 1).trans rfl
                              have hcz38_2 : wr.cell? ⟨gb179, 2, none⟩ = some (.bool x180002_2) := (blk_cell BK179.out 2).trans rfl
                              have hcz38_3 : wr.cell? ⟨gb179, 3, none⟩ = some (.bool x180003_2) := (blk_cell BK179.out 3).trans rfl
                              have hcz38_4 : wr.cell? ⟨gb179, 4, none⟩ = some (.bool x180004_2) := (blk_cell BK179.out 4).trans rfl
                              have hfz38_0 := blk_frozen BK179.out 0
                              have hfz38_1 := blk_frozen BK179.out 1
                              have hfz38_2 := blk_frozen BK179.out 2
                              have hfz38_3 := blk_frozen BK179.out 3
                              have hfz38_4 := blk_frozen BK179.out 4
                              have hcz39_0 : wr.cell? ⟨gb180, 0, none⟩ = some (.int .i64 x181000_2) := (blk_cell BK180.out 0).trans rfl
                              have hcz39_1 : wr.cell? ⟨gb180, 1, none⟩ = some (.int .i64 x181001_2) := (blk_cell BK180.out 1).trans rfl
                              have hfz39_0 := blk_frozen BK180.out 0
                              have hfz39_1 := blk_frozen BK180.out 1
                              go_wp2
                              refine bodyPost_ret (results_list (rs := [.cell 6 49, .tmp 7, .cell 8 26]) rfl (by simp) (.cell gb179 49 #[.string (⟨#[]⟩ : ByteArray), .int .i64 0, .bool false, .bool false, .bool false] (0, 0) _ rfl (by (with_reducible repeat (first | refine blk_drewN ?_ _ | refine blk_drew ?_ | refine blk_alloc ?_ _)); refine blk_far ?_ NB179_180.out _; (with_reducible repeat (first | refine blk_drewN ?_ _ | refine blk_drew ?_ | refine blk_alloc ?_ _)); refine blk_far ?_ NB179_180.out _; (with_reducible repeat (first | refine blk_drewN ?_ _ | refine blk_drew ?_ | refine blk_alloc ?_ _)); refine blk_put (cs := #[.string (⟨#[]⟩ : ByteArray), .int .i64 0, .bool false, .bool false, .bool x180004_2]) ?_ 4 _ rfl; (with_reducible repeat (first | refine blk_drewN ?_ _ | refine blk_drew ?_ | refine blk_alloc ?_ _)); refine blk_put (cs := #[.string (⟨#[]⟩ : ByteArray), .int .i64 0, .bool false, .bool x180003_2, .bool x180004_2]) ?_ 3 _ rfl; (with_reducible repeat (first | refine blk_drewN ?_ _ | refine blk_drew ?_ | refine blk_alloc ?_ _)); refine blk_put (cs := #[.string (⟨#[]⟩ : ByteArray), .int .i64 0, .bool x180002_2, .bool x180003_2, .bool x180004_2]) ?_ 2 _ rfl; (with_reducible repeat (first | refine blk_drewN ?_ _ | refine blk_drew ?_ | refine blk_alloc ?_ _)); refine blk_put (cs := #[.string (⟨#[]⟩ : ByteArray), .int .i64 x180001_2, .bool x180002_2, .bool x180003_2, .bool x180004_2]) ?_ 1 _ rfl; (with_reducible repeat (first | refine blk_drewN ?_ _ | refine blk_drew ?_ | refine blk_alloc ?_ _)); refine blk_put (cs := #[.string x180000_2, .int .i64 x180001_2, .bool x180002_2, .bool x180003_2, .bool x180004_2]) ?_ 0 _ rfl; (with_reducible repeat (first | refine blk_drewN ?_ _ | refine blk_drew ?_ | refine blk_alloc ?_ _)); exact BK179.out) Try.underlying49 rfl (by kernel_rfl) (.tmp (.cell gb180 26 #[.int .i64 6, .int .i64 x9_2] (0, 0) _ rfl (by (with_reducible repeat (first | refine blk_drewN ?_ _ | refine blk_drew ?_ | refine blk_alloc ?_ _)); refine blk_put (cs := #[.int .i64 6, .int .i64 x181001_2]) ?_ 1 _ rfl; (with_reducible repeat (first | refine blk_drewN ?_ _ | refine blk_drew ?_ | refine blk_alloc ?_ _)); refine blk_put (cs := #[.int .i64 x181000_2, .int .i64 x181001_2]) ?_ 0 _ rfl; (with_reducible repeat (first | refine blk_drewN ?_ _ | refine blk_drew ?_ | refine blk_alloc ?_ _)); refine blk_far ?_ NB180_179.out _; (with_reducible repeat (first | refine blk_drewN ?_ _ | refine blk_drew ?_ | refine blk_alloc ?_ _)); refine blk_far ?_ NB180_179.out _; (with_reducible repeat (first | refine blk_drewN ?_ _ | refine blk_drew ?_ | refine blk_alloc ?_ _)); refine blk_far ?_ NB180_179.out _; (with_reducible repeat (first | refine blk_drewN ?_ _ | refine blk_drew ?_ | refine blk_alloc ?_ _)); refine blk_far ?_ NB180_179.out _; (with_reducible repeat (first | refine blk_drewN ?_ _ | refine blk_drew ?_ | refine blk_alloc ?_ _)); refine blk_far ?_ NB180_179.out _; (with_reducible repeat (first | refine blk_drewN ?_ _ | refine blk_drew ?_ | refine blk_alloc ?_ _)); exact BK180.out) Try.underlying26 rfl (by kernel_rfl) .nil)))) rfl ?_
                              exact ⟨by first | rfl | (simp [errW_none, errW_some] <;> rfl) | (simp [*, errW_none, errW_some] <;> rfl), by repeat (first | (with_reducible first | exact HB.out | apply below_alloc | apply pw_below_drewN | apply below_drew1 | refine below_set ?_ GE179.out | refine below_set ?_ GE180.out | refine below_set ?_ GE182.out) | exact HB.out)⟩
                            · rw [if_neg c33] at H
                              have c33b0 : (x183001_2 == 9) = false := beq_eq_false_iff_ne.mpr c33
                              have c33b1 : (x183001_2 != 9) = true := bne_iff_ne.mpr c33
                              have H' := Aside0.mk H
                              clear H
                              have p31 : 0 ≤ (x9_2 : Int) := of_decide_eq_true (by first | (with_reducible assumption) | assumption)
                              have q31 : x9_2 < (a0.size : Int) := of_decide_eq_true (by first | (with_reducible assumption) | assumption)
                              have hx31 := bt_at a0 x9_2
                              replace p31 := eq_true p31
                              replace q31 := eq_true q31
                              have hnb40 := NB182_179.out
                              have hnc40 := NB179_182.out
                              have hnb41 := NB182_180.out
                              have hnc41 := NB180_182.out
                              have hcz42_0 : wr.cell? ⟨gb182, 0, none⟩ = some (.string (a0.extract (a1 : Int).toNat (x9_3 : Int).toNat)) := (blk_cell BK182.out 0).trans rfl
                              have hcz42_1 : wr.cell? ⟨gb182, 1, none⟩ = some (.int .i64 x183001_2) := (blk_cell BK182.out 1).trans rfl
                              have hcz42_2 : wr.cell? ⟨gb182, 2, none⟩ = some (.bool x183002_2) := (blk_cell BK182.out 2).trans rfl
                              have hcz42_3 : wr.cell? ⟨gb182, 3, none⟩ = some (.bool x183003_2) := (blk_cell BK182.out 3).trans rfl
                              have hcz42_4 : wr.cell? ⟨gb182, 4, none⟩ = some (.bool x183004_2) := (blk_cell BK182.out 4).trans rfl
                              have hfz42_0 := blk_frozen BK182.out 0
                              have hfz42_1 := blk_frozen BK182.out 1
                              have hfz42_2 := blk_frozen BK182.out 2
                              have hfz42_3 := blk_frozen BK182.out 3
                              have hfz42_4 := blk_frozen BK182.out 4
                              go_wp2
                              go_roundg k2
                              case measure => have := HJ3.out; have := HK2.out; omega
                              case rel => exact ⟨(wrap64 (x9_2 + 1)), (x180000_2), (x180001_2), (x180002_2), (x180003_2), (x180004_2), (x181000_2), (x181001_2), (wrap64 (x183001_2 + 1)), (x183002_2), (x183003_2), (x183004_2), (by first | rfl | (simp; done) | (simp [*]; done)), H', ⟨by have := HJ3.out; have := HK2.out; omega⟩, ⟨by (with_reducible repeat (first | refine blk_drewN ?_ _ | refine blk_drew ?_ | refine blk_alloc ?_ _)); refine blk_far ?_ NB179_182.out _; (with_reducible repeat (first | refine blk_drewN ?_ _ | refine blk_drew ?_ | refine blk_alloc ?_ _)); exact BK179.out⟩, ⟨by (with_reducible repeat (first | refine blk_drewN ?_ _ | refine blk_drew ?_ | refine blk_alloc ?_ _)); refine blk_far ?_ NB180_182.out _; (with_reducible repeat (first | refine blk_drewN ?_ _ | refine blk_drew ?_ | refine blk_alloc ?_ _)); exact BK180.out⟩, ⟨by (with_reducible repeat (first | refine blk_drewN ?_ _ | refine blk_drew ?_ | refine blk_alloc ?_ _)); refine blk_put (cs := #[.string (a0.extract (a1 : Int).toNat (x9_3 : Int).toNat), .int .i64 x183001_2, .bool x183002_2, .bool x183003_2, .bool x183004_2]) ?_ 1 _ rfl; (with_reducible repeat (first | refine blk_drewN ?_ _ | refine blk_drew ?_ | refine blk_alloc ?_ _)); exact BK182.out⟩, ⟨by repeat (first | (with_reducible first | exact HB.out | apply below_alloc | apply pw_below_drewN | apply below_drew1 | refine below_set ?_ GE179.out | refine below_set ?_ GE180.out | refine below_set ?_ GE182.out) | exact HB.out)⟩⟩
                          · rw [if_neg c32] at H
                            have c32b0 : ((bt a0 x9_2) == 60) = false := beq_eq_false_iff_ne.mpr c32
                            have c32b1 : ((bt a0 x9_2) != 60) = true := bne_iff_ne.mpr c32
                            by_cases c43 : (bt a0 x9_2) = 63
                            · rw [if_pos c43] at H
                              have c43b0 : ((bt a0 x9_2) == 63) = true := beq_iff_eq.mpr c43
                              have c43b1 : ((bt a0 x9_2) != 63) = false := bne_eq_false_iff_eq.mpr c43
                              clear c43
                              by_cases c44 : x183002_2 = true
                              · subst c44
                                have H1 : (some ((⟨#[]⟩ : ByteArray), 0, false, false, false, 0, 4, x9_2)) = some (r1, r2, r3, r4, r5, r6, r7, r8) := by rw [if_pos rfl] at H; exact H
                                clear H
                                have H := H1
                                clear H1
                                simp only [Option.some.injEq, Prod.mk.injEq] at H
                                obtain ⟨rfl, rfl, rfl, rfl, rfl, rfl, rfl, rfl⟩ := H
                                have p31 : 0 ≤ (x9_2 : Int) := of_decide_eq_true (by first | (with_reducible assumption) | assumption)
                                have q31 : x9_2 < (a0.size : Int) := of_decide_eq_true (by first | (with_reducible assumption) | assumption)
                                have hx31 := bt_at a0 x9_2
                                replace p31 := eq_true p31
                                replace q31 := eq_true q31
                                have hnb45 := NB182_179.out
                                have hnc45 := NB179_182.out
                                have hnb46 := NB182_180.out
                                have hnc46 := NB180_182.out
                                have hcz47_0 : wr.cell? ⟨gb182, 0, none⟩ = some (.string (a0.extract (a1 : Int).toNat (x9_3 : Int).toNat)) := (blk_cell BK182.out 0).trans rfl
                                have hcz47_1 : wr.cell? ⟨gb182, 1, none⟩ = some (.int .i64 x183001_2) := (blk_cell BK182.out 1).trans rfl
                                have hcz47_2 : wr.cell? ⟨gb182, 2, none⟩ = some (.bool true) := (blk_cell BK182.out 2).trans rfl
                                have hcz47_3 : wr.cell? ⟨gb182, 3, none⟩ = some (.bool x183003_2) := (blk_cell BK182.out 3).trans rfl
                                have hcz47_4 : wr.cell? ⟨gb182, 4, none⟩ = some (.bool x183004_2) := (blk_cell BK182.out 4).trans rfl
                                have hfz47_0 := blk_frozen BK182.out 0
                                have hfz47_1 := blk_frozen BK182.out 1
                                have hfz47_2 := blk_frozen BK182.out 2
                                have hfz47_3 := blk_frozen BK182.out 3
                                have hfz47_4 := blk_frozen BK182.out 4
                                have hnb48 := NB179_180.out
                                have hnc48 := NB180_179.out
                                have hcz49_0 : wr.cell? ⟨gb179, 0, none⟩ = some (.string x180000_2) := (blk_cell BK179.out 0).trans rfl
                                have hcz49_1 : wr.cell? ⟨gb179, 1, none⟩ = some (.int .i64 x180001_2) := (blk_cell BK179.out 1).trans rfl
                                have hcz49_2 : wr.cell? ⟨gb179, 2, none⟩ = some (.bool x180002_2) := (blk_cell BK179.out 2).trans rfl
                                have hcz49_3 : wr.cell? ⟨gb179, 3, none⟩ = some (.bool x180003_2) := (blk_cell BK179.out 3).trans rfl
                                have hcz49_4 : wr.cell? ⟨gb179, 4, none⟩ = some (.bool x180004_2) := (blk_cell BK179.out 4).trans rfl
                                have hfz49_0 := blk_frozen BK179.out 0
                                have hfz49_1 := blk_frozen BK179.out 1
                                have hfz49_2 := blk_frozen BK179.out 2
                                have hfz49_3 := blk_frozen BK179.out 3
                                have hfz49_4 := blk_frozen BK179.out 4
                                have hcz50_0 : wr.cell? ⟨gb180, 0, none⟩ = some (.int .i64 x181000_2) := (blk_cell BK180.out 0).trans rfl
                                have hcz50_1 : wr.cell? ⟨gb180, 1, none⟩ = some (.int .i64 x181001_2) := (blk_cell BK180.out 1).trans rfl
                                have hfz50_0 := blk_frozen BK180.out 0
                                have hfz50_1 := blk_frozen BK180.out 1
                                go_wp2
                                refine bodyPost_ret (results_list (rs := [.cell 6 49, .tmp 7, .cell 8 26]) rfl (by simp) (.cell gb179 49 #[.string (⟨#[]⟩ : ByteArray), .int .i64 0, .bool false, .bool false, .bool false] (0, 0) _ rfl (by (with_reducible repeat (first | refine blk_drewN ?_ _ | refine blk_drew ?_ | refine blk_alloc ?_ _)); refine blk_far ?_ NB179_180.out _; (with_reducible repeat (first | refine blk_drewN ?_ _ | refine blk_drew ?_ | refine blk_alloc ?_ _)); refine blk_far ?_ NB179_180.out _; (with_reducible repeat (first | refine blk_drewN ?_ _ | refine blk_drew ?_ | refine blk_alloc ?_ _)); refine blk_put (cs := #[.string (⟨#[]⟩ : ByteArray), .int .i64 0, .bool false, .bool false, .bool x180004_2]) ?_ 4 _ rfl; (with_reducible repeat (first | refine blk_drewN ?_ _ | refine blk_drew ?_ | refine blk_alloc ?_ _)); refine blk_put (cs := #[.string (⟨#[]⟩ : ByteArray), .int .i64 0, .bool false, .bool x180003_2, .bool x180004_2]) ?_ 3 _ rfl; (with_reducible repeat (first | refine blk_drewN ?_ _ | refine blk_drew ?_ | refine blk_alloc ?_ _)); refine blk_put (cs := #[.string (⟨#[]⟩ : ByteArray), .int .i64 0, .bool x180002_2, .bool x180003_2, .bool x180004_2]) ?_ 2 _ rfl; (with_reducible repeat (first | refine blk_drewN ?_ _ | refine blk_drew ?_ | refine blk_alloc ?_ _)); refine blk_put (cs := #[.string (⟨#[]⟩ : ByteArray), .int .i64 x180001_2, .bool x180002_2, .bool x180003_2, .bool x180004_2]) ?_ 1 _ rfl; (with_reducible repeat (first | refine blk_drewN ?_ _ | refine blk_drew ?_ | refine blk_alloc ?_ _)); refine blk_put (cs := #[.string x180000_2, .int .i64 x180001_2, .bool x180002_2, .bool x180003_2, .bool x180004_2]) ?_ 0 _ rfl; (with_reducible repeat (first | refine blk_drewN ?_ _ | refine blk_drew ?_ | refine blk_alloc ?_ _)); exact BK179.out) Try.underlying49 rfl (by kernel_rfl) (.tmp (.cell gb180 26 #[.int .i64 4, .int .i64 x9_2] (0, 0) _ rfl (by (with_reducible repeat (first | refine blk_drewN ?_ _ | refine blk_drew ?_ | refine blk_alloc ?_ _)); refine blk_put (cs := #[.int .i64 4, .int .i64 x181001_2]) ?_ 1 _ rfl; (with_reducible repeat (first | refine blk_drewN ?_ _ | refine blk_drew ?_ | refine blk_alloc ?_ _)); refine blk_put (cs := #[.int .i64 x181000_2, .int .i64 x181001_2]) ?_ 0 _ rfl; (with_reducible repeat (first | refine blk_drewN ?_ _ | refine blk_drew ?_ | refine blk_alloc ?_ _)); refine blk_far ?_ NB180_179.out _; (with_reducible repeat (first | refine blk_drewN ?_ _ | refine blk_drew ?_ | refine blk_alloc ?_ _)); refine blk_far ?_ NB180_179.out _; (with_reducible repeat (first | refine blk_drewN ?_ _ | refine blk_drew ?_ | refine blk_alloc ?_ _)); refine blk_far ?_ NB180_179.out _; (with_reducible repeat (first | refine blk_drewN ?_ _ | refine blk_drew ?_ | refine blk_alloc ?_ _)); refine blk_far ?_ NB180_179.out _; (with_reducible repeat (first | refine blk_drewN ?_ _ | refine blk_drew ?_ | refine blk_alloc ?_ _)); refine blk_far ?_ NB180_179.out _; (with_reducible repeat (first | refine blk_drewN ?_ _ | refine blk_drew ?_ | refine blk_alloc ?_ _)); exact BK180.out) Try.underlying26 rfl (by kernel_rfl) .nil)))) rfl ?_
                                exact ⟨by first | rfl | (simp [errW_none, errW_some] <;> rfl) | (simp [*, errW_none, errW_some] <;> rfl), by repeat (first | (with_reducible first | exact HB.out | apply below_alloc | apply pw_below_drewN | apply below_drew1 | refine below_set ?_ GE179.out | refine below_set ?_ GE180.out | refine below_set ?_ GE182.out) | exact HB.out)⟩
                              · replace c44 := Bool.eq_false_iff.mpr c44
                                subst c44
                                have H1 : (salchowref19_item.l1 k2 a0 (wrap64 (x9_2 + 1)) (a0.extract (a1 : Int).toNat (x9_3 : Int).toNat) x183001_2 true x183003_2 x183004_2) = some (r1, r2, r3, r4, r5, r6, r7, r8) := by rw [if_neg (show ¬ (false = true) by decide)] at H; exact H
                                clear H
                                have H := H1
                                clear H1
                                have H' := Aside0.mk H
                                clear H
                                have p31 : 0 ≤ (x9_2 : Int) := of_decide_eq_true (by first | (with_reducible assumption) | assumption)
                                have q31 : x9_2 < (a0.size : Int) := of_decide_eq_true (by first | (with_reducible assumption) | assumption)
                                have hx31 := bt_at a0 x9_2
                                replace p31 := eq_true p31
                                replace q31 := eq_true q31
                                have hnb51 := NB182_179.out
                                have hnc51 := NB179_182.out
                                have hnb52 := NB182_180.out
                                have hnc52 := NB180_182.out
                                have hcz53_0 : wr.cell? ⟨gb182, 0, none⟩ = some (.string (a0.extract (a1 : Int).toNat (x9_3 : Int).toNat)) := (blk_cell BK182.out 0).trans rfl
                                have hcz53_1 : wr.cell? ⟨gb182, 1, none⟩ = some (.int .i64 x183001_2) := (blk_cell BK182.out 1).trans rfl
                                have hcz53_2 : wr.cell? ⟨gb182, 2, none⟩ = some (.bool false) := (blk_cell BK182.out 2).trans rfl
                                have hcz53_3 : wr.cell? ⟨gb182, 3, none⟩ = some (.bool x183003_2) := (blk_cell BK182.out 3).trans rfl
                                have hcz53_4 : wr.cell? ⟨gb182, 4, none⟩ = some (.bool x183004_2) := (blk_cell BK182.out 4).trans rfl
                                have hfz53_0 := blk_frozen BK182.out 0
                                have hfz53_1 := blk_frozen BK182.out 1
                                have hfz53_2 := blk_frozen BK182.out 2
                                have hfz53_3 := blk_frozen BK182.out 3
                                have hfz53_4 := blk_frozen BK182.out 4
                                go_wp2
                                go_roundg k2
                                case measure => have := HJ3.out; have := HK2.out; omega
                                case rel => exact ⟨(wrap64 (x9_2 + 1)), (x180000_2), (x180001_2), (x180002_2), (x180003_2), (x180004_2), (x181000_2), (x181001_2), (x183001_2), (true), (x183003_2), (x183004_2), (by first | rfl | (simp; done) | (simp [*]; done)), H', ⟨by have := HJ3.out; have := HK2.out; omega⟩, ⟨by (with_reducible repeat (first | refine blk_drewN ?_ _ | refine blk_drew ?_ | refine blk_alloc ?_ _)); refine blk_far ?_ NB179_182.out _; (with_reducible repeat (first | refine blk_drewN ?_ _ | refine blk_drew ?_ | refine blk_alloc ?_ _)); exact BK179.out⟩, ⟨by (with_reducible repeat (first | refine blk_drewN ?_ _ | refine blk_drew ?_ | refine blk_alloc ?_ _)); refine blk_far ?_ NB180_182.out _; (with_reducible repeat (first | refine blk_drewN ?_ _ | refine blk_drew ?_ | refine blk_alloc ?_ _)); exact BK180.out⟩, ⟨by (with_reducible repeat (first | refine blk_drewN ?_ _ | refine blk_drew ?_ | refine blk_alloc ?_ _)); refine blk_put (cs := #[.string (a0.extract (a1 : Int).toNat (x9_3 : Int).toNat), .int .i64 x183001_2, .bool false, .bool x183003_2, .bool x183004_2]) ?_ 2 _ rfl; (with_reducible repeat (first | refine blk_drewN ?_ _ | refine blk_drew ?_ | refine blk_alloc ?_ _)); exact BK182.out⟩, ⟨by repeat (first | (with_reducible first | exact HB.out | apply below_alloc | apply pw_below_drewN | apply below_drew1 | refine below_set ?_ GE179.out | refine below_set ?_ GE180.out | refine below_set ?_ GE182.out) | exact HB.out)⟩⟩
                            · rw [if_neg c43] at H
                              have c43b0 : ((bt a0 x9_2) == 63) = false := beq_eq_false_iff_ne.mpr c43
                              have c43b1 : ((bt a0 x9_2) != 63) = true := bne_iff_ne.mpr c43
                              by_cases c54 : (bt a0 x9_2) = 42
                              · rw [if_pos c54] at H
                                have c54b0 : ((bt a0 x9_2) == 42) = true := beq_iff_eq.mpr c54
                                have c54b1 : ((bt a0 x9_2) != 42) = false := bne_eq_false_iff_eq.mpr c54
                                clear c54
                                by_cases c55 : x183003_2 = true
                                · subst c55
                                  have H1 : (some ((⟨#[]⟩ : ByteArray), 0, false, false, false, 0, 4, x9_2)) = some (r1, r2, r3, r4, r5, r6, r7, r8) := by rw [if_pos rfl] at H; exact H
                                  clear H
                                  have H := H1
                                  clear H1
                                  simp only [Option.some.injEq, Prod.mk.injEq] at H
                                  obtain ⟨rfl, rfl, rfl, rfl, rfl, rfl, rfl, rfl⟩ := H
                                  have p31 : 0 ≤ (x9_2 : Int) := of_decide_eq_true (by first | (with_reducible assumption) | assumption)
                                  have q31 : x9_2 < (a0.size : Int) := of_decide_eq_true (by first | (with_reducible assumption) | assumption)
                                  have hx31 := bt_at a0 x9_2
                                  replace p31 := eq_true p31
                                  replace q31 := eq_true q31
                                  have hnb56 := NB182_179.out
                                  have hnc56 := NB179_182.out
                                  have hnb57 := NB182_180.out
                                  have hnc57 := NB180_182.out
                                  have hcz58_0 : wr.cell? ⟨gb182, 0, none⟩ = some (.string (a0.extract (a1 : Int).toNat (x9_3 : Int).toNat)) := (blk_cell BK182.out 0).trans rfl
                                  have hcz58_1 : wr.cell? ⟨gb182, 1, none⟩ = some (.int .i64 x183001_2) := (blk_cell BK182.out 1).trans rfl
                                  have hcz58_2 : wr.cell? ⟨gb182, 2, none⟩ = some (.bool x183002_2) := (blk_cell BK182.out 2).trans rfl
                                  have hcz58_3 : wr.cell? ⟨gb182, 3, none⟩ = some (.bool true) := (blk_cell BK182.out 3).trans rfl
                                  have hcz58_4 : wr.cell? ⟨gb182, 4, none⟩ = some (.bool x183004_2) := (blk_cell BK182.out 4).trans rfl
                                  have hfz58_0 := blk_frozen BK182.out 0
                                  have hfz58_1 := blk_frozen BK182.out 1
                                  have hfz58_2 := blk_frozen BK182.out 2
                                  have hfz58_3 := blk_frozen BK182.out 3
                                  have hfz58_4 := blk_frozen BK182.out 4
                                  have hnb59 := NB179_180.out
                                  have hnc59 := NB180_179.out
                                  have hcz60_0 : wr.cell? ⟨gb179, 0, none⟩ = some (.string x180000_2) := (blk_cell BK179.out 0).trans rfl
                                  have hcz60_1 : wr.cell? ⟨gb179, 1, none⟩ = some (.int .i64 x180001_2) := (blk_cell BK179.out 1).trans rfl
                                  have hcz60_2 : wr.cell? ⟨gb179, 2, none⟩ = some (.bool x180002_2) := (blk_cell BK179.out 2).trans rfl
                                  have hcz60_3 : wr.cell? ⟨gb179, 3, none⟩ = some (.bool x180003_2) := (blk_cell BK179.out 3).trans rfl
                                  have hcz60_4 : wr.cell? ⟨gb179, 4, none⟩ = some (.bool x180004_2) := (blk_cell BK179.out 4).trans rfl
                                  have hfz60_0 := blk_frozen BK179.out 0
                                  have hfz60_1 := blk_frozen BK179.out 1
                                  have hfz60_2 := blk_frozen BK179.out 2
                                  have hfz60_3 := blk_frozen BK179.out 3
                                  have hfz60_4 := blk_frozen BK179.out 4
                                  have hcz61_0 : wr.cell? ⟨gb180, 0, none⟩ = some (.int .i64 x181000_2) := (blk_cell BK180.out 0).trans rfl
                                  have hcz61_1 : wr.cell? ⟨gb180, 1, none⟩ = some (.int .i64 x181001_2) := (blk_cell BK180.out 1).trans rfl
                                  have hfz61_0 := blk_frozen BK180.out 0
                                  have hfz61_1 := blk_frozen BK180.out 1
                                  go_wp2
                                  refine bodyPost_ret (results_list (rs := [.cell 6 49, .tmp 7, .cell 8 26]) rfl (by simp) (.cell gb179 49 #[.string (⟨#[]⟩ : ByteArray), .int .i64 0, .bool false, .bool false, .bool false] (0, 0) _ rfl (by (with_reducible repeat (first | refine blk_drewN ?_ _ | refine blk_drew ?_ | refine blk_alloc ?_ _)); refine blk_far ?_ NB179_180.out _; (with_reducible repeat (first | refine blk_drewN ?_ _ | refine blk_drew ?_ | refine blk_alloc ?_ _)); refine blk_far ?_ NB179_180.out _; (with_reducible repeat (first | refine blk_drewN ?_ _ | refine blk_drew ?_ | refine blk_alloc ?_ _)); refine blk_put (cs := #[.string (⟨#[]⟩ : ByteArray), .int .i64 0, .bool false, .bool false, .bool x180004_2]) ?_ 4 _ rfl; (with_reducible repeat (first | refine blk_drewN ?_ _ | refine blk_drew ?_ | refine blk_alloc ?_ _)); refine blk_put (cs := #[.string (⟨#[]⟩ : ByteArray), .int .i64 0, .bool false, .bool x180003_2, .bool x180004_2]) ?_ 3 _ rfl; (with_reducible repeat (first | refine blk_drewN ?_ _ | refine blk_drew ?_ | refine blk_alloc ?_ _)); refine blk_put (cs := #[.string (⟨#[]⟩ : ByteArray), .int .i64 0, .bool x180002_2, .bool x180003_2, .bool x180004_2]) ?_ 2 _ rfl; (with_reducible repeat (first | refine blk_drewN ?_ _ | refine blk_drew ?_ | refine blk_alloc ?_ _)); refine blk_put (cs := #[.string (⟨#[]⟩ : ByteArray), .int .i64 x180001_2, .bool x180002_2, .bool x180003_2, .bool x180004_2]) ?_ 1 _ rfl; (with_reducible repeat (first | refine blk_drewN ?_ _ | refine blk_drew ?_ | refine blk_alloc ?_ _)); refine blk_put (cs := #[.string x180000_2, .int .i64 x180001_2, .bool x180002_2, .bool x180003_2, .bool x180004_2]) ?_ 0 _ rfl; (with_reducible repeat (first | refine blk_drewN ?_ _ | refine blk_drew ?_ | refine blk_alloc ?_ _)); exact BK179.out) Try.underlying49 rfl (by kernel_rfl) (.tmp (.cell gb180 26 #[.int .i64 4, .int .i64 x9_2] (0, 0) _ rfl (by (with_reducible repeat (first | refine blk_drewN ?_ _ | refine blk_drew ?_ | refine blk_alloc ?_ _)); refine blk_put (cs := #[.int .i64 4, .int .i64 x181001_2]) ?_ 1 _ rfl; (with_reducible repeat (first | refine blk_drewN ?_ _ | refine blk_drew ?_ | refine blk_alloc ?_ _)); refine blk_put (cs := #[.int .i64 x181000_2, .int .i64 x181001_2]) ?_ 0 _ rfl; (with_reducible repeat (first | refine blk_drewN ?_ _ | refine blk_drew ?_ | refine blk_alloc ?_ _)); refine blk_far ?_ NB180_179.out _; (with_reducible repeat (first | refine blk_drewN ?_ _ | refine blk_drew ?_ | refine blk_alloc ?_ _)); refine blk_far ?_ NB180_179.out _; (with_reducible repeat (first | refine blk_drewN ?_ _ | refine blk_drew ?_ | refine blk_alloc ?_ _)); refine blk_far ?_ NB180_179.out _; (with_reducible repeat (first | refine blk_drewN ?_ _ | refine blk_drew ?_ | refine blk_alloc ?_ _)); refine blk_far ?_ NB180_179.out _; (with_reducible repeat (first | refine blk_drewN ?_ _ | refine blk_drew ?_ | refine blk_alloc ?_ _)); refine blk_far ?_ NB180_179.out _; (with_reducible repeat (first | refine blk_drewN ?_ _ | refine blk_drew ?_ | refine blk_alloc ?_ _)); exact BK180.out) Try.underlying26 rfl (by kernel_rfl) .nil)))) rfl ?_
                                  exact ⟨by first | rfl | (simp [errW_none, errW_some] <;> rfl) | (simp [*, errW_none, errW_some] <;> rfl), by repeat (first | (with_reducible first | exact HB.out | apply below_alloc | apply pw_below_drewN | apply below_drew1 | refine below_set ?_ GE179.out | refine below_set ?_ GE180.out | refine below_set ?_ GE182.out) | exact HB.out)⟩
                                · replace c55 := Bool.eq_false_iff.mpr c55
                                  subst c55
                                  have H1 : (salchowref19_item.l1 k2 a0 (wrap64 (x9_2 + 1)) (a0.extract (a1 : Int).toNat (x9_3 : Int).toNat) x183001_2 x183002_2 true x183004_2) = some (r1, r2, r3, r4, r5, r6, r7, r8) := by rw [if_neg (show ¬ (false = true) by decide)] at H; exact H
                                  clear H
                                  have H := H1
                                  clear H1
                                  have H' := Aside0.mk H
                                  clear H
                                  have p31 : 0 ≤ (x9_2 : Int) := of_decide_eq_true (by first | (with_reducible assumption) | assumption)
                                  have q31 : x9_2 < (a0.size : Int) := of_decide_eq_true (by first | (with_reducible assumption) | assumption)
                                  have hx31 := bt_at a0 x9_2
                                  replace p31 := eq_true p31
                                  replace q31 := eq_true q31
                                  have hnb62 := NB182_179.out
                                  have hnc62 := NB179_182.out
                                  have hnb63 := NB182_180.out
                                  have hnc63 := NB180_182.out
                                  have hcz64_0 : wr.cell? ⟨gb182, 0, none⟩ = some (.string (a0.extract (a1 : Int).toNat (x9_3 : Int).toNat)) := (blk_cell BK182.out 0).trans rfl
                                  have hcz64_1 : wr.cell? ⟨gb182, 1, none⟩ = some (.int .i64 x183001_2) := (blk_cell BK182.out 1).trans rfl
                                  have hcz64_2 : wr.cell? ⟨gb182, 2, none⟩ = some (.bool x183002_2) := (blk_cell BK182.out 2).trans rfl
                                  have hcz64_3 : wr.cell? ⟨gb182, 3, none⟩ = some (.bool false) := (blk_cell BK182.out 3).trans rfl
                                  have hcz64_4 : wr.cell? ⟨gb182, 4, none⟩ = some (.bool x183004_2) := (blk_cell BK182.out 4).trans rfl
                                  have hfz64_0 := blk_frozen BK182.out 0
                                  have hfz64_1 := blk_frozen BK182.out 1
                                  have hfz64_2 := blk_frozen BK182.out 2
                                  have hfz64_3 := blk_frozen BK182.out 3
                                  have hfz64_4 := blk_frozen BK182.out 4
                                  go_wp2
                                  go_roundg k2
                                  case measure => have := HJ3.out; have := HK2.out; omega
                                  case rel => exact ⟨(wrap64 (x9_2 + 1)), (x180000_2), (x180001_2), (x180002_2), (x180003_2), (x180004_2), (x181000_2), (x181001_2), (x183001_2), (x183002_2), (true), (x183004_2), (by first | rfl | (simp; done) | (simp [*]; done)), H', ⟨by have := HJ3.out; have := HK2.out; omega⟩, ⟨by (with_reducible repeat (first | refine blk_drewN ?_ _ | refine blk_drew ?_ | refine blk_alloc ?_ _)); refine blk_far ?_ NB179_182.out _; (with_reducible repeat (first | refine blk_drewN ?_ _ | refine blk_drew ?_ | refine blk_alloc ?_ _)); exact BK179.out⟩, ⟨by (with_reducible repeat (first | refine blk_drewN ?_ _ | refine blk_drew ?_ | refine blk_alloc ?_ _)); refine blk_far ?_ NB180_182.out _; (with_reducible repeat (first | refine blk_drewN ?_ _ | refine blk_drew ?_ | refine blk_alloc ?_ _)); exact BK180.out⟩, ⟨by (with_reducible repeat (first | refine blk_drewN ?_ _ | refine blk_drew ?_ | refine blk_alloc ?_ _)); refine blk_put (cs := #[.string (a0.extract (a1 : Int).toNat (x9_3 : Int).toNat), .int .i64 x183001_2, .bool x183002_2, .bool false, .bool x183004_2]) ?_ 3 _ rfl; (with_reducible repeat (first | refine blk_drewN ?_ _ | refine blk_drew ?_ | refine blk_alloc ?_ _)); exact BK182.out⟩, ⟨by repeat (first | (with_reducible first | exact HB.out | apply below_alloc | apply pw_below_drewN | apply below_drew1 | refine below_set ?_ GE179.out | refine below_set ?_ GE180.out | refine below_set ?_ GE182.out) | exact HB.out)⟩⟩
                              · rw [if_neg c54] at H
                                have c54b0 : ((bt a0 x9_2) == 42) = false := beq_eq_false_iff_ne.mpr c54
                                have c54b1 : ((bt a0 x9_2) != 42) = true := bne_iff_ne.mpr c54
                                by_cases c65 : (bt a0 x9_2) = 43
                                · rw [if_pos c65] at H
                                  have c65b0 : ((bt a0 x9_2) == 43) = true := beq_iff_eq.mpr c65
                                  have c65b1 : ((bt a0 x9_2) != 43) = false := bne_eq_false_iff_eq.mpr c65
                                  clear c65
                                  simp only [Option.some.injEq, Prod.mk.injEq] at H
                                  obtain ⟨rfl, rfl, rfl, rfl, rfl, rfl, rfl, rfl⟩ := H
                                  have p31 : 0 ≤ (x9_2 : Int) := of_decide_eq_true (by first | (with_reducible assumption) | assumption)
                                  have q31 : x9_2 < (a0.size : Int) := of_decide_eq_true (by first | (with_reducible assumption) | assumption)
                                  have hx31 := bt_at a0 x9_2
                                  replace p31 := eq_true p31
                                  replace q31 := eq_true q31
                                  have hnb66 := NB182_179.out
                                  have hnc66 := NB179_182.out
                                  have hnb67 := NB182_180.out
                                  have hnc67 := NB180_182.out
                                  have hcz68_0 : wr.cell? ⟨gb182, 0, none⟩ = some (.string (a0.extract (a1 : Int).toNat (x9_3 : Int).toNat)) := (blk_cell BK182.out 0).trans rfl
                                  have hcz68_1 : wr.cell? ⟨gb182, 1, none⟩ = some (.int .i64 x183001_2) := (blk_cell BK182.out 1).trans rfl
                                  have hcz68_2 : wr.cell? ⟨gb182, 2, none⟩ = some (.bool x183002_2) := (blk_cell BK182.out 2).trans rfl
                                  have hcz68_3 : wr.cell? ⟨gb182, 3, none⟩ = some (.bool x183003_2) := (blk_cell BK182.out 3).trans rfl
                                  have hcz68_4 : wr.cell? ⟨gb182, 4, none⟩ = some (.bool x183004_2) := (blk_cell BK182.out 4).trans rfl
                                  have hfz68_0 := blk_frozen BK182.out 0
                                  have hfz68_1 := blk_frozen BK182.out 1
                                  have hfz68_2 := blk_frozen BK182.out 2
                                  have hfz68_3 := blk_frozen BK182.out 3
                                  have hfz68_4 := blk_frozen BK182.out 4
                                  have hnb69 := NB179_180.out
                                  have hnc69 := NB180_179.out
                                  have hcz70_0 : wr.cell? ⟨gb179, 0, none⟩ = some (.string x180000_2) := (blk_cell BK179.out 0).trans rfl
                                  have hcz70_1 : wr.cell? ⟨gb179, 1, none⟩ = some (.int .i64 x180001_2) := (blk_cell BK179.out 1).trans rfl
                                  have hcz70_2 : wr.cell? ⟨gb179, 2, none⟩ = some (.bool x180002_2) := (blk_cell BK179.out 2).trans rfl
                                  have hcz70_3 : wr.cell? ⟨gb179, 3, none⟩ = some (.bool x180003_2) := (blk_cell BK179.out 3).trans rfl
                                  have hcz70_4 : wr.cell? ⟨gb179, 4, none⟩ = some (.bool x180004_2) := (blk_cell BK179.out 4).trans rfl
                                  have hfz70_0 := blk_frozen BK179.out 0
                                  have hfz70_1 := blk_frozen BK179.out 1
                                  have hfz70_2 := blk_frozen BK179.out 2
                                  have hfz70_3 := blk_frozen BK179.out 3
                                  have hfz70_4 := blk_frozen BK179.out 4
                                  have hcz71_0 : wr.cell? ⟨gb180, 0, none⟩ = some (.int .i64 x181000_2) := (blk_cell BK180.out 0).trans rfl
                                  have hcz71_1 : wr.cell? ⟨gb180, 1, none⟩ = some (.int .i64 x181001_2) := (blk_cell BK180.out 1).trans rfl
                                  have hfz71_0 := blk_frozen BK180.out 0
                                  have hfz71_1 := blk_frozen BK180.out 1
                                  go_wp2
                                  refine bodyPost_ret (results_list (rs := [.cell 6 49, .tmp 7, .cell 8 26]) rfl (by simp) (.cell gb179 49 #[.string (a0.extract (a1 : Int).toNat (x9_3 : Int).toNat), .int .i64 x183001_2, .bool x183002_2, .bool x183003_2, .bool true] (0, 0) _ rfl (by (with_reducible repeat (first | refine blk_drewN ?_ _ | refine blk_drew ?_ | refine blk_alloc ?_ _)); refine blk_far ?_ NB179_180.out _; (with_reducible repeat (first | refine blk_drewN ?_ _ | refine blk_drew ?_ | refine blk_alloc ?_ _)); refine blk_far ?_ NB179_180.out _; (with_reducible repeat (first | refine blk_drewN ?_ _ | refine blk_drew ?_ | refine blk_alloc ?_ _)); refine blk_put (cs := #[.string (a0.extract (a1 : Int).toNat (x9_3 : Int).toNat), .int .i64 x183001_2, .bool x183002_2, .bool x183003_2, .bool x180004_2]) ?_ 4 _ rfl; (with_reducible repeat (first | refine blk_drewN ?_ _ | refine blk_drew ?_ | refine blk_alloc ?_ _)); refine blk_put (cs := #[.string (a0.extract (a1 : Int).toNat (x9_3 : Int).toNat), .int .i64 x183001_2, .bool x183002_2, .bool x180003_2, .bool x180004_2]) ?_ 3 _ rfl; (with_reducible repeat (first | refine blk_drewN ?_ _ | refine blk_drew ?_ | refine blk_alloc ?_ _)); refine blk_put (cs := #[.string (a0.extract (a1 : Int).toNat (x9_3 : Int).toNat), .int .i64 x183001_2, .bool x180002_2, .bool x180003_2, .bool x180004_2]) ?_ 2 _ rfl; (with_reducible repeat (first | refine blk_drewN ?_ _ | refine blk_drew ?_ | refine blk_alloc ?_ _)); refine blk_put (cs := #[.string (a0.extract (a1 : Int).toNat (x9_3 : Int).toNat), .int .i64 x180001_2, .bool x180002_2, .bool x180003_2, .bool x180004_2]) ?_ 1 _ rfl; (with_reducible repeat (first | refine blk_drewN ?_ _ | refine blk_drew ?_ | refine blk_alloc ?_ _)); refine blk_put (cs := #[.string x180000_2, .int .i64 x180001_2, .bool x180002_2, .bool x180003_2, .bool x180004_2]) ?_ 0 _ rfl; (with_reducible repeat (first | refine blk_drewN ?_ _ | refine blk_drew ?_ | refine blk_alloc ?_ _)); refine blk_far ?_ NB179_182.out _; (with_reducible repeat (first | refine blk_drewN ?_ _ | refine blk_drew ?_ | refine blk_alloc ?_ _)); exact BK179.out) Try.underlying49 rfl (by kernel_rfl) (.tmp (.cell gb180 26 #[.int .i64 0, .int .i64 0] (0, 0) _ rfl (by (with_reducible repeat (first | refine blk_drewN ?_ _ | refine blk_drew ?_ | refine blk_alloc ?_ _)); refine blk_put (cs := #[.int .i64 0, .int .i64 x181001_2]) ?_ 1 _ rfl; (with_reducible repeat (first | refine blk_drewN ?_ _ | refine blk_drew ?_ | refine blk_alloc ?_ _)); refine blk_put (cs := #[.int .i64 x181000_2, .int .i64 x181001_2]) ?_ 0 _ rfl; (with_reducible repeat (first | refine blk_drewN ?_ _ | refine blk_drew ?_ | refine blk_alloc ?_ _)); refine blk_far ?_ NB180_179.out _; (with_reducible repeat (first | refine blk_drewN ?_ _ | refine blk_drew ?_ | refine blk_alloc ?_ _)); refine blk_far ?_ NB180_179.out _; (with_reducible repeat (first | refine blk_drewN ?_ _ | refine blk_drew ?_ | refine blk_alloc ?_ _)); refine blk_far ?_ NB180_179.out _; (with_reducible repeat (first | refine blk_drewN ?_ _ | refine blk_drew ?_ | refine blk_alloc ?_ _)); refine blk_far ?_ NB180_179.out _; (with_reducible repeat (first | refine blk_drewN ?_ _ | refine blk_drew ?_ | refine blk_alloc ?_ _)); refine blk_far ?_ NB180_179.out _; (with_reducible repeat (first | refine blk_drewN ?_ _ | refine blk_drew ?_ | refine blk_alloc ?_ _)); refine blk_far ?_ NB180_182.out _; (with_reducible repeat (first | refine blk_drewN ?_ _ | refine blk_drew ?_ | refine blk_alloc ?_ _)); exact BK180.out) Try.underlying26 rfl (by kernel_rfl) .nil)))) rfl ?_
                                  exact ⟨by first | rfl | (simp [errW_none, errW_some] <;> rfl) | (simp [*, errW_none, errW_some] <;> rfl), by repeat (first | (with_reducible first | exact HB.out | apply below_alloc | apply pw_below_drewN | apply below_drew1 | refine below_set ?_ GE179.out | refine below_set ?_ GE180.out | refine below_set ?_ GE182.out) | exact HB.out)⟩
                                · rw [if_neg c65] at H
                                  have c65b0 : ((bt a0 x9_2) == 43) = false := beq_eq_false_iff_ne.mpr c65
                                  have c65b1 : ((bt a0 x9_2) != 43) = true := bne_iff_ne.mpr c65
                                  simp only [Option.some.injEq, Prod.mk.injEq] at H
                                  obtain ⟨rfl, rfl, rfl, rfl, rfl, rfl, rfl, rfl⟩ := H
                                  have p31 : 0 ≤ (x9_2 : Int) := of_decide_eq_true (by first | (with_reducible assumption) | assumption)
                                  have q31 : x9_2 < (a0.size : Int) := of_decide_eq_true (by first | (with_reducible assumption) | assumption)
                                  have hx31 := bt_at a0 x9_2
                                  replace p31 := eq_true p31
                                  replace q31 := eq_true q31
                                  have hnb72 := NB182_179.out
                                  have hnc72 := NB179_182.out
                                  have hnb73 := NB182_180.out
                                  have hnc73 := NB180_182.out
                                  have hcz74_0 : wr.cell? ⟨gb182, 0, none⟩ = some (.string (a0.extract (a1 : Int).toNat (x9_3 : Int).toNat)) := (blk_cell BK182.out 0).trans rfl
                                  have hcz74_1 : wr.cell? ⟨gb182, 1, none⟩ = some (.int .i64 x183001_2) := (blk_cell BK182.out 1).trans rfl
                                  have hcz74_2 : wr.cell? ⟨gb182, 2, none⟩ = some (.bool x183002_2) := (blk_cell BK182.out 2).trans rfl
                                  have hcz74_3 : wr.cell? ⟨gb182, 3, none⟩ = some (.bool x183003_2) := (blk_cell BK182.out 3).trans rfl
                                  have hcz74_4 : wr.cell? ⟨gb182, 4, none⟩ = some (.bool x183004_2) := (blk_cell BK182.out 4).trans rfl
                                  have hfz74_0 := blk_frozen BK182.out 0
                                  have hfz74_1 := blk_frozen BK182.out 1
                                  have hfz74_2 := blk_frozen BK182.out 2
                                  have hfz74_3 := blk_frozen BK182.out 3
                                  have hfz74_4 := blk_frozen BK182.out 4
                                  have hnb75 := NB179_180.out
                                  have hnc75 := NB180_179.out
                                  have hcz76_0 : wr.cell? ⟨gb179, 0, none⟩ = some (.string x180000_2) := (blk_cell BK179.out 0).trans rfl
                                  have hcz76_1 : wr.cell? ⟨gb179, 1, none⟩ = some (.int .i64 x180001_2) := (blk_cell BK179.out 1).trans rfl
                                  have hcz76_2 : wr.cell? ⟨gb179, 2, none⟩ = some (.bool x180002_2) := (blk_cell BK179.out 2).trans rfl
                                  have hcz76_3 : wr.cell? ⟨gb179, 3, none⟩ = some (.bool x180003_2) := (blk_cell BK179.out 3).trans rfl
                                  have hcz76_4 : wr.cell? ⟨gb179, 4, none⟩ = some (.bool x180004_2) := (blk_cell BK179.out 4).trans rfl
                                  have hfz76_0 := blk_frozen BK179.out 0
                                  have hfz76_1 := blk_frozen BK179.out 1
                                  have hfz76_2 := blk_frozen BK179.out 2
                                  have hfz76_3 := blk_frozen BK179.out 3
                                  have hfz76_4 := blk_frozen BK179.out 4
                                  have hcz77_0 : wr.cell? ⟨gb180, 0, none⟩ = some (.int .i64 x181000_2) := (blk_cell BK180.out 0).trans rfl
                                  have hcz77_1 : wr.cell? ⟨gb180, 1, none⟩ = some (.int .i64 x181001_2) := (blk_cell BK180.out 1).trans rfl
                                  have hfz77_0 := blk_frozen BK180.out 0
                                  have hfz77_1 := blk_frozen BK180.out 1
                                  go_wp2
                                  refine bodyPost_ret (results_list (rs := [.cell 6 49, .tmp 7, .cell 8 26]) rfl (by simp) (.cell gb179 49 #[.string (a0.extract (a1 : Int).toNat (x9_3 : Int).toNat), .int .i64 x183001_2, .bool x183002_2, .bool x183003_2, .bool x183004_2] (0, 0) _ rfl (by (with_reducible repeat (first | refine blk_drewN ?_ _ | refine blk_drew ?_ | refine blk_alloc ?_ _)); refine blk_far ?_ NB179_180.out _; (with_reducible repeat (first | refine blk_drewN ?_ _ | refine blk_drew ?_ | refine blk_alloc ?_ _)); refine blk_far ?_ NB179_180.out _; (with_reducible repeat (first | refine blk_drewN ?_ _ | refine blk_drew ?_ | refine blk_alloc ?_ _)); refine blk_put (cs := #[.string (a0.extract (a1 : Int).toNat (x9_3 : Int).toNat), .int .i64 x183001_2, .bool x183002_2, .bool x183003_2, .bool x180004_2]) ?_ 4 _ rfl; (with_reducible repeat (first | refine blk_drewN ?_ _ | refine blk_drew ?_ | refine blk_alloc ?_ _)); refine blk_put (cs := #[.string (a0.extract (a1 : Int).toNat (x9_3 : Int).toNat), .int .i64 x183001_2, .bool x183002_2, .bool x180003_2, .bool x180004_2]) ?_ 3 _ rfl; (with_reducible repeat (first | refine blk_drewN ?_ _ | refine blk_drew ?_ | refine blk_alloc ?_ _)); refine blk_put (cs := #[.string (a0.extract (a1 : Int).toNat (x9_3 : Int).toNat), .int .i64 x183001_2, .bool x180002_2, .bool x180003_2, .bool x180004_2]) ?_ 2 _ rfl; (with_reducible repeat (first | refine blk_drewN ?_ _ | refine blk_drew ?_ | refine blk_alloc ?_ _)); refine blk_put (cs := #[.string (a0.extract (a1 : Int).toNat (x9_3 : Int).toNat), .int .i64 x180001_2, .bool x180002_2, .bool x180003_2, .bool x180004_2]) ?_ 1 _ rfl; (with_reducible repeat (first | refine blk_drewN ?_ _ | refine blk_drew ?_ | refine blk_alloc ?_ _)); refine blk_put (cs := #[.string x180000_2, .int .i64 x180001_2, .bool x180002_2, .bool x180003_2, .bool x180004_2]) ?_ 0 _ rfl; (with_reducible repeat (first | refine blk_drewN ?_ _ | refine blk_drew ?_ | refine blk_alloc ?_ _)); exact BK179.out) Try.underlying49 rfl (by kernel_rfl) (.tmp (.cell gb180 26 #[.int .i64 0, .int .i64 0] (0, 0) _ rfl (by (with_reducible repeat (first | refine blk_drewN ?_ _ | refine blk_drew ?_ | refine blk_alloc ?_ _)); refine blk_put (cs := #[.int .i64 0, .int .i64 x181001_2]) ?_ 1 _ rfl; (with_reducible repeat (first | refine blk_drewN ?_ _ | refine blk_drew ?_ | refine blk_alloc ?_ _)); refine blk_put (cs := #[.int .i64 x181000_2, .int .i64 x181001_2]) ?_ 0 _ rfl; (with_reducible repeat (first | refine blk_drewN ?_ _ | refine blk_drew ?_ | refine blk_alloc ?_ _)); refine blk_far ?_ NB180_179.out _; (with_reducible repeat (first | refine blk_drewN ?_ _ | refine blk_drew ?_ | refine blk_alloc ?_ _)); refine blk_far ?_ NB180_179.out _; (with_reducible repeat (first | refine blk_drewN ?_ _ | refine blk_drew ?_ | refine blk_alloc ?_ _)); refine blk_far ?_ NB180_179.out _; (with_reducible repeat (first | refine blk_drewN ?_ _ | refine blk_drew ?_ | refine blk_alloc ?_ _)); refine blk_far ?_ NB180_179.out _; (with_reducible repeat (first | refine blk_drewN ?_ _ | refine blk_drew ?_ | refine blk_alloc ?_ _)); refine blk_far ?_ NB180_179.out _; (with_reducible repeat (first | refine blk_drewN ?_ _ | refine blk_drew ?_ | refine blk_alloc ?_ _)); exact BK180.out) Try.underlying26 rfl (by kernel_rfl) .nil)))) rfl ?_
                                  exact ⟨by first | rfl | (simp [errW_none, errW_some] <;> rfl) | (simp [*, errW_none, errW_some] <;> rfl), by repeat (first | (with_reducible first | exact HB.out | apply below_alloc | apply pw_below_drewN | apply below_drew1 | refine below_set ?_ GE179.out | refine below_set ?_ GE180.out | refine below_set ?_ GE182.out) | exact HB.out)⟩
                        · rw [if_neg c30] at H
                          exact absurd H (by simp)
                      · rw [if_neg c29] at H
                        have c29b0 : decide (x9_2 < (a0.size : Int)) = false := decide_eq_false c29
                        clear c29
                        simp only [Option.some.injEq, Prod.mk.injEq] at H
                        obtain ⟨rfl, rfl, rfl, rfl, rfl, rfl, rfl, rfl⟩ := H
                        have hnb78 := NB182_179.out
                        have hnc78 := NB179_182.out
                        have hnb79 := NB182_180.out
                        have hnc79 := NB180_182.out
                        have hcz80_0 : wr.cell? ⟨gb182, 0, none⟩ = some (.string (a0.extract (a1 : Int).toNat (x9_3 : Int).toNat)) := (blk_cell BK182.out 0).trans rfl
                        have hcz80_1 : wr.cell? ⟨gb182, 1, none⟩ = some (.int .i64 x183001_2) := (blk_cell BK182.out 1).trans rfl
                        have hcz80_2 : wr.cell? ⟨gb182, 2, none⟩ = some (.bool x183002_2) := (blk_cell BK182.out 2).trans rfl
                        have hcz80_3 : wr.cell? ⟨gb182, 3, none⟩ = some (.bool x183003_2) := (blk_cell BK182.out 3).trans rfl
                        have hcz80_4 : wr.cell? ⟨gb182, 4, none⟩ = some (.bool x183004_2) := (blk_cell BK182.out 4).trans rfl
                        have hfz80_0 := blk_frozen BK182.out 0
                        have hfz80_1 := blk_frozen BK182.out 1
                        have hfz80_2 := blk_frozen BK182.out 2
                        have hfz80_3 := blk_frozen BK182.out 3
                        have hfz80_4 := blk_frozen BK182.out 4
                        have hnb81 := NB179_180.out
                        have hnc81 := NB180_179.out
                        have hcz82_0 : wr.cell? ⟨gb179, 0, none⟩ = some (.string x180000_2) := (blk_cell BK179.out 0).trans rfl
                        have hcz82_1 : wr.cell? ⟨gb179, 1, none⟩ = some (.int .i64 x180001_2) := (blk_cell BK179.out 1).trans rfl
                        have hcz82_2 : wr.cell? ⟨gb179, 2, none⟩ = some (.bool x180002_2) := (blk_cell BK179.out 2).trans rfl
                        have hcz82_3 : wr.cell? ⟨gb179, 3, none⟩ = some (.bool x180003_2) := (blk_cell BK179.out 3).trans rfl
                        have hcz82_4 : wr.cell? ⟨gb179, 4, none⟩ = some (.bool x180004_2) := (blk_cell BK179.out 4).trans rfl
                        have hfz82_0 := blk_frozen BK179.out 0
                        have hfz82_1 := blk_frozen BK179.out 1
                        have hfz82_2 := blk_frozen BK179.out 2
                        have hfz82_3 := blk_frozen BK179.out 3
                        have hfz82_4 := blk_frozen BK179.out 4
                        have hcz83_0 : wr.cell? ⟨gb180, 0, none⟩ = some (.int .i64 x181000_2) := (blk_cell BK180.out 0).trans rfl
                        have hcz83_1 : wr.cell? ⟨gb180, 1, none⟩ = some (.int .i64 x181001_2) := (blk_cell BK180.out 1).trans rfl
                        have hfz83_0 := blk_frozen BK180.out 0
                        have hfz83_1 := blk_frozen BK180.out 1
                        go_wp2
                        refine bodyPost_ret (results_list (rs := [.cell 6 49, .tmp 7, .cell 8 26]) rfl (by simp) (.cell gb179 49 #[.string (a0.extract (a1 : Int).toNat (x9_3 : Int).toNat), .int .i64 x183001_2, .bool x183002_2, .bool x183003_2, .bool x183004_2] (0, 0) _ rfl (by (with_reducible repeat (first | refine blk_drewN ?_ _ | refine blk_drew ?_ | refine blk_alloc ?_ _)); refine blk_far ?_ NB179_180.out _; (with_reducible repeat (first | refine blk_drewN ?_ _ | refine blk_drew ?_ | refine blk_alloc ?_ _)); refine blk_far ?_ NB179_180.out _; (with_reducible repeat (first | refine blk_drewN ?_ _ | refine blk_drew ?_ | refine blk_alloc ?_ _)); refine blk_put (cs := #[.string (a0.extract (a1 : Int).toNat (x9_3 : Int).toNat), .int .i64 x183001_2, .bool x183002_2, .bool x183003_2, .bool x180004_2]) ?_ 4 _ rfl; (with_reducible repeat (first | refine blk_drewN ?_ _ | refine blk_drew ?_ | refine blk_alloc ?_ _)); refine blk_put (cs := #[.string (a0.extract (a1 : Int).toNat (x9_3 : Int).toNat), .int .i64 x183001_2, .bool x183002_2, .bool x180003_2, .bool x180004_2]) ?_ 3 _ rfl; (with_reducible repeat (first | refine blk_drewN ?_ _ | refine blk_drew ?_ | refine blk_alloc ?_ _)); refine blk_put (cs := #[.string (a0.extract (a1 : Int).toNat (x9_3 : Int).toNat), .int .i64 x183001_2, .bool x180002_2, .bool x180003_2, .bool x180004_2]) ?_ 2 _ rfl; (with_reducible repeat (first | refine blk_drewN ?_ _ | refine blk_drew ?_ | refine blk_alloc ?_ _)); refine blk_put (cs := #[.string (a0.extract (a1 : Int).toNat (x9_3 : Int).toNat), .int .i64 x180001_2, .bool x180002_2, .bool x180003_2, .bool x180004_2]) ?_ 1 _ rfl; (with_reducible repeat (first | refine blk_drewN ?_ _ | refine blk_drew ?_ | refine blk_alloc ?_ _)); refine blk_put (cs := #[.string x180000_2, .int .i64 x180001_2, .bool x180002_2, .bool x180003_2, .bool x180004_2]) ?_ 0 _ rfl; (with_reducible repeat (first | refine blk_drewN ?_ _ | refine blk_drew ?_ | refine blk_alloc ?_ _)); exact BK179.out) Try.underlying49 rfl (by kernel_rfl) (.tmp (.cell gb180 26 #[.int .i64 0, .int .i64 0] (0, 0) _ rfl (by (with_reducible repeat (first | refine blk_drewN ?_ _ | refine blk_drew ?_ | refine blk_alloc ?_ _)); refine blk_put (cs := #[.int .i64 0, .int .i64 x181001_2]) ?_ 1 _ rfl; (with_reducible repeat (first | refine blk_drewN ?_ _ | refine blk_drew ?_ | refine blk_alloc ?_ _)); refine blk_put (cs := #[.int .i64 x181000_2, .int .i64 x181001_2]) ?_ 0 _ rfl; (with_reducible repeat (first | refine blk_drewN ?_ _ | refine blk_drew ?_ | refine blk_alloc ?_ _)); refine blk_far ?_ NB180_179.out _; (with_reducible repeat (first | refine blk_drewN ?_ _ | refine blk_drew ?_ | refine blk_alloc ?_ _)); refine blk_far ?_ NB180_179.out _; (with_reducible repeat (first | refine blk_drewN ?_ _ | refine blk_drew ?_ | refine blk_alloc ?_ _)); refine blk_far ?_ NB180_179.out _; (with_reducible repeat (first | refine blk_drewN ?_ _ | refine blk_drew ?_ | refine blk_alloc ?_ _)); refine blk_far ?_ NB180_179.out _; (with_reducible repeat (first | refine blk_drewN ?_ _ | refine blk_drew ?_ | refine blk_alloc ?_ _)); refine blk_far ?_ NB180_179.out _; (with_reducible repeat (first | refine blk_drewN ?_ _ | refine blk_drew ?_ | refine blk_alloc ?_ _)); exact BK180.out) Try.underlying26 rfl (by kernel_rfl) .nil)))) rfl ?_
                        exact ⟨by first | rfl | (simp [errW_none, errW_some] <;> rfl) | (simp [*, errW_none, errW_some] <;> rfl), by repeat (first | (with_reducible first | exact HB.out | apply below_alloc | apply pw_below_drewN | apply below_drew1 | refine below_set ?_ GE179.out | refine below_set ?_ GE180.out | refine below_set ?_ GE182.out) | exact HB.out)⟩
                · replace c24 := Bool.eq_false_iff.mpr c24
                  subst c24
                  have H1 : (some ((⟨#[]⟩ : ByteArray), 0, false, false, false, 0, 3, a1)) = some (r1, r2, r3, r4, r5, r6, r7, r8) := by rw [if_neg (show ¬ (false = true) by decide)] at H; exact H
                  clear H
                  have H := H1
                  clear H1
                  simp only [Option.some.injEq, Prod.mk.injEq] at H
                  obtain ⟨rfl, rfl, rfl, rfl, rfl, rfl, rfl, rfl⟩ := H
                  go_wp2_with (first | ((with_reducible refine gate_dst (N := 10) rfl ?_); refine box_event ?hg (N := 10) ?hd (cs := #[.string (⟨#[]⟩ : ByteArray), .int .i64 0, .bool false, .bool false, .bool false]) (t := 49) ?hr ?_; (case hd => rfl); (case hg => rfl); (case hr => first | (go_simp; done) | (go_simp; rfl)); intro gb182 hg w84 hbox hb; have n0_ := Aside0.mk (blk_below (g := gb179) (o := .cells #[.string (⟨#[]⟩ : ByteArray), .int .i64 0, .bool false, .bool false, .bool false] 49 (0, 0)) (by (with_reducible repeat (first | refine blk_drewN ?_ _ | refine blk_drew ?_ | refine blk_alloc ?_ _)); exact BK179.out) hb); have n1_ := Aside0.mk (blk_below (g := gb180) (o := .cells #[.int .i64 0, .int .i64 0] 26 (0, 0)) (by (with_reducible repeat (first | refine blk_drewN ?_ _ | refine blk_drew ?_ | refine blk_alloc ?_ _)); exact BK180.out) hb); have n2_ := Aside0.mk (below_step (by repeat (first | (with_reducible first | exact HB.out | apply below_alloc | apply pw_below_drewN | apply below_drew1 | refine below_set ?_ GE179.out | refine below_set ?_ GE180.out) | exact HB.out)) hb); have n3_ := Aside0.mk (hbox); have n4_ := Aside0.mk ((by rw [hg]; exact (below_size (by repeat (first | (with_reducible first | exact HB.out | apply below_alloc | apply pw_below_drewN | apply below_drew1 | refine below_set ?_ GE179.out | refine below_set ?_ GE180.out) | exact HB.out))) : w.heap.size ≤ gb182)); have n5_ := Aside0.mk ((by rw [hg]; exact (below_size (by repeat (first | (with_reducible first | exact HB.out | apply below_alloc | apply pw_below_drewN | apply below_drew1 | refine below_set ?_ GE179.out | refine below_set ?_ GE180.out) | exact HB.out))) : w.heap.size ≤ gb182)); have n6_ := Aside0.mk ((by rw [hg]; exact Nat.ne_of_lt (blk_lt (g := gb179) (o := .cells #[.string (⟨#[]⟩ : ByteArray), .int .i64 0, .bool false, .bool false, .bool false] 49 (0, 0)) (by (with_reducible repeat (first | refine blk_drewN ?_ _ | refine blk_drew ?_ | refine blk_alloc ?_ _)); exact BK179.out)) : gb179 ≠ gb182)); have n7_ := Aside0.mk ((by rw [hg]; exact Nat.ne_of_gt (blk_lt (g := gb179) (o := .cells #[.string (⟨#[]⟩ : ByteArray), .int .i64 0, .bool false, .bool false, .bool false] 49 (0, 0)) (by (with_reducible repeat (first | refine blk_drewN ?_ _ | refine blk_drew ?_ | refine blk_alloc ?_ _)); exact BK179.out)) : gb182 ≠ gb179)); have n8_ := Aside0.mk ((by rw [hg]; exact Nat.ne_of_lt (blk_lt (g := gb180) (o := .cells #[.int .i64 0, .int .i64 0] 26 (0, 0)) (by (with_reducible repeat (first | refine blk_drewN ?_ _ | refine blk_drew ?_ | refine blk_alloc ?_ _)); exact BK180.out)) : gb180 ≠ gb182)); have n9_ := Aside0.mk ((by rw [hg]; exact Nat.ne_of_gt (blk_lt (g := gb180) (o := .cells #[.int .i64 0, .int .i64 0] 26 (0, 0)) (by (with_reducible repeat (first | refine blk_drewN ?_ _ | refine blk_drew ?_ | refine blk_alloc ?_ _)); exact BK180.out)) : gb182 ≠ gb180)); clear BK179; clear BK180; clear HB; have BK179 := n0_; have BK180 := n1_; have HB := n2_; have BK182 := n3_; have GW182 := n4_; have GE182 := n5_; have NB179_182 := n6_; have NB182_179 := n7_; have NB180_182 := n8_; have NB182_180 := n9_; clear n0_ n1_ n2_ n3_ n4_ n5_ n6_ n7_ n8_ n9_; clear hb hbox hg; have hnb85 := NB182_179.out; have hnc85 := NB179_182.out; have hnb86 := NB182_180.out; have hnc86 := NB180_182.out; have hcz87_0 : w84.cell? ⟨gb182, 0, none⟩ = some (.string (⟨#[]⟩ : ByteArray)) := (blk_cell BK182.out 0).trans rfl; have hcz87_1 : w84.cell? ⟨gb182, 1, none⟩ = some (.int .i64 0) := (blk_cell BK182.out 1).trans rfl; have hcz87_2 : w84.cell? ⟨gb182, 2, none⟩ = some (.bool false) := (blk_cell BK182.out 2).trans rfl; have hcz87_3 : w84.cell? ⟨gb182, 3, none⟩ = some (.bool false) := (blk_cell BK182.out 3).trans rfl; have hcz87_4 : w84.cell? ⟨gb182, 4, none⟩ = some (.bool false) := (blk_cell BK182.out 4).trans rfl; have hfz87_0 := blk_frozen BK182.out 0; have hfz87_1 := blk_frozen BK182.out 1; have hfz87_2 := blk_frozen BK182.out 2; have hfz87_3 := blk_frozen BK182.out 3; have hfz87_4 := blk_frozen BK182.out 4) | ((with_reducible refine gate_callee (f := 42) rfl ?_); refine goesL_ (some 42) rfl rfl Try.func42 (by kernel_rfl) rfl #[.string (a0.extract (a1 : Int).toNat (x9_3 : Int).toNat)] rfl (by (try simp only [List.map_toArray, List.map_cons, List.map_nil]); first | done | rfl | (simp only [List.length_drop, List.length_take]; rfl)) ?_; (with_reducible refine (salchowref04_Code.calls kj3 (a0.extract (a1 : Int).toNat (x9_3 : Int).toNat) false _ A23.out).mono ?_); rintro e w' ⟨rfl, ⟨nd, rfl⟩⟩; refine ⟨_, rfl, ?_⟩; have hnb88 := NB179_180.out; have hnc88 := NB180_179.out; have hcz89_0 : w84.cell? ⟨gb179, 0, none⟩ = some (.string (⟨#[]⟩ : ByteArray)) := (blk_cell BK179.out 0).trans rfl; have hcz89_1 : w84.cell? ⟨gb179, 1, none⟩ = some (.int .i64 0) := (blk_cell BK179.out 1).trans rfl; have hcz89_2 : w84.cell? ⟨gb179, 2, none⟩ = some (.bool false) := (blk_cell BK179.out 2).trans rfl; have hcz89_3 : w84.cell? ⟨gb179, 3, none⟩ = some (.bool false) := (blk_cell BK179.out 3).trans rfl; have hcz89_4 : w84.cell? ⟨gb179, 4, none⟩ = some (.bool false) := (blk_cell BK179.out 4).trans rfl; have hfz89_0 := blk_frozen BK179.out 0; have hfz89_1 := blk_frozen BK179.out 1; have hfz89_2 := blk_frozen BK179.out 2; have hfz89_3 := blk_frozen BK179.out 3; have hfz89_4 := blk_frozen BK179.out 4; have hcz90_0 : w84.cell? ⟨gb180, 0, none⟩ = some (.int .i64 0) := (blk_cell BK180.out 0).trans rfl; have hcz90_1 : w84.cell? ⟨gb180, 1, none⟩ = some (.int .i64 0) := (blk_cell BK180.out 1).trans rfl; have hfz90_0 := blk_frozen BK180.out 0; have hfz90_1 := blk_frozen BK180.out 1))
                  refine bodyPost_ret (results_list (rs := [.cell 6 49, .tmp 7, .cell 8 26]) rfl (by simp) (.cell gb179 49 #[.string (⟨#[]⟩ : ByteArray), .int .i64 0, .bool false, .bool false, .bool false] (0, 0) _ rfl (by (with_reducible repeat (first | refine blk_drewN ?_ _ | refine blk_drew ?_ | refine blk_alloc ?_ _)); refine blk_far ?_ NB179_180.out _; (with_reducible repeat (first | refine blk_drewN ?_ _ | refine blk_drew ?_ | refine blk_alloc ?_ _)); refine blk_far ?_ NB179_180.out _; (with_reducible repeat (first | refine blk_drewN ?_ _ | refine blk_drew ?_ | refine blk_alloc ?_ _)); refine blk_put (cs := #[.string (⟨#[]⟩ : ByteArray), .int .i64 0, .bool false, .bool false, .bool false]) ?_ 4 _ rfl; (with_reducible repeat (first | refine blk_drewN ?_ _ | refine blk_drew ?_ | refine blk_alloc ?_ _)); refine blk_put (cs := #[.string (⟨#[]⟩ : ByteArray), .int .i64 0, .bool false, .bool false, .bool false]) ?_ 3 _ rfl; (with_reducible repeat (first | refine blk_drewN ?_ _ | refine blk_drew ?_ | refine blk_alloc ?_ _)); refine blk_put (cs := #[.string (⟨#[]⟩ : ByteArray), .int .i64 0, .bool false, .bool false, .bool false]) ?_ 2 _ rfl; (with_reducible repeat (first | refine blk_drewN ?_ _ | refine blk_drew ?_ | refine blk_alloc ?_ _)); refine blk_put (cs := #[.string (⟨#[]⟩ : ByteArray), .int .i64 0, .bool false, .bool false, .bool false]) ?_ 1 _ rfl; (with_reducible repeat (first | refine blk_drewN ?_ _ | refine blk_drew ?_ | refine blk_alloc ?_ _)); refine blk_put (cs := #[.string (⟨#[]⟩ : ByteArray), .int .i64 0, .bool false, .bool false, .bool false]) ?_ 0 _ rfl; (with_reducible repeat (first | refine blk_drewN ?_ _ | refine blk_drew ?_ | refine blk_alloc ?_ _)); refine blk_far ?_ NB179_182.out _; (with_reducible repeat (first | refine blk_drewN ?_ _ | refine blk_drew ?_ | refine blk_alloc ?_ _)); refine blk_far ?_ NB179_182.out _; (with_reducible repeat (first | refine blk_drewN ?_ _ | refine blk_drew ?_ | refine blk_alloc ?_ _)); refine blk_far ?_ NB179_182.out _; (with_reducible repeat (first | refine blk_drewN ?_ _ | refine blk_drew ?_ | refine blk_alloc ?_ _)); refine blk_far ?_ NB179_182.out _; (with_reducible repeat (first | refine blk_drewN ?_ _ | refine blk_drew ?_ | refine blk_alloc ?_ _)); refine blk_far ?_ NB179_182.out _; (with_reducible repeat (first | refine blk_drewN ?_ _ | refine blk_drew ?_ | refine blk_alloc ?_ _)); exact BK179.out) Try.underlying49 rfl (by kernel_rfl) (.tmp (.cell gb180 26 #[.int .i64 3, .int .i64 a1] (0, 0) _ rfl (by (with_reducible repeat (first | refine blk_drewN ?_ _ | refine blk_drew ?_ | refine blk_alloc ?_ _)); refine blk_put (cs := #[.int .i64 3, .int .i64 0]) ?_ 1 _ rfl; (with_reducible repeat (first | refine blk_drewN ?_ _ | refine blk_drew ?_ | refine blk_alloc ?_ _)); refine blk_put (cs := #[.int .i64 0, .int .i64 0]) ?_ 0 _ rfl; (with_reducible repeat (first | refine blk_drewN ?_ _ | refine blk_drew ?_ | refine blk_alloc ?_ _)); refine blk_far ?_ NB180_179.out _; (with_reducible repeat (first | refine blk_drewN ?_ _ | refine blk_drew ?_ | refine blk_alloc ?_ _)); refine blk_far ?_ NB180_179.out _; (with_reducible repeat (first | refine blk_drewN ?_ _ | refine blk_drew ?_ | refine blk_alloc ?_ _)); refine blk_far ?_ NB180_179.out _; (with_reducible repeat (first | refine blk_drewN ?_ _ | refine blk_drew ?_ | refine blk_alloc ?_ _)); refine blk_far ?_ NB180_179.out _; (with_reducible repeat (first | refine blk_drewN ?_ _ | refine blk_drew ?_ | refine blk_alloc ?_ _)); refine blk_far ?_ NB180_179.out _; (with_reducible repeat (first | refine blk_drewN ?_ _ | refine blk_drew ?_ | refine blk_alloc ?_ _)); refine blk_far ?_ NB180_182.out _; (with_reducible repeat (first | refine blk_drewN ?_ _ | refine blk_drew ?_ | refine blk_alloc ?_ _)); refine blk_far ?_ NB180_182.out _; (with_reducible repeat (first | refine blk_drewN ?_ _ | refine blk_drew ?_ | refine blk_alloc ?_ _)); refine blk_far ?_ NB180_182.out _; (with_reducible repeat (first | refine blk_drewN ?_ _ | refine blk_drew ?_ | refine blk_alloc ?_ _)); refine blk_far ?_ NB180_182.out _; (with_reducible repeat (first | refine blk_drewN ?_ _ | refine blk_drew ?_ | refine blk_alloc ?_ _)); refine blk_far ?_ NB180_182.out _; (with_reducible repeat (first | refine blk_drewN ?_ _ | refine blk_drew ?_ | refine blk_alloc ?_ _)); exact BK180.out) Try.underlying26 rfl (by kernel_rfl) .nil)))) rfl ?_
                  exact ⟨by first | rfl | (simp [errW_none, errW_some] <;> rfl) | (simp [*, errW_none, errW_some] <;> rfl), by repeat (first | (with_reducible first | exact HB.out | apply below_alloc | apply pw_below_drewN | apply below_drew1 | refine below_set ?_ GE179.out | refine below_set ?_ GE180.out | refine below_set ?_ GE182.out) | exact HB.out)⟩
              · rw [if_neg c22] at H
                exact absurd H (by simp)
            · rw [if_neg c21] at H
              exact absurd H (by simp)
          · rw [if_neg c20] at H
            exact absurd H (by simp)

end Go.Proofs.Ythaglbgembfpeaa.P
