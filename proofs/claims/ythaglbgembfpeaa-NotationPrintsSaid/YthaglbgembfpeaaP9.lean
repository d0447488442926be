/- Each Go function as a plain Lean function, and the proof that its call comes to what that function says: made by a program of this session over the kit's print. -/
import Derived.Test.YthaglbgembfpeaaP0
namespace Go.Proofs.Ythaglbgembfpeaa.P
open Go.RowKit Go.Proofs.YthaglbgembfpeaaW.PrintWords Go.Proofs.YthaglbgembfpeaaW.PrintLast Go.Proofs.YthaglbgembfpeaaW.PrintMore
attribute [local go_sem] max2_int min2_int max_two min_two max_three min_three max_four min_four   -- for this text's walks alone
set_option linter.unusedVariables false
set_option linter.unusedSimpArgs false

/-! ### salchowref19_Print: function 18 -/
mutual
def salchowref19_Print.l0 : Nat → List (S49) → ByteArray → Int → Option (ByteArray)
  | 0, _, _, _ => none
  | k + 1, x0, x3, x4 => if x4 < (x0.length : Int) then (if 0 ≤ x4 then (if x4 > 0 then (if 0 ≤ (wrap64 (x4 - 1)) then (if (wrap64 (x4 - 1)) < (x0.length : Int) then (salchowref19_Print.j1 k x0 x3 x4 (!((rd_T49 x0 (wrap64 (x4 - 1))).f4)) ((rd_T49 x0 x4).f0) ((rd_T49 x0 x4).f1) ((rd_T49 x0 x4).f2) ((rd_T49 x0 x4).f3) ((rd_T49 x0 x4).f4)) else (none)) else (none)) else (salchowref19_Print.j1 k x0 x3 x4 false ((rd_T49 x0 x4).f0) ((rd_T49 x0 x4).f1) ((rd_T49 x0 x4).f2) ((rd_T49 x0 x4).f3) ((rd_T49 x0 x4).f4))) else (none)) else (some x3)
def salchowref19_Print.j1 : Nat → List (S49) → ByteArray → Int → Bool → ByteArray → Int → Bool → Bool → Bool → Option (ByteArray)
  | 0, _, _, _, _, _, _, _, _, _ => none
  | k + 1, x0, x3, x4, x27, x226000, x226001, x226002, x226003, x226004 => if x27 = true then (if x3.size + 1 ≤ 9223372036854775807 then (salchowref19_Print.j2 k x0 (x3 ++ (⟨#[32]⟩ : ByteArray)) x4 x226000 x226001 x226002 x226003 x226004) else (none)) else (salchowref19_Print.j2 k x0 x3 x4 x226000 x226001 x226002 x226003 x226004)
def salchowref19_Print.j2 : Nat → List (S49) → ByteArray → Int → ByteArray → Int → Bool → Bool → Bool → Option (ByteArray)
  | 0, _, _, _, _, _, _, _, _ => none
  | k + 1, x0, x3, x4, x226000, x226001, x226002, x226003, x226004 => if x3.size + x226000.size ≤ 9223372036854775807 then (salchowref19_Print.l1 k x0 (x3 ++ x226000) x4 0 x226000 x226001 x226002 x226003 x226004) else (none)
def salchowref19_Print.l1 : Nat → List (S49) → ByteArray → Int → Int → ByteArray → Int → Bool → Bool → Bool → Option (ByteArray)
  | 0, _, _, _, _, _, _, _, _, _ => none
  | k + 1, x0, x3, x4, x6, x226000, x226001, x226002, x226003, x226004 => if x6 < x226001 then (if x3.size + 1 ≤ 9223372036854775807 then (salchowref19_Print.l1 k x0 (x3 ++ (⟨#[60]⟩ : ByteArray)) x4 (wrap64 (x6 + 1)) x226000 x226001 x226002 x226003 x226004) else (none)) else (if x226002 = true then (if x3.size + 1 ≤ 9223372036854775807 then (salchowref19_Print.j4 k x0 (x3 ++ (⟨#[63]⟩ : ByteArray)) x4 x226000 x226001 x226002 x226003 x226004) else (none)) else (salchowref19_Print.j4 k x0 x3 x4 x226000 x226001 x226002 x226003 x226004))
def salchowref19_Print.j4 : Nat → List (S49) → ByteArray → Int → ByteArray → Int → Bool → Bool → Bool → Option (ByteArray)
  | 0, _, _, _, _, _, _, _, _ => none
  | k + 1, x0, x3, x4, x226000, x226001, x226002, x226003, x226004 => if x226003 = true then (if x3.size + 1 ≤ 9223372036854775807 then (if x226004 = true then (if (x3 ++ (⟨#[42]⟩ : ByteArray)).size + 1 ≤ 9223372036854775807 then (salchowref19_Print.l0 k x0 ((x3 ++ (⟨#[42]⟩ : ByteArray)) ++ (⟨#[43]⟩ : ByteArray)) (wrap64 (x4 + 1))) else (none)) else (salchowref19_Print.l0 k x0 (x3 ++ (⟨#[42]⟩ : ByteArray)) (wrap64 (x4 + 1)))) else (none)) else (if x226004 = true then (if x3.size + 1 ≤ 9223372036854775807 then (salchowref19_Print.l0 k x0 (x3 ++ (⟨#[43]⟩ : ByteArray)) (wrap64 (x4 + 1))) else (none)) else (salchowref19_Print.l0 k x0 x3 (wrap64 (x4 + 1))))
end
def salchowref19_Print.f (k : Nat) (l0 : List (S49)) : Option (ByteArray) := salchowref19_Print.l0 k l0 (⟨#[]⟩ : ByteArray) 0
theorem salchowref19_Print.mono_l : ∀ k, (∀ y0 y1 y2, LeO (salchowref19_Print.l0 k y0 y1 y2) (salchowref19_Print.l0 (k + 1) y0 y1 y2)) ∧ (∀ y0 y1 y2 y3 y4 y5 y6 y7 y8, LeO (salchowref19_Print.j1 k y0 y1 y2 y3 y4 y5 y6 y7 y8) (salchowref19_Print.j1 (k + 1) y0 y1 y2 y3 y4 y5 y6 y7 y8)) ∧ (∀ y0 y1 y2 y3 y4 y5 y6 y7, LeO (salchowref19_Print.j2 k y0 y1 y2 y3 y4 y5 y6 y7) (salchowref19_Print.j2 (k + 1) y0 y1 y2 y3 y4 y5 y6 y7)) ∧ (∀ y0 y1 y2 y3 y4 y5 y6 y7 y8, LeO (salchowref19_Print.l1 k y0 y1 y2 y3 y4 y5 y6 y7 y8) (salchowref19_Print.l1 (k + 1) y0 y1 y2 y3 y4 y5 y6 y7 y8)) ∧ (∀ y0 y1 y2 y3 y4 y5 y6 y7, LeO (salchowref19_Print.j4 k y0 y1 y2 y3 y4 y5 y6 y7) (salchowref19_Print.j4 (k + 1) y0 y1 y2 y3 y4 y5 y6 y7))
  | 0 => ⟨fun _ _ _ r h => by simp [salchowref19_Print.l0] at h, fun _ _ _ _ _ _ _ _ _ r h => by simp [salchowref19_Print.j1] at h, fun _ _ _ _ _ _ _ _ r h => by simp [salchowref19_Print.j2] at h, fun _ _ _ _ _ _ _ _ _ r h => by simp [salchowref19_Print.l1] at h, fun _ _ _ _ _ _ _ _ r h => by simp [salchowref19_Print.j4] at h⟩
  | k + 1 => by
    obtain ⟨ih0, ih1, ih2, ih3, ih4⟩ := salchowref19_Print.mono_l k
    refine ⟨?_, ?_, ?_, ?_, ?_⟩
    · intro y0 y1 y2
      unfold salchowref19_Print.l0
      repeat' first
      | (with_reducible exact ih0 _ _ _)
      | (with_reducible exact ih1 _ _ _ _ _ _ _ _ _)
      | (with_reducible exact ih2 _ _ _ _ _ _ _ _)
      | (with_reducible exact ih3 _ _ _ _ _ _ _ _ _)
      | (with_reducible exact ih4 _ _ _ _ _ _ _ _)
      | (with_reducible exact LeO.refl _)
      | (with_reducible exact LeO.none _)
      | (with_reducible refine LeO.ite ?_ ?_)
      | (with_reducible refine LeO.bind ?_ (fun _ => ?_))
      | exact ih0 _ _ _
      | exact ih1 _ _ _ _ _ _ _ _ _
      | exact ih2 _ _ _ _ _ _ _ _
      | exact ih3 _ _ _ _ _ _ _ _ _
      | exact ih4 _ _ _ _ _ _ _ _
      | exact LeO.none _
      | refine LeO.ite ?_ ?_
      | refine LeO.bind ?_ (fun _ => ?_)
    · intro y0 y1 y2 y3 y4 y5 y6 y7 y8
      unfold salchowref19_Print.j1
      repeat' first
      | (with_reducible exact ih0 _ _ _)
      | (with_reducible exact ih1 _ _ _ _ _ _ _ _ _)
      | (with_reducible exact ih2 _ _ _ _ _ _ _ _)
      | (with_reducible exact ih3 _ _ _ _ _ _ _ _ _)
      | (with_reducible exact ih4 _ _ _ _ _ _ _ _)
      | (with_reducible exact LeO.refl _)
      | (with_reducible exact LeO.none _)
      | (with_reducible refine LeO.ite ?_ ?_)
      | (with_reducible refine LeO.bind ?_ (fun _ => ?_))
      | exact ih0 _ _ _
      | exact ih1 _ _ _ _ _ _ _ _ _
      | exact ih2 _ _ _ _ _ _ _ _
      | exact ih3 _ _ _ _ _ _ _ _ _
      | exact ih4 _ _ _ _ _ _ _ _
      | exact LeO.none _
      | refine LeO.ite ?_ ?_
      | refine LeO.bind ?_ (fun _ => ?_)
    · intro y0 y1 y2 y3 y4 y5 y6 y7
      unfold salchowref19_Print.j2
      repeat' first
      | (with_reducible exact ih0 _ _ _)
      | (with_reducible exact ih1 _ _ _ _ _ _ _ _ _)
      | (with_reducible exact ih2 _ _ _ _ _ _ _ _)
      | (with_reducible exact ih3 _ _ _ _ _ _ _ _ _)
      | (with_reducible exact ih4 _ _ _ _ _ _ _ _)
      | (with_reducible exact LeO.refl _)
      | (with_reducible exact LeO.none _)
      | (with_reducible refine LeO.ite ?_ ?_)
      | (with_reducible refine LeO.bind ?_ (fun _ => ?_))
      | exact ih0 _ _ _
      | exact ih1 _ _ _ _ _ _ _ _ _
      | exact ih2 _ _ _ _ _ _ _ _
      | exact ih3 _ _ _ _ _ _ _ _ _
      | exact ih4 _ _ _ _ _ _ _ _
      | exact LeO.none _
      | refine LeO.ite ?_ ?_
      | refine LeO.bind ?_ (fun _ => ?_)
    · intro y0 y1 y2 y3 y4 y5 y6 y7 y8
      unfold salchowref19_Print.l1
      repeat' first
      | (with_reducible exact ih0 _ _ _)
      | (with_reducible exact ih1 _ _ _ _ _ _ _ _ _)
      | (with_reducible exact ih2 _ _ _ _ _ _ _ _)
      | (with_reducible exact ih3 _ _ _ _ _ _ _ _ _)
      | (with_reducible exact ih4 _ _ _ _ _ _ _ _)
      | (with_reducible exact LeO.refl _)
      | (with_reducible exact LeO.none _)
      | (with_reducible refine LeO.ite ?_ ?_)
      | (with_reducible refine LeO.bind ?_ (fun _ => ?_))
      | exact ih0 _ _ _
      | exact ih1 _ _ _ _ _ _ _ _ _
      | exact ih2 _ _ _ _ _ _ _ _
      | exact ih3 _ _ _ _ _ _ _ _ _
      | exact ih4 _ _ _ _ _ _ _ _
      | exact LeO.none _
      | refine LeO.ite ?_ ?_
      | refine LeO.bind ?_ (fun _ => ?_)
    · intro y0 y1 y2 y3 y4 y5 y6 y7
      unfold salchowref19_Print.j4
      repeat' first
      | (with_reducible exact ih0 _ _ _)
      | (with_reducible exact ih1 _ _ _ _ _ _ _ _ _)
      | (with_reducible exact ih2 _ _ _ _ _ _ _ _)
      | (with_reducible exact ih3 _ _ _ _ _ _ _ _ _)
      | (with_reducible exact ih4 _ _ _ _ _ _ _ _)
      | (with_reducible exact LeO.refl _)
      | (with_reducible exact LeO.none _)
      | (with_reducible refine LeO.ite ?_ ?_)
      | (with_reducible refine LeO.bind ?_ (fun _ => ?_))
      | exact ih0 _ _ _
      | exact ih1 _ _ _ _ _ _ _ _ _
      | exact ih2 _ _ _ _ _ _ _ _
      | exact ih3 _ _ _ _ _ _ _ _ _
      | exact ih4 _ _ _ _ _ _ _ _
      | exact LeO.none _
      | refine LeO.ite ?_ ?_
      | refine LeO.bind ?_ (fun _ => ?_)
theorem salchowref19_Print.mono : ∀ a0 k, LeO (salchowref19_Print.f k a0) (salchowref19_Print.f (k + 1) a0) := by
  intro a0 k
  obtain ⟨ih0, ih1, ih2, ih3, ih4⟩ := salchowref19_Print.mono_l k
  unfold salchowref19_Print.f
  repeat' first
      | (with_reducible exact ih0 _ _ _)
      | (with_reducible exact ih1 _ _ _ _ _ _ _ _ _)
      | (with_reducible exact ih2 _ _ _ _ _ _ _ _)
      | (with_reducible exact ih3 _ _ _ _ _ _ _ _ _)
      | (with_reducible exact ih4 _ _ _ _ _ _ _ _)
      | (with_reducible exact LeO.refl _)
      | (with_reducible exact LeO.none _)
      | (with_reducible refine LeO.ite ?_ ?_)
      | (with_reducible refine LeO.bind ?_ (fun _ => ?_))
      | exact ih0 _ _ _
      | exact ih1 _ _ _ _ _ _ _ _ _
      | exact ih2 _ _ _ _ _ _ _ _
      | exact ih3 _ _ _ _ _ _ _ _ _
      | exact ih4 _ _ _ _ _ _ _ _
      | exact LeO.none _
      | refine LeO.ite ?_ ?_
      | refine LeO.bind ?_ (fun _ => ?_)
set_option maxHeartbeats 8000000 in
set_option maxRecDepth 100000 in
theorem salchowref19_Print.calls (k : Nat) (A0 : Option Addr) (c0 : Nat) (l0 : List (S49)) (r : ByteArray) (w : World) (hr0 : Kd.C k49 w A0 l0.length l0) (hc0 : l0.length ≤ c0) (h : salchowref19_Print.f k l0 = some r) :
    Calls Try.prog 18 #[.slice A0 l0.length c0] w fun e w' => e = .returned (.string r) ∧ Below w.heap.size w w' := by
  have hu49 := Try.underlying49
  have HR0 := Aside0.mk hr0
  have HC0 := Aside0.mk hc0
  clear hr0 hc0
  have HB := Aside0.mk (Below.refl w.heap.size w)
  have H : (salchowref19_Print.l0 k l0 (⟨#[]⟩ : ByteArray) 0) = some r := h
  clear h
  have H' := Aside0.mk H
  clear H
  go_enter Try.func18, Try.ntmps18
  go_wp2
  go_loopg [3, 4] k (fun kq v3 v4 w' => ∃ (x3_1 : ByteArray) (x4_1 : Int), v3 = .string x3_1 ∧ v4 = .int .i64 x4_1 ∧ Aside0 (salchowref19_Print.l0 kq l0 x3_1 x4_1 = some r) ∧ Aside0 (kq ≤ k) ∧ Aside0 (Below w.heap.size w w'))
  case atStart => exact ⟨((⟨#[]⟩ : ByteArray)), (0), (by first | rfl | (simp; done) | (simp [*]; done)), (by first | rfl | (simp; done) | (simp [*]; done)), H', ⟨Nat.le_refl _⟩, ⟨by repeat (first | (with_reducible first | exact HB.out | apply below_alloc | apply pw_below_drewN | apply below_drew1) | exact HB.out)⟩⟩
  case round =>
    clear H'
    try clear c1
    obtain ⟨x3_1, x4_1, rfl, rfl, HA, HK1, HB⟩ := hrel
    cases gk with
    | zero => exact absurd HA.out (by simp [salchowref19_Print.l0])
    | succ k1 =>
      have H := HA.out
      clear HA
      simp only [salchowref19_Print.l0] at H
      by_cases c2 : x4_1 < (l0.length : Int)
      · rw [if_pos c2] at H
        have c2b0 : decide (x4_1 < (l0.length : Int)) = true := decide_eq_true c2
        clear c2
        by_cases c3 : 0 ≤ x4_1
        · rw [if_pos c3] at H
          have c3b0 : decide (0 ≤ x4_1) = true := decide_eq_true c3
          clear c3
          have HC4 := Aside0.mk H
          clear H
          have p224 : 0 ≤ (x4_1 : Int) := of_decide_eq_true (by first | (with_reducible assumption) | assumption)
          have q224 : x4_1 < (l0.length : Int) := of_decide_eq_true (by first | (with_reducible assumption) | assumption)
          obtain ⟨ad224, e224, hx224_0, hx224_1, hx224_2, hx224_3, hx224_4⟩ := at_T49 HR0.out x4_1 p224 q224
          cases e224
          replace hx224_0 := (HB.out.cell (World.block_lt_of_cell? w _ hx224_0)).trans hx224_0
          replace hx224_1 := (HB.out.cell (World.block_lt_of_cell? w _ hx224_1)).trans hx224_1
          replace hx224_2 := (HB.out.cell (World.block_lt_of_cell? w _ hx224_2)).trans hx224_2
          replace hx224_3 := (HB.out.cell (World.block_lt_of_cell? w _ hx224_3)).trans hx224_3
          replace hx224_4 := (HB.out.cell (World.block_lt_of_cell? w _ hx224_4)).trans hx224_4
          replace p224 := eq_true p224
          replace q224 := eq_true q224
          go_upto_region 6 with (first | ((with_reducible refine gate_dst (N := 5) rfl ?_); refine box_event ?hg (N := 5) ?hd (cs := #[.string (⟨#[]⟩ : ByteArray), .int .i64 0, .bool false, .bool false, .bool false]) (t := 49) ?hr ?_; (case hd => rfl); (case hg => rfl); (case hr => first | (go_simp; done) | (go_simp; rfl)); intro gb225 hg w5 hbox hb; have n0_ := Aside0.mk (below_step (by repeat (first | (with_reducible first | exact HB.out | apply below_alloc | apply pw_below_drewN | apply below_drew1) | exact HB.out)) hb); have n1_ := Aside0.mk (hbox); have n2_ := Aside0.mk ((by rw [hg]; exact (below_size (by repeat (first | (with_reducible first | exact HB.out | apply below_alloc | apply pw_below_drewN | apply below_drew1) | exact HB.out))) : w.heap.size ≤ gb225)); have n3_ := Aside0.mk ((by rw [hg]; exact (below_size (by repeat (first | (with_reducible first | exact HB.out | apply below_alloc | apply pw_below_drewN | apply below_drew1) | exact HB.out))) : w.heap.size ≤ gb225)); clear HB; have HB := n0_; have BK225 := n1_; have GW225 := n2_; have GE225 := n3_; clear n0_ n1_ n2_ n3_; clear hb hbox hg; have hcz6_0 : w5.cell? ⟨gb225, 0, none⟩ = some (.string (⟨#[]⟩ : ByteArray)) := (blk_cell BK225.out 0).trans rfl; have hcz6_1 : w5.cell? ⟨gb225, 1, none⟩ = some (.int .i64 0) := (blk_cell BK225.out 1).trans rfl; have hcz6_2 : w5.cell? ⟨gb225, 2, none⟩ = some (.bool false) := (blk_cell BK225.out 2).trans rfl; have hcz6_3 : w5.cell? ⟨gb225, 3, none⟩ = some (.bool false) := (blk_cell BK225.out 3).trans rfl; have hcz6_4 : w5.cell? ⟨gb225, 4, none⟩ = some (.bool false) := (blk_cell BK225.out 4).trans rfl; have hfz6_0 := blk_frozen BK225.out 0; have hfz6_1 := blk_frozen BK225.out 1; have hfz6_2 := blk_frozen BK225.out 2; have hfz6_3 := blk_frozen BK225.out 3; have hfz6_4 := blk_frozen BK225.out 4))
          (try simp only [Act.put, List.setIfInBounds_toArray, List.set_cons_zero, List.set_cons_succ])
          go_cut [27] (fun v27 wc => ∃ (kq : Nat) (x27_3 : Bool), v27 = .bool x27_3 ∧ Aside0 (salchowref19_Print.j1 kq l0 x3_1 x4_1 x27_3 ((rd_T49 l0 x4_1).f0) ((rd_T49 l0 x4_1).f1) ((rd_T49 l0 x4_1).f2) ((rd_T49 l0 x4_1).f3) ((rd_T49 l0 x4_1).f4) = some r) ∧ Aside0 (kq ≤ k1) ∧ Aside0 (wc.heap[gb225]? = some (.cells #[.string ((rd_T49 l0 x4_1).f0), .int .i64 ((rd_T49 l0 x4_1).f1), .bool ((rd_T49 l0 x4_1).f2), .bool ((rd_T49 l0 x4_1).f3), .bool ((rd_T49 l0 x4_1).f4)] 49 (0, 0))) ∧ Aside0 (Below w.heap.size w wc))
          case first =>
            have H := HC4.out
            clear HC4
            by_cases c7 : x4_1 > 0
            · rw [if_pos c7] at H
              have c7b0 : decide (0 < x4_1) = true := decide_eq_true c7
              clear c7
              (first | rw [c7b0] | (simp only [i64_w, i32_w]; rw [c7b0]) | skip)
              obtain ⟨ji8, hji8⟩ : ∃ j_ : Int, (wrap64 (x4_1 - 1)) = j_ := ⟨_, rfl⟩
              replace H : (if 0 ≤ (ji8) then (if (ji8) < (l0.length : Int) then (salchowref19_Print.j1 k1 l0 x3_1 x4_1 (!((rd_T49 l0 (ji8)).f4)) ((rd_T49 l0 x4_1).f0) ((rd_T49 l0 x4_1).f1) ((rd_T49 l0 x4_1).f2) ((rd_T49 l0 x4_1).f3) ((rd_T49 l0 x4_1).f4)) else (none)) else (none)) = some r := by first | (rw [hji8] at H; exact H) | (simp only [hji8] at H ⊢; exact H)
              have hji8w : (IntKind.i64.wrap (x4_1 - 1)) = ji8 := (i64_w _).trans hji8
              by_cases c9 : 0 ≤ (ji8)
              · rw [if_pos c9] at H
                have c9b0 : decide (0 ≤ (ji8)) = true := decide_eq_true c9
                clear c9
                by_cases c10 : (ji8) < (l0.length : Int)
                · rw [if_pos c10] at H
                  have c10b0 : decide ((ji8) < (l0.length : Int)) = true := decide_eq_true c10
                  clear c10
                  have H' := Aside0.mk H
                  clear H
                  have p226 : 0 ≤ ((ji8) : Int) := of_decide_eq_true (by first | (with_reducible assumption) | assumption)
                  have q226 : (ji8) < (l0.length : Int) := of_decide_eq_true (by first | (with_reducible assumption) | assumption)
                  obtain ⟨ad226, e226, hx226_0, hx226_1, hx226_2, hx226_3, hx226_4⟩ := at_T49 HR0.out (ji8) p226 q226
                  obtain rfl : ad224 = ad226 := (by injection e226)
                  have hn226_0 : ad224.block ≠ gb225 := Nat.ne_of_lt (Nat.lt_of_lt_of_le (by have := World.block_lt_of_cell? _ _ hx226_0; first | rwa [add_block] at this | exact this) GW225.out)
                  have hn226_1 : ad224.block ≠ gb225 := Nat.ne_of_lt (Nat.lt_of_lt_of_le (by have := World.block_lt_of_cell? _ _ hx226_0; first | rwa [add_block] at this | exact this) GW225.out)
                  have hn226_2 : ad224.block ≠ gb225 := Nat.ne_of_lt (Nat.lt_of_lt_of_le (by have := World.block_lt_of_cell? _ _ hx226_0; first | rwa [add_block] at this | exact this) GW225.out)
                  have hn226_3 : ad224.block ≠ gb225 := Nat.ne_of_lt (Nat.lt_of_lt_of_le (by have := World.block_lt_of_cell? _ _ hx226_0; first | rwa [add_block] at this | exact this) GW225.out)
                  have hn226_4 : ad224.block ≠ gb225 := Nat.ne_of_lt (Nat.lt_of_lt_of_le (by have := World.block_lt_of_cell? _ _ hx226_0; first | rwa [add_block] at this | exact this) GW225.out)
                  replace hx226_0 := (HB.out.cell (World.block_lt_of_cell? w _ hx226_0)).trans hx226_0
                  replace hx226_1 := (HB.out.cell (World.block_lt_of_cell? w _ hx226_1)).trans hx226_1
                  replace hx226_2 := (HB.out.cell (World.block_lt_of_cell? w _ hx226_2)).trans hx226_2
                  replace hx226_3 := (HB.out.cell (World.block_lt_of_cell? w _ hx226_3)).trans hx226_3
                  replace hx226_4 := (HB.out.cell (World.block_lt_of_cell? w _ hx226_4)).trans hx226_4
                  replace hx226_0 := (cell_far (p := ⟨gb225, 0, none⟩) (by first | (rw [add_block]; exact hn226_0) | (show (Addr.add _ _).block ≠ _; rw [add_block]; exact hn226_0) | exact hn226_0) (.string ((rd_T49 l0 x4_1).f0))).trans hx226_0
                  replace hx226_1 := (cell_far (p := ⟨gb225, 0, none⟩) (by first | (rw [add_block]; exact hn226_0) | (show (Addr.add _ _).block ≠ _; rw [add_block]; exact hn226_0) | exact hn226_0) (.string ((rd_T49 l0 x4_1).f0))).trans hx226_1
                  replace hx226_2 := (cell_far (p := ⟨gb225, 0, none⟩) (by first | (rw [add_block]; exact hn226_0) | (show (Addr.add _ _).block ≠ _; rw [add_block]; exact hn226_0) | exact hn226_0) (.string ((rd_T49 l0 x4_1).f0))).trans hx226_2
                  replace hx226_3 := (cell_far (p := ⟨gb225, 0, none⟩) (by first | (rw [add_block]; exact hn226_0) | (show (Addr.add _ _).block ≠ _; rw [add_block]; exact hn226_0) | exact hn226_0) (.string ((rd_T49 l0 x4_1).f0))).trans hx226_3
                  replace hx226_4 := (cell_far (p := ⟨gb225, 0, none⟩) (by first | (rw [add_block]; exact hn226_0) | (show (Addr.add _ _).block ≠ _; rw [add_block]; exact hn226_0) | exact hn226_0) (.string ((rd_T49 l0 x4_1).f0))).trans hx226_4
                  replace hx226_0 := (cell_far (p := ⟨gb225, 1, none⟩) (by first | (rw [add_block]; exact hn226_1) | (show (Addr.add _ _).block ≠ _; rw [add_block]; exact hn226_1) | exact hn226_1) (.int .i64 ((rd_T49 l0 x4_1).f1))).trans hx226_0
                  replace hx226_1 := (cell_far (p := ⟨gb225, 1, none⟩) (by first | (rw [add_block]; exact hn226_1) | (show (Addr.add _ _).block ≠ _; rw [add_block]; exact hn226_1) | exact hn226_1) (.int .i64 ((rd_T49 l0 x4_1).f1))).trans hx226_1
                  replace hx226_2 := (cell_far (p := ⟨gb225, 1, none⟩) (by first | (rw [add_block]; exact hn226_1) | (show (Addr.add _ _).block ≠ _; rw [add_block]; exact hn226_1) | exact hn226_1) (.int .i64 ((rd_T49 l0 x4_1).f1))).trans hx226_2
                  replace hx226_3 := (cell_far (p := ⟨gb225, 1, none⟩) (by first | (rw [add_block]; exact hn226_1) | (show (Addr.add _ _).block ≠ _; rw [add_block]; exact hn226_1) | exact hn226_1) (.int .i64 ((rd_T49 l0 x4_1).f1))).trans hx226_3
                  replace hx226_4 := (cell_far (p := ⟨gb225, 1, none⟩) (by first | (rw [add_block]; exact hn226_1) | (show (Addr.add _ _).block ≠ _; rw [add_block]; exact hn226_1) | exact hn226_1) (.int .i64 ((rd_T49 l0 x4_1).f1))).trans hx226_4
                  replace hx226_0 := (cell_far (p := ⟨gb225, 2, none⟩) (by first | (rw [add_block]; exact hn226_2) | (show (Addr.add _ _).block ≠ _; rw [add_block]; exact hn226_2) | exact hn226_2) (.bool ((rd_T49 l0 x4_1).f2))).trans hx226_0
                  replace hx226_1 := (cell_far (p := ⟨gb225, 2, none⟩) (by first | (rw [add_block]; exact hn226_2) | (show (Addr.add _ _).block ≠ _; rw [add_block]; exact hn226_2) | exact hn226_2) (.bool ((rd_T49 l0 x4_1).f2))).trans hx226_1
                  replace hx226_2 := (cell_far (p := ⟨gb225, 2, none⟩) (by first | (rw [add_block]; exact hn226_2) | (show (Addr.add _ _).block ≠ _; rw [add_block]; exact hn226_2) | exact hn226_2) (.bool ((rd_T49 l0 x4_1).f2))).trans hx226_2
                  replace hx226_3 := (cell_far (p := ⟨gb225, 2, none⟩) (by first | (rw [add_block]; exact hn226_2) | (show (Addr.add _ _).block ≠ _; rw [add_block]; exact hn226_2) | exact hn226_2) (.bool ((rd_T49 l0 x4_1).f2))).trans hx226_3
                  replace hx226_4 := (cell_far (p := ⟨gb225, 2, none⟩) (by first | (rw [add_block]; exact hn226_2) | (show (Addr.add _ _).block ≠ _; rw [add_block]; exact hn226_2) | exact hn226_2) (.bool ((rd_T49 l0 x4_1).f2))).trans hx226_4
                  replace hx226_0 := (cell_far (p := ⟨gb225, 3, none⟩) (by first | (rw [add_block]; exact hn226_3) | (show (Addr.add _ _).block ≠ _; rw [add_block]; exact hn226_3) | exact hn226_3) (.bool ((rd_T49 l0 x4_1).f3))).trans hx226_0
                  replace hx226_1 := (cell_far (p := ⟨gb225, 3, none⟩) (by first | (rw [add_block]; exact hn226_3) | (show (Addr.add _ _).block ≠ _; rw [add_block]; exact hn226_3) | exact hn226_3) (.bool ((rd_T49 l0 x4_1).f3))).trans hx226_1
                  replace hx226_2 := (cell_far (p := ⟨gb225, 3, none⟩) (by first | (rw [add_block]; exact hn226_3) | (show (Addr.add _ _).block ≠ _; rw [add_block]; exact hn226_3) | exact hn226_3) (.bool ((rd_T49 l0 x4_1).f3))).trans hx226_2
                  replace hx226_3 := (cell_far (p := ⟨gb225, 3, none⟩) (by first | (rw [add_block]; exact hn226_3) | (show (Addr.add _ _).block ≠ _; rw [add_block]; exact hn226_3) | exact hn226_3) (.bool ((rd_T49 l0 x4_1).f3))).trans hx226_3
                  replace hx226_4 := (cell_far (p := ⟨gb225, 3, none⟩) (by first | (rw [add_block]; exact hn226_3) | (show (Addr.add _ _).block ≠ _; rw [add_block]; exact hn226_3) | exact hn226_3) (.bool ((rd_T49 l0 x4_1).f3))).trans hx226_4
                  replace hx226_0 := (cell_far (p := ⟨gb225, 4, none⟩) (by first | (rw [add_block]; exact hn226_4) | (show (Addr.add _ _).block ≠ _; rw [add_block]; exact hn226_4) | exact hn226_4) (.bool ((rd_T49 l0 x4_1).f4))).trans hx226_0
                  replace hx226_1 := (cell_far (p := ⟨gb225, 4, none⟩) (by first | (rw [add_block]; exact hn226_4) | (show (Addr.add _ _).block ≠ _; rw [add_block]; exact hn226_4) | exact hn226_4) (.bool ((rd_T49 l0 x4_1).f4))).trans hx226_1
                  replace hx226_2 := (cell_far (p := ⟨gb225, 4, none⟩) (by first | (rw [add_block]; exact hn226_4) | (show (Addr.add _ _).block ≠ _; rw [add_block]; exact hn226_4) | exact hn226_4) (.bool ((rd_T49 l0 x4_1).f4))).trans hx226_2
                  replace hx226_3 := (cell_far (p := ⟨gb225, 4, none⟩) (by first | (rw [add_block]; exact hn226_4) | (show (Addr.add _ _).block ≠ _; rw [add_block]; exact hn226_4) | exact hn226_4) (.bool ((rd_T49 l0 x4_1).f4))).trans hx226_3
                  replace hx226_4 := (cell_far (p := ⟨gb225, 4, none⟩) (by first | (rw [add_block]; exact hn226_4) | (show (Addr.add _ _).block ≠ _; rw [add_block]; exact hn226_4) | exact hn226_4) (.bool ((rd_T49 l0 x4_1).f4))).trans hx226_4
                  clear hn226_0
                  clear hn226_1
                  clear hn226_2
                  clear hn226_3
                  clear hn226_4
                  replace p226 := eq_true p226
                  replace q226 := eq_true q226
                  go_wp2
                  go_meet
                  case rel => exact ⟨_, (!((rd_T49 l0 (ji8)).f4)), (by first | rfl | (simp; done) | (simp only [← hji8] <;> (first | rfl | simp)) | (simp [*]; done)), H', ⟨by have := HK1.out; first | omega | exact Nat.le_refl _⟩, ⟨by (with_reducible repeat (first | refine blk_drewN ?_ _ | refine blk_drew ?_ | refine blk_alloc ?_ _)); refine blk_put (cs := #[.string ((rd_T49 l0 x4_1).f0), .int .i64 ((rd_T49 l0 x4_1).f1), .bool ((rd_T49 l0 x4_1).f2), .bool ((rd_T49 l0 x4_1).f3), .bool false]) ?_ 4 _ rfl; (with_reducible repeat (first | refine blk_drewN ?_ _ | refine blk_drew ?_ | refine blk_alloc ?_ _)); refine blk_put (cs := #[.string ((rd_T49 l0 x4_1).f0), .int .i64 ((rd_T49 l0 x4_1).f1), .bool ((rd_T49 l0 x4_1).f2), .bool false, .bool false]) ?_ 3 _ rfl; (with_reducible repeat (first | refine blk_drewN ?_ _ | refine blk_drew ?_ | refine blk_alloc ?_ _)); refine blk_put (cs := #[.string ((rd_T49 l0 x4_1).f0), .int .i64 ((rd_T49 l0 x4_1).f1), .bool false, .bool false, .bool false]) ?_ 2 _ rfl; (with_reducible repeat (first | refine blk_drewN ?_ _ | refine blk_drew ?_ | refine blk_alloc ?_ _)); refine blk_put (cs := #[.string ((rd_T49 l0 x4_1).f0), .int .i64 0, .bool false, .bool false, .bool false]) ?_ 1 _ rfl; (with_reducible repeat (first | refine blk_drewN ?_ _ | refine blk_drew ?_ | refine blk_alloc ?_ _)); refine blk_put (cs := #[.string (⟨#[]⟩ : ByteArray), .int .i64 0, .bool false, .bool false, .bool false]) ?_ 0 _ rfl; (with_reducible repeat (first | refine blk_drewN ?_ _ | refine blk_drew ?_ | refine blk_alloc ?_ _)); exact BK225.out⟩, ⟨by repeat (first | (with_reducible first | exact HB.out | apply below_alloc | apply pw_below_drewN | apply below_drew1 | refine below_set ?_ GE225.out) | exact HB.out)⟩⟩
                · rw [if_neg c10] at H
                  exact absurd H (by simp)
              · rw [if_neg c9] at H
                exact absurd H (by simp)
            · rw [if_neg c7] at H
              have c7b0 : decide (0 < x4_1) = false := decide_eq_false c7
              clear c7
              (first | rw [c7b0] | (simp only [i64_w, i32_w]; rw [c7b0]) | skip)
              have H' := Aside0.mk H
              clear H
              go_wp2
              go_meet
              case rel => exact ⟨_, (false), (by first | rfl | (simp; done) | (simp [*]; done)), H', ⟨by have := HK1.out; first | omega | exact Nat.le_refl _⟩, ⟨by (with_reducible repeat (first | refine blk_drewN ?_ _ | refine blk_drew ?_ | refine blk_alloc ?_ _)); refine blk_put (cs := #[.string ((rd_T49 l0 x4_1).f0), .int .i64 ((rd_T49 l0 x4_1).f1), .bool ((rd_T49 l0 x4_1).f2), .bool ((rd_T49 l0 x4_1).f3), .bool false]) ?_ 4 _ rfl; (with_reducible repeat (first | refine blk_drewN ?_ _ | refine blk_drew ?_ | refine blk_alloc ?_ _)); refine blk_put (cs := #[.string ((rd_T49 l0 x4_1).f0), .int .i64 ((rd_T49 l0 x4_1).f1), .bool ((rd_T49 l0 x4_1).f2), .bool false, .bool false]) ?_ 3 _ rfl; (with_reducible repeat (first | refine blk_drewN ?_ _ | refine blk_drew ?_ | refine blk_alloc ?_ _)); refine blk_put (cs := #[.string ((rd_T49 l0 x4_1).f0), .int .i64 ((rd_T49 l0 x4_1).f1), .bool false, .bool false, .bool false]) ?_ 2 _ rfl; (with_reducible repeat (first | refine blk_drewN ?_ _ | refine blk_drew ?_ | refine blk_alloc ?_ _)); refine blk_put (cs := #[.string ((rd_T49 l0 x4_1).f0), .int .i64 0, .bool false, .bool false, .bool false]) ?_ 1 _ rfl; (with_reducible repeat (first | refine blk_drewN ?_ _ | refine blk_drew ?_ | refine blk_alloc ?_ _)); refine blk_put (cs := #[.string (⟨#[]⟩ : ByteArray), .int .i64 0, .bool false, .bool false, .bool false]) ?_ 0 _ rfl; (with_reducible repeat (first | refine blk_drewN ?_ _ | refine blk_drew ?_ | refine blk_alloc ?_ _)); exact BK225.out⟩, ⟨by repeat (first | (with_reducible first | exact HB.out | apply below_alloc | apply pw_below_drewN | apply below_drew1 | refine below_set ?_ GE225.out) | exact HB.out)⟩⟩
          case rest =>
            clear HC4
            try clear c1
            try clear c2
            try clear c2b0
            try clear p2
            try clear q2
            try clear hx2
            try clear c3
            try clear c3b0
            try clear p6
            try clear c7
            try clear c7b0
            try clear c9
            try clear c9b0
            try clear c10
            try clear c10b0
            try clear hcz6_0
            try clear hcz6_1
            try clear hcz6_2
            try clear hcz6_3
            try clear hcz6_4
            try clear hfz6_0
            try clear hfz6_1
            try clear hfz6_2
            try clear hfz6_3
            try clear hfz6_4
            try clear hx224_0
            try clear hx224_1
            try clear hx224_2
            try clear hx224_3
            try clear hx224_4
            try clear hx226_0
            try clear hx226_1
            try clear hx226_2
            try clear hx226_3
            try clear hx226_4
            try clear p224
            try clear p226
            try clear q224
            try clear q226
            obtain ⟨kq, x27_3, rfl, HA, HJ3, BK225, HB⟩ := hcut
            cases kq with
            | zero => exact absurd HA.out (by simp [salchowref19_Print.j1])
            | succ kj3 =>
              have H := HA.out
              clear HA
              simp only [salchowref19_Print.j1] at H
              have HC11 := Aside0.mk H
              clear H
              go_upto_if 27 with (fail)
              go_cut [3] (fun v3 wc => ∃ (kq : Nat) (x3_10 : ByteArray), v3 = .string x3_10 ∧ Aside0 (salchowref19_Print.j2 kq l0 x3_10 x4_1 ((rd_T49 l0 x4_1).f0) ((rd_T49 l0 x4_1).f1) ((rd_T49 l0 x4_1).f2) ((rd_T49 l0 x4_1).f3) ((rd_T49 l0 x4_1).f4) = some r) ∧ Aside0 (kq ≤ kj3) ∧ Aside0 (wc.heap[gb225]? = some (.cells #[.string ((rd_T49 l0 x4_1).f0), .int .i64 ((rd_T49 l0 x4_1).f1), .bool ((rd_T49 l0 x4_1).f2), .bool ((rd_T49 l0 x4_1).f3), .bool ((rd_T49 l0 x4_1).f4)] 49 (0, 0))) ∧ Aside0 (Below w.heap.size w wc))
              case first =>
                have H := HC11.out
                clear HC11
                by_cases c12 : x27_3 = true
                · subst c12
                  have H1 : (if x3_1.size + 1 ≤ 9223372036854775807 then (salchowref19_Print.j2 kj3 l0 (x3_1 ++ (⟨#[32]⟩ : ByteArray)) x4_1 ((rd_T49 l0 x4_1).f0) ((rd_T49 l0 x4_1).f1) ((rd_T49 l0 x4_1).f2) ((rd_T49 l0 x4_1).f3) ((rd_T49 l0 x4_1).f4)) else (none)) = some r := by rw [if_pos rfl] at H; exact H
                  clear H
                  have H := H1
                  clear H1
                  by_cases c13 : x3_1.size + 1 ≤ 9223372036854775807
                  · rw [if_pos c13] at H
                    have c13b0 := eq_true c13
                    have c13b1 : decide (x3_1.size + 1 ≤ 9223372036854775807) = true := decide_eq_true c13
                    try have c13b2 : (9223372036854775807 < x3_1.size + 1) = False := eq_false (Nat.not_lt.2 c13)
                    have H' := Aside0.mk H
                    clear H
                    go_wp2
                    go_meet
                    case rel => exact ⟨_, (x3_1 ++ (⟨#[32]⟩ : ByteArray)), (by first | rfl | (simp; done) | (simp [*]; done)), H', ⟨by have := HK1.out; have := HJ3.out; first | omega | exact Nat.le_refl _⟩, ⟨by (with_reducible repeat (first | refine blk_drewN ?_ _ | refine blk_drew ?_ | refine blk_alloc ?_ _)); exact BK225.out⟩, ⟨by repeat (first | (with_reducible first | exact HB.out | apply below_alloc | apply pw_below_drewN | apply below_drew1 | refine below_set ?_ GE225.out) | exact HB.out)⟩⟩
                  · rw [if_neg c13] at H
                    exact absurd H (by simp)
                · replace c12 := Bool.eq_false_iff.mpr c12
                  subst c12
                  have H1 : (salchowref19_Print.j2 kj3 l0 x3_1 x4_1 ((rd_T49 l0 x4_1).f0) ((rd_T49 l0 x4_1).f1) ((rd_T49 l0 x4_1).f2) ((rd_T49 l0 x4_1).f3) ((rd_T49 l0 x4_1).f4)) = some r := by rw [if_neg (show ¬ (false = true) by decide)] at H; exact H
                  clear H
                  have H := H1
                  clear H1
                  have H' := Aside0.mk H
                  clear H
                  go_wp2
                  go_meet
                  case rel => exact ⟨_, (x3_1), (by first | rfl | (simp; done) | (simp [*]; done)), H', ⟨by have := HK1.out; have := HJ3.out; first | omega | exact Nat.le_refl _⟩, ⟨by (with_reducible repeat (first | refine blk_drewN ?_ _ | refine blk_drew ?_ | refine blk_alloc ?_ _)); exact BK225.out⟩, ⟨by repeat (first | (with_reducible first | exact HB.out | apply below_alloc | apply pw_below_drewN | apply below_drew1 | refine below_set ?_ GE225.out) | exact HB.out)⟩⟩
              case rest =>
                clear HC11
                try clear c1
                try clear c2
                try clear c2b0
                try clear p2
                try clear q2
                try clear hx2
                try clear c3
                try clear c3b0
                try clear p6
                try clear c7
                try clear c7b0
                try clear c9
                try clear c9b0
                try clear c10
                try clear c10b0
                try clear c12
                try clear c13
                try clear c13b0
                try clear c13b1
                try clear c13b2
                try clear hcz6_0
                try clear hcz6_1
                try clear hcz6_2
                try clear hcz6_3
                try clear hcz6_4
                try clear hfz6_0
                try clear hfz6_1
                try clear hfz6_2
                try clear hfz6_3
                try clear hfz6_4
                try clear hx224_0
                try clear hx224_1
                try clear hx224_2
                try clear hx224_3
                try clear hx224_4
                try clear hx226_0
                try clear hx226_1
                try clear hx226_2
                try clear hx226_3
                try clear hx226_4
                try clear p2
                try clear p224
                try clear p226
                try clear p6
                try clear q2
                try clear q224
                try clear q226
                obtain ⟨kq, x3_10, rfl, HA, HJ10, BK225, HB⟩ := hcut
                cases kq with
                | zero => exact absurd HA.out (by simp [salchowref19_Print.j2])
                | succ kj10 =>
                  have H := HA.out
                  clear HA
                  simp only [salchowref19_Print.j2] at H
                  by_cases c14 : x3_10.size + ((rd_T49 l0 x4_1).f0).size ≤ 9223372036854775807
                  · rw [if_pos c14] at H
                    have c14b0 := eq_true c14
                    have c14b1 : decide (x3_10.size + ((rd_T49 l0 x4_1).f0).size ≤ 9223372036854775807) = true := decide_eq_true c14
                    try have c14b2 : (9223372036854775807 < x3_10.size + ((rd_T49 l0 x4_1).f0).size) = False := eq_false (Nat.not_lt.2 c14)
                    have H' := Aside0.mk H
                    clear H
                    have hcz15_0 : wc.cell? ⟨gb225, 0, none⟩ = some (.string ((rd_T49 l0 x4_1).f0)) := (blk_cell BK225.out 0).trans rfl
                    have hcz15_1 : wc.cell? ⟨gb225, 1, none⟩ = some (.int .i64 ((rd_T49 l0 x4_1).f1)) := (blk_cell BK225.out 1).trans rfl
                    have hcz15_2 : wc.cell? ⟨gb225, 2, none⟩ = some (.bool ((rd_T49 l0 x4_1).f2)) := (blk_cell BK225.out 2).trans rfl
                    have hcz15_3 : wc.cell? ⟨gb225, 3, none⟩ = some (.bool ((rd_T49 l0 x4_1).f3)) := (blk_cell BK225.out 3).trans rfl
                    have hcz15_4 : wc.cell? ⟨gb225, 4, none⟩ = some (.bool ((rd_T49 l0 x4_1).f4)) := (blk_cell BK225.out 4).trans rfl
                    have hfz15_0 := blk_frozen BK225.out 0
                    have hfz15_1 := blk_frozen BK225.out 1
                    have hfz15_2 := blk_frozen BK225.out 2
                    have hfz15_3 := blk_frozen BK225.out 3
                    have hfz15_4 := blk_frozen BK225.out 4
                    go_wp2
                    go_loopg [3, 6] kj10 (fun kq v3 v6 w' => ∃ (x3_4 : ByteArray) (x6_4 : Int), v3 = .string x3_4 ∧ v6 = .int .i64 x6_4 ∧ Aside0 (salchowref19_Print.l1 kq l0 x3_4 x4_1 x6_4 ((rd_T49 l0 x4_1).f0) ((rd_T49 l0 x4_1).f1) ((rd_T49 l0 x4_1).f2) ((rd_T49 l0 x4_1).f3) ((rd_T49 l0 x4_1).f4) = some r) ∧ Aside0 (kq ≤ kj10) ∧ Aside0 (w'.heap[gb225]? = some (.cells #[.string ((rd_T49 l0 x4_1).f0), .int .i64 ((rd_T49 l0 x4_1).f1), .bool ((rd_T49 l0 x4_1).f2), .bool ((rd_T49 l0 x4_1).f3), .bool ((rd_T49 l0 x4_1).f4)] 49 (0, 0))) ∧ Aside0 (Below w.heap.size w w'))
                    case atStart => exact ⟨(x3_10 ++ ((rd_T49 l0 x4_1).f0)), (0), (by first | rfl | (simp; done) | (simp [*]; done)), (by first | rfl | (simp; done) | (simp [*]; done)), H', ⟨Nat.le_refl _⟩, ⟨by (with_reducible repeat (first | refine blk_drewN ?_ _ | refine blk_drew ?_ | refine blk_alloc ?_ _)); exact BK225.out⟩, ⟨by repeat (first | (with_reducible first | exact HB.out | apply below_alloc | apply pw_below_drewN | apply below_drew1 | refine below_set ?_ GE225.out) | exact HB.out)⟩⟩
                    case round =>
                      clear H'
                      try clear c1
                      try clear c2
                      try clear c2b0
                      try clear p2
                      try clear q2
                      try clear hx2
                      try clear c3
                      try clear c3b0
                      try clear p6
                      try clear c7
                      try clear c7b0
                      try clear c9
                      try clear c9b0
                      try clear c10
                      try clear c10b0
                      try clear c12
                      try clear c13
                      try clear c13b0
                      try clear c13b1
                      try clear c13b2
                      try clear c14
                      try clear c14b0
                      try clear c14b1
                      try clear c14b2
                      try clear hcz15_0
                      try clear hcz15_1
                      try clear hcz15_2
                      try clear hcz15_3
                      try clear hcz15_4
                      try clear hcz6_0
                      try clear hcz6_1
                      try clear hcz6_2
                      try clear hcz6_3
                      try clear hcz6_4
                      try clear hfz15_0
                      try clear hfz15_1
                      try clear hfz15_2
                      try clear hfz15_3
                      try clear hfz15_4
                      try clear hfz6_0
                      try clear hfz6_1
                      try clear hfz6_2
                      try clear hfz6_3
                      try clear hfz6_4
                      try clear hx224_0
                      try clear hx224_1
                      try clear hx224_2
                      try clear hx224_3
                      try clear hx224_4
                      try clear hx226_0
                      try clear hx226_1
                      try clear hx226_2
                      try clear hx226_3
                      try clear hx226_4
                      try clear p2
                      try clear p224
                      try clear p226
                      try clear p6
                      try clear q2
                      try clear q224
                      try clear q226
                      obtain ⟨x3_4, x6_4, rfl, rfl, HA, HK4, BK225, HB⟩ := hrel
                      cases gk with
                      | zero => exact absurd HA.out (by simp [salchowref19_Print.l1])
                      | succ k4 =>
                        have H := HA.out
                        clear HA
                        simp only [salchowref19_Print.l1] at H
                        by_cases c16 : x6_4 < ((rd_T49 l0 x4_1).f1)
                        · rw [if_pos c16] at H
                          have c16b0 : decide (x6_4 < ((rd_T49 l0 x4_1).f1)) = true := decide_eq_true c16
                          clear c16
                          by_cases c17 : x3_4.size + 1 ≤ 9223372036854775807
                          · rw [if_pos c17] at H
                            have c17b0 := eq_true c17
                            have c17b1 : decide (x3_4.size + 1 ≤ 9223372036854775807) = true := decide_eq_true c17
                            try have c17b2 : (9223372036854775807 < x3_4.size + 1) = False := eq_false (Nat.not_lt.2 c17)
                            have H' := Aside0.mk H
                            clear H
                            have hcz18_0 : wr.cell? ⟨gb225, 0, none⟩ = some (.string ((rd_T49 l0 x4_1).f0)) := (blk_cell BK225.out 0).trans rfl
                            have hcz18_1 : wr.cell? ⟨gb225, 1, none⟩ = some (.int .i64 ((rd_T49 l0 x4_1).f1)) := (blk_cell BK225.out 1).trans rfl
                            have hcz18_2 : wr.cell? ⟨gb225, 2, none⟩ = some (.bool ((rd_T49 l0 x4_1).f2)) := (blk_cell BK225.out 2).trans rfl
                            have hcz18_3 : wr.cell? ⟨gb225, 3, none⟩ = some (.bool ((rd_T49 l0 x4_1).f3)) := (blk_cell BK225.out 3).trans rfl
                            have hcz18_4 : wr.cell? ⟨gb225, 4, none⟩ = some (.bool ((rd_T49 l0 x4_1).f4)) := (blk_cell BK225.out 4).trans rfl
                            have hfz18_0 := blk_frozen BK225.out 0
                            have hfz18_1 := blk_frozen BK225.out 1
                            have hfz18_2 := blk_frozen BK225.out 2
                            have hfz18_3 := blk_frozen BK225.out 3
                            have hfz18_4 := blk_frozen BK225.out 4
                            go_wp2
                            go_roundg k4
                            case measure => have := HK1.out; have := HJ3.out; have := HJ10.out; have := HK4.out; omega
                            case rel => exact ⟨(x3_4 ++ (⟨#[60]⟩ : ByteArray)), (wrap64 (x6_4 + 1)), (by first | rfl | (simp; done) | (simp [*]; done)), (by first | rfl | (simp; done) | (simp [*]; done)), H', ⟨by have := HK1.out; have := HJ3.out; have := HJ10.out; have := HK4.out; omega⟩, ⟨by (with_reducible repeat (first | refine blk_drewN ?_ _ | refine blk_drew ?_ | refine blk_alloc ?_ _)); exact BK225.out⟩, ⟨by repeat (first | (with_reducible first | exact HB.out | apply below_alloc | apply pw_below_drewN | apply below_drew1 | refine below_set ?_ GE225.out) | exact HB.out)⟩⟩
                          · rw [if_neg c17] at H
                            exact absurd H (by simp)
                        · rw [if_neg c16] at H
                          have c16b0 : decide (x6_4 < ((rd_T49 l0 x4_1).f1)) = false := decide_eq_false c16
                          clear c16
                          have HC19 := Aside0.mk H
                          clear H
                          have hcz20_0 : wr.cell? ⟨gb225, 0, none⟩ = some (.string ((rd_T49 l0 x4_1).f0)) := (blk_cell BK225.out 0).trans rfl
                          have hcz20_1 : wr.cell? ⟨gb225, 1, none⟩ = some (.int .i64 ((rd_T49 l0 x4_1).f1)) := (blk_cell BK225.out 1).trans rfl
                          have hcz20_2 : wr.cell? ⟨gb225, 2, none⟩ = some (.bool ((rd_T49 l0 x4_1).f2)) := (blk_cell BK225.out 2).trans rfl
                          have hcz20_3 : wr.cell? ⟨gb225, 3, none⟩ = some (.bool ((rd_T49 l0 x4_1).f3)) := (blk_cell BK225.out 3).trans rfl
                          have hcz20_4 : wr.cell? ⟨gb225, 4, none⟩ = some (.bool ((rd_T49 l0 x4_1).f4)) := (blk_cell BK225.out 4).trans rfl
                          have hfz20_0 := blk_frozen BK225.out 0
                          have hfz20_1 := blk_frozen BK225.out 1
                          have hfz20_2 := blk_frozen BK225.out 2
                          have hfz20_3 := blk_frozen BK225.out 3
                          have hfz20_4 := blk_frozen BK225.out 4
                          go_upto_if 43 with (fail)
                          go_cut [3] (fun v3 wc => ∃ (kq : Nat) (x3_18 : ByteArray), v3 = .string x3_18 ∧ Aside0 (salchowref19_Print.j4 kq l0 x3_18 x4_1 ((rd_T49 l0 x4_1).f0) ((rd_T49 l0 x4_1).f1) ((rd_T49 l0 x4_1).f2) ((rd_T49 l0 x4_1).f3) ((rd_T49 l0 x4_1).f4) = some r) ∧ Aside0 (kq ≤ k4) ∧ Aside0 (wc.heap[gb225]? = some (.cells #[.string ((rd_T49 l0 x4_1).f0), .int .i64 ((rd_T49 l0 x4_1).f1), .bool ((rd_T49 l0 x4_1).f2), .bool ((rd_T49 l0 x4_1).f3), .bool ((rd_T49 l0 x4_1).f4)] 49 (0, 0))) ∧ Aside0 (Below w.heap.size w wc))
                          case first =>
                            have H := HC19.out
                            clear HC19
                            by_cases c21 : ((rd_T49 l0 x4_1).f2) = true
                            · rw [if_pos c21] at H
                              have c21b0 : ((rd_T49 l0 x4_1).f2) = true := c21
                              clear c21
                              (first | rw [c21b0] | (simp only [i64_w, i32_w]; rw [c21b0]) | skip)
                              by_cases c22 : x3_4.size + 1 ≤ 9223372036854775807
                              · rw [if_pos c22] at H
                                have c22b0 := eq_true c22
                                have c22b1 : decide (x3_4.size + 1 ≤ 9223372036854775807) = true := decide_eq_true c22
                                try have c22b2 : (9223372036854775807 < x3_4.size + 1) = False := eq_false (Nat.not_lt.2 c22)
                                have H' := Aside0.mk H
                                clear H
                                go_wp2
                                go_meet
                                case rel => exact ⟨_, (x3_4 ++ (⟨#[63]⟩ : ByteArray)), (by first | rfl | (simp; done) | (simp [*]; done)), H', ⟨by have := HK1.out; have := HJ3.out; have := HJ10.out; have := HK4.out; first | omega | exact Nat.le_refl _⟩, ⟨by (with_reducible repeat (first | refine blk_drewN ?_ _ | refine blk_drew ?_ | refine blk_alloc ?_ _)); exact BK225.out⟩, ⟨by repeat (first | (with_reducible first | exact HB.out | apply below_alloc | apply pw_below_drewN | apply below_drew1 | refine below_set ?_ GE225.out) | exact HB.out)⟩⟩
                              · rw [if_neg c22] at H
                                exact absurd H (by simp)
                            · rw [if_neg c21] at H
                              have c21b0 : ((rd_T49 l0 x4_1).f2) = false := by simpa using c21
                              clear c21
                              (first | rw [c21b0] | (simp only [i64_w, i32_w]; rw [c21b0]) | skip)
                              have H' := Aside0.mk H
                              clear H
                              go_wp2
                              go_meet
                              case rel => exact ⟨_, (x3_4), (by first | rfl | (simp; done) | (simp [*]; done)), H', ⟨by have := HK1.out; have := HJ3.out; have := HJ10.out; have := HK4.out; first | omega | exact Nat.le_refl _⟩, ⟨by (with_reducible repeat (first | refine blk_drewN ?_ _ | refine blk_drew ?_ | refine blk_alloc ?_ _)); exact BK225.out⟩, ⟨by repeat (first | (with_reducible first | exact HB.out | apply below_alloc | apply pw_below_drewN | apply below_drew1 | refine below_set ?_ GE225.out) | exact HB.out)⟩⟩
                          case rest =>
                            clear HC19
                            try clear c1
                            try clear c2
                            try clear c2b0
                            try clear p2
                            try clear q2
                            try clear hx2
                            try clear c3
                            try clear c3b0
                            try clear p6
                            try clear c7
                            try clear c7b0
                            try clear c9
                            try clear c9b0
                            try clear c10
                            try clear c10b0
                            try clear c12
                            try clear c13
                            try clear c13b0
                            try clear c13b1
                            try clear c13b2
                            try clear c14
                            try clear c14b0
                            try clear c14b1
                            try clear c14b2
                            try clear c16
                            try clear c16b0
                            try clear c17
                            try clear c17b0
                            try clear c17b1
                            try clear c17b2
                            try clear c18
                            try clear c21
                            try clear c21b0
                            try clear c22
                            try clear c22b0
                            try clear c22b1
                            try clear c22b2
                            try clear p22
                            try clear q22
                            try clear hx22
                            try clear hcz15_0
                            try clear hcz15_1
                            try clear hcz15_2
                            try clear hcz15_3
                            try clear hcz15_4
                            try clear hcz18_0
                            try clear hcz18_1
                            try clear hcz18_2
                            try clear hcz18_3
                            try clear hcz18_4
                            try clear hcz20_0
                            try clear hcz20_1
                            try clear hcz20_2
                            try clear hcz20_3
                            try clear hcz20_4
                            try clear hcz6_0
                            try clear hcz6_1
                            try clear hcz6_2
                            try clear hcz6_3
                            try clear hcz6_4
                            try clear hfz15_0
                            try clear hfz15_1
                            try clear hfz15_2
                            try clear hfz15_3
                            try clear hfz15_4
                            try clear hfz18_0
                            try clear hfz18_1
                            try clear hfz18_2
                            try clear hfz18_3
                            try clear hfz18_4
                            try clear hfz20_0
                            try clear hfz20_1
                            try clear hfz20_2
                            try clear hfz20_3
                            try clear hfz20_4
                            try clear hfz6_0
                            try clear hfz6_1
                            try clear hfz6_2
                            try clear hfz6_3
                            try clear hfz6_4
                            try clear hx224_0
                            try clear hx224_1
                            try clear hx224_2
                            try clear hx224_3
                            try clear hx224_4
                            try clear hx226_0
                            try clear hx226_1
                            try clear hx226_2
                            try clear hx226_3
                            try clear hx226_4
                            try clear p2
                            try clear p224
                            try clear p226
                            try clear p6
                            try clear q2
                            try clear q224
                            try clear q226
                            obtain ⟨kq, x3_18, rfl, HA, HJ18, BK225, HB⟩ := hcut
                            cases kq with
                            | zero => exact absurd HA.out (by simp [salchowref19_Print.j4])
                            | succ kj18 =>
                              have H := HA.out
                              clear HA
                              simp only [salchowref19_Print.j4] at H
                              by_cases c23 : ((rd_T49 l0 x4_1).f3) = true
                              · rw [if_pos c23] at H
                                have c23b0 : ((rd_T49 l0 x4_1).f3) = true := c23
                                clear c23
                                by_cases c24 : x3_18.size + 1 ≤ 9223372036854775807
                                · rw [if_pos c24] at H
                                  have c24b0 := eq_true c24
                                  have c24b1 : decide (x3_18.size + 1 ≤ 9223372036854775807) = true := decide_eq_true c24
                                  try have c24b2 : (9223372036854775807 < x3_18.size + 1) = False := eq_false (Nat.not_lt.2 c24)
                                  by_cases c25 : ((rd_T49 l0 x4_1).f4) = true
                                  · rw [if_pos c25] at H
                                    have c25b0 : ((rd_T49 l0 x4_1).f4) = true := c25
                                    clear c25
                                    by_cases c26 : (x3_18 ++ (⟨#[42]⟩ : ByteArray)).size + 1 ≤ 9223372036854775807
                                    · rw [if_pos c26] at H
                                      have c26b0 := eq_true c26
                                      have c26b1 : decide ((x3_18 ++ (⟨#[42]⟩ : ByteArray)).size + 1 ≤ 9223372036854775807) = true := decide_eq_true c26
                                      try have c26b2 : (9223372036854775807 < (x3_18 ++ (⟨#[42]⟩ : ByteArray)).size + 1) = False := eq_false (Nat.not_lt.2 c26)
                                      try have c26n : x3_18.size + 1 + 1 ≤ 9223372036854775807 := by have h_ := c26; rw [ByteArray.size_append] at h_; exact h_
                                      try have c26n0 := eq_true c26n
                                      try have c26n1 : decide (x3_18.size + 1 + 1 ≤ 9223372036854775807) = true := decide_eq_true c26n
                                      try have c26n2 : (9223372036854775807 < x3_18.size + 1 + 1) = False := eq_false (Nat.not_lt.2 c26n)
                                      try have c26m : x3_18.size + 2 ≤ 9223372036854775807 := by have h_ := c26; rw [ByteArray.size_append] at h_; exact h_
                                      try have c26m0 := eq_true c26m
                                      try have c26m1 : decide (x3_18.size + 2 ≤ 9223372036854775807) = true := decide_eq_true c26m
                                      try have c26m2 : (9223372036854775807 < x3_18.size + 2) = False := eq_false (Nat.not_lt.2 c26m)
                                      have H' := Aside0.mk H
                                      clear H
                                      have hcz27_0 : wc.cell? ⟨gb225, 0, none⟩ = some (.string ((rd_T49 l0 x4_1).f0)) := (blk_cell BK225.out 0).trans rfl
                                      have hcz27_1 : wc.cell? ⟨gb225, 1, none⟩ = some (.int .i64 ((rd_T49 l0 x4_1).f1)) := (blk_cell BK225.out 1).trans rfl
                                      have hcz27_2 : wc.cell? ⟨gb225, 2, none⟩ = some (.bool ((rd_T49 l0 x4_1).f2)) := (blk_cell BK225.out 2).trans rfl
                                      have hcz27_3 : wc.cell? ⟨gb225, 3, none⟩ = some (.bool ((rd_T49 l0 x4_1).f3)) := (blk_cell BK225.out 3).trans rfl
                                      have hcz27_4 : wc.cell? ⟨gb225, 4, none⟩ = some (.bool ((rd_T49 l0 x4_1).f4)) := (blk_cell BK225.out 4).trans rfl
                                      have hfz27_0 := blk_frozen BK225.out 0
                                      have hfz27_1 := blk_frozen BK225.out 1
                                      have hfz27_2 := blk_frozen BK225.out 2
                                      have hfz27_3 := blk_frozen BK225.out 3
                                      have hfz27_4 := blk_frozen BK225.out 4
                                      go_wp2
                                      go_roundg kj18
                                      case measure => have := HK1.out; have := HJ3.out; have := HJ10.out; have := HK4.out; have := HJ18.out; omega
                                      case rel => exact ⟨((x3_18 ++ (⟨#[42]⟩ : ByteArray)) ++ (⟨#[43]⟩ : ByteArray)), (wrap64 (x4_1 + 1)), (by first | rfl | (simp; done) | (simp [*]; done)), (by first | rfl | (simp; done) | (simp [*]; done)), H', ⟨by have := HK1.out; have := HJ3.out; have := HJ10.out; have := HK4.out; have := HJ18.out; omega⟩, ⟨by repeat (first | (with_reducible first | exact HB.out | apply below_alloc | apply pw_below_drewN | apply below_drew1 | refine below_set ?_ GE225.out) | exact HB.out)⟩⟩
                                    · rw [if_neg c26] at H
                                      exact absurd H (by simp)
                                  · rw [if_neg c25] at H
                                    have c25b0 : ((rd_T49 l0 x4_1).f4) = false := by simpa using c25
                                    clear c25
                                    have H' := Aside0.mk H
                                    clear H
                                    have hcz28_0 : wc.cell? ⟨gb225, 0, none⟩ = some (.string ((rd_T49 l0 x4_1).f0)) := (blk_cell BK225.out 0).trans rfl
                                    have hcz28_1 : wc.cell? ⟨gb225, 1, none⟩ = some (.int .i64 ((rd_T49 l0 x4_1).f1)) := (blk_cell BK225.out 1).trans rfl
                                    have hcz28_2 : wc.cell? ⟨gb225, 2, none⟩ = some (.bool ((rd_T49 l0 x4_1).f2)) := (blk_cell BK225.out 2).trans rfl
                                    have hcz28_3 : wc.cell? ⟨gb225, 3, none⟩ = some (.bool ((rd_T49 l0 x4_1).f3)) := (blk_cell BK225.out 3).trans rfl
                                    have hcz28_4 : wc.cell? ⟨gb225, 4, none⟩ = some (.bool ((rd_T49 l0 x4_1).f4)) := (blk_cell BK225.out 4).trans rfl
                                    have hfz28_0 := blk_frozen BK225.out 0
                                    have hfz28_1 := blk_frozen BK225.out 1
                                    have hfz28_2 := blk_frozen BK225.out 2
                                    have hfz28_3 := blk_frozen BK225.out 3
                                    have hfz28_4 := blk_frozen BK225.out 4
                                    go_wp2
                                    go_roundg kj18
                                    case measure => have := HK1.out; have := HJ3.out; have := HJ10.out; have := HK4.out; have := HJ18.out; omega
                                    case rel => exact ⟨(x3_18 ++ (⟨#[42]⟩ : ByteArray)), (wrap64 (x4_1 + 1)), (by first | rfl | (simp; done) | (simp [*]; done)), (by first | rfl | (simp; done) | (simp [*]; done)), H', ⟨by have := HK1.out; have := HJ3.out; have := HJ10.out; have := HK4.out; have := HJ18.out; omega⟩, ⟨by repeat (first | (with_reducible first | exact HB.out | apply below_alloc | apply pw_below_drewN | apply below_drew1 | refine below_set ?_ GE225.out) | exact HB.out)⟩⟩
                                · rw [if_neg c24] at H
                                  exact absurd H (by simp)
                              · rw [if_neg c23] at H
                                have c23b0 : ((rd_T49 l0 x4_1).f3) = false := by simpa using c23
                                clear c23
                                by_cases c29 : ((rd_T49 l0 x4_1).f4) = true
                                · rw [if_pos c29] at H
                                  have c29b0 : ((rd_T49 l0 x4_1).f4) = true := c29
                                  clear c29
                                  by_cases c30 : x3_18.size + 1 ≤ 9223372036854775807
                                  · rw [if_pos c30] at H
                                    have c30b0 := eq_true c30
                                    have c30b1 : decide (x3_18.size + 1 ≤ 9223372036854775807) = true := decide_eq_true c30
                                    try have c30b2 : (9223372036854775807 < x3_18.size + 1) = False := eq_false (Nat.not_lt.2 c30)
                                    have H' := Aside0.mk H
                                    clear H
                                    have hcz31_0 : wc.cell? ⟨gb225, 0, none⟩ = some (.string ((rd_T49 l0 x4_1).f0)) := (blk_cell BK225.out 0).trans rfl
                                    have hcz31_1 : wc.cell? ⟨gb225, 1, none⟩ = some (.int .i64 ((rd_T49 l0 x4_1).f1)) := (blk_cell BK225.out 1).trans rfl
                                    have hcz31_2 : wc.cell? ⟨gb225, 2, none⟩ = some (.bool ((rd_T49 l0 x4_1).f2)) := (blk_cell BK225.out 2).trans rfl
                                    have hcz31_3 : wc.cell? ⟨gb225, 3, none⟩ = some (.bool ((rd_T49 l0 x4_1).f3)) := (blk_cell BK225.out 3).trans rfl
                                    have hcz31_4 : wc.cell? ⟨gb225, 4, none⟩ = some (.bool ((rd_T49 l0 x4_1).f4)) := (blk_cell BK225.out 4).trans rfl
                                    have hfz31_0 := blk_frozen BK225.out 0
                                    have hfz31_1 := blk_frozen BK225.out 1
                                    have hfz31_2 := blk_frozen BK225.out 2
                                    have hfz31_3 := blk_frozen BK225.out 3
                                    have hfz31_4 := blk_frozen BK225.out 4
                                    go_wp2
                                    go_roundg kj18
                                    case measure => have := HK1.out; have := HJ3.out; have := HJ10.out; have := HK4.out; have := HJ18.out; omega
                                    case rel => exact ⟨(x3_18 ++ (⟨#[43]⟩ : ByteArray)), (wrap64 (x4_1 + 1)), (by first | rfl | (simp; done) | (simp [*]; done)), (by first | rfl | (simp; done) | (simp [*]; done)), H', ⟨by have := HK1.out; have := HJ3.out; have := HJ10.out; have := HK4.out; have := HJ18.out; omega⟩, ⟨by repeat (first | (with_reducible first | exact HB.out | apply below_alloc | apply pw_below_drewN | apply below_drew1 | refine below_set ?_ GE225.out) | exact HB.out)⟩⟩
                                  · rw [if_neg c30] at H
                                    exact absurd H (by simp)
                                · rw [if_neg c29] at H
                                  have c29b0 : ((rd_T49 l0 x4_1).f4) = false := by simpa using c29
                                  clear c29
                                  have H' := Aside0.mk H
                                  clear H
                                  have hcz32_0 : wc.cell? ⟨gb225, 0, none⟩ = some (.string ((rd_T49 l0 x4_1).f0)) := (blk_cell BK225.out 0).trans rfl
                                  have hcz32_1 : wc.cell? ⟨gb225, 1, none⟩ = some (.int .i64 ((rd_T49 l0 x4_1).f1)) := (blk_cell BK225.out 1).trans rfl
                                  have hcz32_2 : wc.cell? ⟨gb225, 2, none⟩ = some (.bool ((rd_T49 l0 x4_1).f2)) := (blk_cell BK225.out 2).trans rfl
                                  have hcz32_3 : wc.cell? ⟨gb225, 3, none⟩ = some (.bool ((rd_T49 l0 x4_1).f3)) := (blk_cell BK225.out 3).trans rfl
                                  have hcz32_4 : wc.cell? ⟨gb225, 4, none⟩ = some (.bool ((rd_T49 l0 x4_1).f4)) := (blk_cell BK225.out 4).trans rfl
                                  have hfz32_0 := blk_frozen BK225.out 0
                                  have hfz32_1 := blk_frozen BK225.out 1
                                  have hfz32_2 := blk_frozen BK225.out 2
                                  have hfz32_3 := blk_frozen BK225.out 3
                                  have hfz32_4 := blk_frozen BK225.out 4
                                  go_wp2
                                  go_roundg kj18
                                  case measure => have := HK1.out; have := HJ3.out; have := HJ10.out; have := HK4.out; have := HJ18.out; omega
                                  case rel => exact ⟨(x3_18), (wrap64 (x4_1 + 1)), (by first | rfl | (simp; done) | (simp [*]; done)), (by first | rfl | (simp; done) | (simp [*]; done)), H', ⟨by have := HK1.out; have := HJ3.out; have := HJ10.out; have := HK4.out; have := HJ18.out; omega⟩, ⟨by repeat (first | (with_reducible first | exact HB.out | apply below_alloc | apply pw_below_drewN | apply below_drew1 | refine below_set ?_ GE225.out) | exact HB.out)⟩⟩
                  · rw [if_neg c14] at H
                    exact absurd H (by simp)
        · rw [if_neg c3] at H
          exact absurd H (by simp)
      · rw [if_neg c2] at H
        have c2b0 : decide (x4_1 < (l0.length : Int)) = false := decide_eq_false c2
        clear c2
        obtain rfl := Option.some.inj H
        go_wp2
        go_ret
        exact ⟨by first | rfl | (simp [errW_none, errW_some] <;> rfl) | (simp [*, errW_none, errW_some] <;> rfl), by repeat (first | (with_reducible first | exact HB.out | apply below_alloc | apply pw_below_drewN | apply below_drew1) | exact HB.out)⟩

-- NOT PRINTED: function 6 (salchowlaw19_NotationBlanks)

end Go.Proofs.Ythaglbgembfpeaa.P
