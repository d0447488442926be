/- Each Go function as a plain Lean function, and the proof that its call comes to what that function says: made by a program of this session over the kit's print. -/
import Derived.Test.YthaglbgembfpeaaP0
import Derived.Test.YthaglbgembfpeaaP5
namespace Go.Proofs.Ythaglbgembfpeaa.P
open Go.RowKit Go.Proofs.YthaglbgembfpeaaW.PrintWords Go.Proofs.YthaglbgembfpeaaW.PrintLast Go.Proofs.YthaglbgembfpeaaW.PrintMore
attribute [local go_sem] max2_int min2_int max_two min_two max_three min_three max_four min_four   -- for this text's walks alone
set_option linter.unusedVariables false
set_option linter.unusedSimpArgs false

/-! ### salchowref19_shapes: function 29 -/
mutual
def salchowref19_shapes.l0 : Nat → List (S49) → Int → Option (Int)
  | 0, _, _ => none
  | k + 1, x0, x3 => if x3 < (x0.length : Int) then (if 0 ≤ x3 then ((salchowref04_Code.f k ((rd_T49 x0 x3).f0)).bind fun t219 => (if t219 = true then (salchowref19_shapes.l0 k x0 (wrap64 (x3 + 1))) else (some 3))) else (none)) else (salchowref19_shapes.l1 k x0 0)
def salchowref19_shapes.l1 : Nat → List (S49) → Int → Option (Int)
  | 0, _, _ => none
  | k + 1, x0, x4 => if x4 < (x0.length : Int) then (if 0 ≤ x4 then (if ((rd_T49 x0 x4).f1) < 0 then (some 5) else (if ((rd_T49 x0 x4).f1) > 9 then (some 5) else (salchowref19_shapes.l1 k x0 (wrap64 (x4 + 1))))) else (none)) else (some 0)
end
def salchowref19_shapes.f (k : Nat) (l0 : List (S49)) : Option (Int) := if (l0.length : Int) > 30 then (some 6) else (salchowref19_shapes.l0 k l0 0)
theorem salchowref19_shapes.mono_l : ∀ k, (∀ y0 y1, LeO (salchowref19_shapes.l0 k y0 y1) (salchowref19_shapes.l0 (k + 1) y0 y1)) ∧ (∀ y0 y1, LeO (salchowref19_shapes.l1 k y0 y1) (salchowref19_shapes.l1 (k + 1) y0 y1))
  | 0 => ⟨fun _ _ r h => by simp [salchowref19_shapes.l0] at h, fun _ _ r h => by simp [salchowref19_shapes.l1] at h⟩
  | k + 1 => by
    obtain ⟨ih0, ih1⟩ := salchowref19_shapes.mono_l k
    refine ⟨?_, ?_⟩
    · intro y0 y1
      unfold salchowref19_shapes.l0
      repeat' first
      | (with_reducible exact ih0 _ _)
      | (with_reducible exact ih1 _ _)
      | (with_reducible exact salchowref04_Code.mono _ _)
      | (with_reducible exact LeO.refl _)
      | (with_reducible exact LeO.none _)
      | (with_reducible refine LeO.ite ?_ ?_)
      | (with_reducible refine LeO.bind ?_ (fun _ => ?_))
      | exact ih0 _ _
      | exact ih1 _ _
      | exact salchowref04_Code.mono _ _
      | exact LeO.none _
      | refine LeO.ite ?_ ?_
      | refine LeO.bind ?_ (fun _ => ?_)
    · intro y0 y1
      unfold salchowref19_shapes.l1
      repeat' first
      | (with_reducible exact ih0 _ _)
      | (with_reducible exact ih1 _ _)
      | (with_reducible exact salchowref04_Code.mono _ _)
      | (with_reducible exact LeO.refl _)
      | (with_reducible exact LeO.none _)
      | (with_reducible refine LeO.ite ?_ ?_)
      | (with_reducible refine LeO.bind ?_ (fun _ => ?_))
      | exact ih0 _ _
      | exact ih1 _ _
      | exact salchowref04_Code.mono _ _
      | exact LeO.none _
      | refine LeO.ite ?_ ?_
      | refine LeO.bind ?_ (fun _ => ?_)
theorem salchowref19_shapes.mono : ∀ a0 k, LeO (salchowref19_shapes.f k a0) (salchowref19_shapes.f (k + 1) a0) := by
  intro a0 k
  obtain ⟨ih0, ih1⟩ := salchowref19_shapes.mono_l k
  unfold salchowref19_shapes.f
  repeat' first
      | (with_reducible exact ih0 _ _)
      | (with_reducible exact ih1 _ _)
      | (with_reducible exact salchowref04_Code.mono _ _)
      | (with_reducible exact LeO.refl _)
      | (with_reducible exact LeO.none _)
      | (with_reducible refine LeO.ite ?_ ?_)
      | (with_reducible refine LeO.bind ?_ (fun _ => ?_))
      | exact ih0 _ _
      | exact ih1 _ _
      | exact salchowref04_Code.mono _ _
      | exact LeO.none _
      | refine LeO.ite ?_ ?_
      | refine LeO.bind ?_ (fun _ => ?_)
set_option maxHeartbeats 8000000 in
set_option maxRecDepth 100000 in
theorem salchowref19_shapes.calls (k : Nat) (A0 : Option Addr) (c0 : Nat) (l0 : List (S49)) (r : Int) (w : World) (hr0 : Kd.C k49 w A0 l0.length l0) (hc0 : l0.length ≤ c0) (h : salchowref19_shapes.f k l0 = some r) :
    Calls Try.prog 29 #[.slice A0 l0.length c0] w fun e w' => e = .returned (.int .i64 r) ∧ Drawn0 w w' := by
  have HR0 := Aside0.mk hr0
  have HC0 := Aside0.mk hc0
  clear hr0 hc0
  have H : (if (l0.length : Int) > 30 then (some 6) else (salchowref19_shapes.l0 k l0 0)) = some r := h
  clear h
  by_cases c2 : (l0.length : Int) > 30
  · rw [if_pos c2] at H
    have c2b0 : decide (30 < (l0.length : Int)) = true := decide_eq_true c2
    have c2b1 : decide (30 < l0.length) = true := decide_eq_true (by omega)
    clear c2
    obtain rfl := Option.some.inj H
    go_enter Try.func29, Try.ntmps29
    go_wp2
    go_ret
    exact ⟨by first | rfl | (simp; done) | (simp [*]; done), by repeat (first | exact Drawn0.refl _ | apply Drawn0.step)⟩
  · rw [if_neg c2] at H
    have c2b0 : decide (30 < (l0.length : Int)) = false := decide_eq_false c2
    have c2b1 : decide (30 < l0.length) = false := decide_eq_false (by omega)
    clear c2
    have H' := Aside0.mk H
    clear H
    go_enter Try.func29, Try.ntmps29
    go_wp2
    go_loopg [3] k (fun kq v3 w' => ∃ (x3_1 : Int), v3 = .int .i64 x3_1 ∧ Aside0 (salchowref19_shapes.l0 kq l0 x3_1 = some r) ∧ Aside0 (kq ≤ k) ∧ Drawn0 w w')
    case atStart => exact ⟨(0), (by first | rfl | (simp; done) | (simp [*]; done)), H', ⟨Nat.le_refl _⟩, by repeat (first | exact Drawn0.refl _ | apply Drawn0.step)⟩
    case round =>
      clear H'
      try clear c2
      try clear c2b0
      try clear c2b1
      try clear p2
      obtain ⟨x3_1, rfl, HA, HK1, ⟨m1, rfl⟩⟩ := hrel
      cases gk with
      | zero => exact absurd HA.out (by simp [salchowref19_shapes.l0])
      | succ k1 =>
        have H := HA.out
        clear HA
        simp only [salchowref19_shapes.l0] at H
        by_cases c3 : x3_1 < (l0.length : Int)
        · rw [if_pos c3] at H
          have c3b0 : decide (x3_1 < (l0.length : Int)) = true := decide_eq_true c3
          clear c3
          by_cases c4 : 0 ≤ x3_1
          · rw [if_pos c4] at H
            have c4b0 : decide (0 ≤ x3_1) = true := decide_eq_true c4
            clear c4
            replace H := Option.bind_eq_some_iff.mp H
            obtain ⟨t219, A50, H⟩ := H
            replace H : (if t219 = true then (salchowref19_shapes.l0 k1 l0 (wrap64 (x3_1 + 1))) else (some 3)) = some r := H
            have A5 := Aside0.mk A50
            clear A50
            by_cases c6 : t219 = true
            · subst c6
              have H1 : (salchowref19_shapes.l0 k1 l0 (wrap64 (x3_1 + 1))) = some r := by rw [if_pos rfl] at H; exact H
              clear H
              have H := H1
              clear H1
              have H' := Aside0.mk H
              clear H
              have p218 : 0 ≤ (x3_1 : Int) := of_decide_eq_true (by first | (with_reducible assumption) | assumption)
              have q218 : x3_1 < (l0.length : Int) := of_decide_eq_true (by first | (with_reducible assumption) | assumption)
              obtain ⟨ad218, e218, hx218_0, hx218_1, hx218_2, hx218_3, hx218_4⟩ := at_T49 HR0.out x3_1 p218 q218
              cases e218
              replace p218 := eq_true p218
              replace q218 := eq_true q218
              go_wp2_with (first | ((with_reducible refine gate_callee (f := 42) rfl ?_); refine goesL_ (some 19) rfl rfl Try.func42 (by kernel_rfl) rfl #[.string ((rd_T49 l0 x3_1).f0)] rfl (by (try simp only [List.map_toArray, List.map_cons, List.map_nil]); first | done | rfl | (simp only [List.length_drop, List.length_take]; rfl)) ?_; (with_reducible refine (salchowref04_Code.calls k1 ((rd_T49 l0 x3_1).f0) true _ A5.out).mono ?_); rintro e w' ⟨rfl, ⟨nd, rfl⟩⟩; refine ⟨_, rfl, ?_⟩))
              go_roundg k1
              case measure => have := HK1.out; omega
              case rel => exact ⟨(wrap64 (x3_1 + 1)), (by first | rfl | (simp; done) | (simp [*]; done)), H', ⟨by have := HK1.out; omega⟩, by repeat (first | exact Drawn0.refl _ | apply Drawn0.step)⟩
            · replace c6 := Bool.eq_false_iff.mpr c6
              subst c6
              have H1 : (some 3) = some r := by rw [if_neg (show ¬ (false = true) by decide)] at H; exact H
              clear H
              have H := H1
              clear H1
              obtain rfl := Option.some.inj H
              have p218 : 0 ≤ (x3_1 : Int) := of_decide_eq_true (by first | (with_reducible assumption) | assumption)
              have q218 : x3_1 < (l0.length : Int) := of_decide_eq_true (by first | (with_reducible assumption) | assumption)
              obtain ⟨ad218, e218, hx218_0, hx218_1, hx218_2, hx218_3, hx218_4⟩ := at_T49 HR0.out x3_1 p218 q218
              cases e218
              replace p218 := eq_true p218
              replace q218 := eq_true q218
              go_wp2_with (first | ((with_reducible refine gate_callee (f := 42) rfl ?_); refine goesL_ (some 19) rfl rfl Try.func42 (by kernel_rfl) rfl #[.string ((rd_T49 l0 x3_1).f0)] rfl (by (try simp only [List.map_toArray, List.map_cons, List.map_nil]); first | done | rfl | (simp only [List.length_drop, List.length_take]; rfl)) ?_; (with_reducible refine (salchowref04_Code.calls k1 ((rd_T49 l0 x3_1).f0) false _ A5.out).mono ?_); rintro e w' ⟨rfl, ⟨nd, rfl⟩⟩; refine ⟨_, rfl, ?_⟩))
              go_ret
              exact ⟨by first | rfl | (simp; done) | (simp [*]; done), by repeat (first | exact Drawn0.refl _ | apply Drawn0.step)⟩
          · rw [if_neg c4] at H
            exact absurd H (by simp)
        · rw [if_neg c3] at H
          have c3b0 : decide (x3_1 < (l0.length : Int)) = false := decide_eq_false c3
          clear c3
          have H' := Aside0.mk H
          clear H
          go_wp2
          go_loopg [4] k1 (fun kq v4 w' => ∃ (x4_2 : Int), v4 = .int .i64 x4_2 ∧ Aside0 (salchowref19_shapes.l1 kq l0 x4_2 = some r) ∧ Aside0 (kq ≤ k1) ∧ Drawn0 w w')
          case atStart => exact ⟨(0), (by first | rfl | (simp; done) | (simp [*]; done)), H', ⟨Nat.le_refl _⟩, by repeat (first | exact Drawn0.refl _ | apply Drawn0.step)⟩
          case round =>
            clear H'
            try clear c2
            try clear c2b0
            try clear c2b1
            try clear p2
            try clear q2
            try clear hx2
            try clear c3
            try clear c3b0
            try clear c4
            try clear c4b0
            try clear c6
            try clear p6
            try clear hx218_0
            try clear hx218_1
            try clear hx218_2
            try clear hx218_3
            try clear hx218_4
            try clear p2
            try clear p218
            try clear q218
            obtain ⟨x4_2, rfl, HA, HK2, ⟨m2, rfl⟩⟩ := hrel
            cases gk with
            | zero => exact absurd HA.out (by simp [salchowref19_shapes.l1])
            | succ k2 =>
              have H := HA.out
              clear HA
              simp only [salchowref19_shapes.l1] at H
              by_cases c7 : x4_2 < (l0.length : Int)
              · rw [if_pos c7] at H
                have c7b0 : decide (x4_2 < (l0.length : Int)) = true := decide_eq_true c7
                clear c7
                by_cases c8 : 0 ≤ x4_2
                · rw [if_pos c8] at H
                  have c8b0 : decide (0 ≤ x4_2) = true := decide_eq_true c8
                  clear c8
                  by_cases c9 : ((rd_T49 l0 x4_2).f1) < 0
                  · rw [if_pos c9] at H
                    have c9b0 : decide (((rd_T49 l0 x4_2).f1) < 0) = true := decide_eq_true c9
                    clear c9
                    obtain rfl := Option.some.inj H
                    have p220 : 0 ≤ (x4_2 : Int) := of_decide_eq_true (by first | (with_reducible assumption) | assumption)
                    have q220 : x4_2 < (l0.length : Int) := of_decide_eq_true (by first | (with_reducible assumption) | assumption)
                    obtain ⟨ad220, e220, hx220_0, hx220_1, hx220_2, hx220_3, hx220_4⟩ := at_T49 HR0.out x4_2 p220 q220
                    cases e220
                    replace p220 := eq_true p220
                    replace q220 := eq_true q220
                    go_wp2
                    go_ret
                    exact ⟨by first | rfl | (simp; done) | (simp [*]; done), by repeat (first | exact Drawn0.refl _ | apply Drawn0.step)⟩
                  · rw [if_neg c9] at H
                    have c9b0 : decide (((rd_T49 l0 x4_2).f1) < 0) = false := decide_eq_false c9
                    clear c9
                    by_cases c10 : ((rd_T49 l0 x4_2).f1) > 9
                    · rw [if_pos c10] at H
                      have c10b0 : decide (9 < ((rd_T49 l0 x4_2).f1)) = true := decide_eq_true c10
                      clear c10
                      obtain rfl := Option.some.inj H
                      have p220 : 0 ≤ (x4_2 : Int) := of_decide_eq_true (by first | (with_reducible assumption) | assumption)
                      have q220 : x4_2 < (l0.length : Int) := of_decide_eq_true (by first | (with_reducible assumption) | assumption)
                      obtain ⟨ad220, e220, hx220_0, hx220_1, hx220_2, hx220_3, hx220_4⟩ := at_T49 HR0.out x4_2 p220 q220
                      cases e220
                      replace p220 := eq_true p220
                      replace q220 := eq_true q220
                      have p221 : 0 ≤ (x4_2 : Int) := of_decide_eq_true (by first | (with_reducible assumption) | assumption)
                      have q221 : x4_2 < (l0.length : Int) := of_decide_eq_true (by first | (with_reducible assumption) | assumption)
                      obtain ⟨ad221, e221, hx221_0, hx221_1, hx221_2, hx221_3, hx221_4⟩ := at_T49 HR0.out x4_2 p221 q221
                      obtain rfl : ad220 = ad221 := (by injection e221)
                      replace p221 := eq_true p221
                      replace q221 := eq_true q221
                      go_wp2
                      go_ret
                      exact ⟨by first | rfl | (simp; done) | (simp [*]; done), by repeat (first | exact Drawn0.refl _ | apply Drawn0.step)⟩
                    · rw [if_neg c10] at H
                      have c10b0 : decide (9 < ((rd_T49 l0 x4_2).f1)) = false := decide_eq_false c10
                      clear c10
                      have H' := Aside0.mk H
                      clear H
                      have p220 : 0 ≤ (x4_2 : Int) := of_decide_eq_true (by first | (with_reducible assumption) | assumption)
                      have q220 : x4_2 < (l0.length : Int) := of_decide_eq_true (by first | (with_reducible assumption) | assumption)
                      obtain ⟨ad220, e220, hx220_0, hx220_1, hx220_2, hx220_3, hx220_4⟩ := at_T49 HR0.out x4_2 p220 q220
                      cases e220
                      replace p220 := eq_true p220
                      replace q220 := eq_true q220
                      have p221 : 0 ≤ (x4_2 : Int) := of_decide_eq_true (by first | (with_reducible assumption) | assumption)
                      have q221 : x4_2 < (l0.length : Int) := of_decide_eq_true (by first | (with_reducible assumption) | assumption)
                      obtain ⟨ad221, e221, hx221_0, hx221_1, hx221_2, hx221_3, hx221_4⟩ := at_T49 HR0.out x4_2 p221 q221
                      obtain rfl : ad220 = ad221 := (by injection e221)
                      replace p221 := eq_true p221
                      replace q221 := eq_true q221
                      go_wp2
                      go_roundg k2
                      case measure => have := HK1.out; have := HK2.out; omega
                      case rel => exact ⟨(wrap64 (x4_2 + 1)), (by first | rfl | (simp; done) | (simp [*]; done)), H', ⟨by have := HK1.out; have := HK2.out; omega⟩, by repeat (first | exact Drawn0.refl _ | apply Drawn0.step)⟩
                · rw [if_neg c8] at H
                  exact absurd H (by simp)
              · rw [if_neg c7] at H
                have c7b0 : decide (x4_2 < (l0.length : Int)) = false := decide_eq_false c7
                clear c7
                obtain rfl := Option.some.inj H
                go_wp2
                go_ret
                exact ⟨by first | rfl | (simp; done) | (simp [*]; done), by repeat (first | exact Drawn0.refl _ | apply Drawn0.step)⟩

/-! ### salchowref19_Check: function 15 -/
def salchowref19_Check.f (k : Nat) (l0 : List (S49)) : Option (Int) := (salchowref19_shapes.f k l0).bind fun t222 => (if t222 = 0 then (if (l0.length : Int) > 0 then (if 0 ≤ (wrap64 ((l0.length : Int) - 1)) then (if (wrap64 ((l0.length : Int) - 1)) < (l0.length : Int) then (if (rd_T49 l0 (wrap64 ((l0.length : Int) - 1))).f4 = true then (some 15) else (some 0)) else (none)) else (none)) else (some 0)) else (some t222))
theorem salchowref19_Check.mono : ∀ a0 k, LeO (salchowref19_Check.f k a0) (salchowref19_Check.f (k + 1) a0) := by
  intro a0 k
  unfold salchowref19_Check.f
  repeat' first
      | (with_reducible exact salchowref19_shapes.mono _ _)
      | (with_reducible exact LeO.refl _)
      | (with_reducible exact LeO.none _)
      | (with_reducible refine LeO.ite ?_ ?_)
      | (with_reducible refine LeO.bind ?_ (fun _ => ?_))
      | exact salchowref19_shapes.mono _ _
      | exact LeO.none _
      | refine LeO.ite ?_ ?_
      | refine LeO.bind ?_ (fun _ => ?_)
set_option maxHeartbeats 8000000 in
set_option maxRecDepth 100000 in
theorem salchowref19_Check.calls (k : Nat) (A0 : Option Addr) (c0 : Nat) (l0 : List (S49)) (r : Int) (w : World) (hr0 : Kd.C k49 w A0 l0.length l0) (hc0 : l0.length ≤ c0) (h : salchowref19_Check.f k l0 = some r) :
    Calls Try.prog 15 #[.slice A0 l0.length c0] w fun e w' => e = .returned (.int .i64 r) ∧ Drawn0 w w' := by
  have HR0 := Aside0.mk hr0
  have HC0 := Aside0.mk hc0
  clear hr0 hc0
  have H : ((salchowref19_shapes.f k l0).bind fun t222 => (if t222 = 0 then (if (l0.length : Int) > 0 then (if 0 ≤ (wrap64 ((l0.length : Int) - 1)) then (if (wrap64 ((l0.length : Int) - 1)) < (l0.length : Int) then (if (rd_T49 l0 (wrap64 ((l0.length : Int) - 1))).f4 = true then (some 15) else (some 0)) else (none)) else (none)) else (some 0)) else (some t222))) = some r := h
  clear h
  replace H := Option.bind_eq_some_iff.mp H
  obtain ⟨t222, A20, H⟩ := H
  replace H : (if t222 = 0 then (if (l0.length : Int) > 0 then (if 0 ≤ (wrap64 ((l0.length : Int) - 1)) then (if (wrap64 ((l0.length : Int) - 1)) < (l0.length : Int) then (if (rd_T49 l0 (wrap64 ((l0.length : Int) - 1))).f4 = true then (some 15) else (some 0)) else (none)) else (none)) else (some 0)) else (some t222)) = some r := H
  have A2 := Aside0.mk A20
  clear A20
  by_cases c3 : t222 = 0
  · rw [if_pos c3] at H
    have c3b0 : (t222 == 0) = true := beq_iff_eq.mpr c3
    have c3b1 : (t222 != 0) = false := bne_eq_false_iff_eq.mpr c3
    clear c3
    by_cases c4 : (l0.length : Int) > 0
    · rw [if_pos c4] at H
      have c4b0 : decide (0 < (l0.length : Int)) = true := decide_eq_true c4
      have c4b1 : decide (0 < l0.length) = true := decide_eq_true (by omega)
      clear c4
      obtain ⟨ji5, hji5⟩ : ∃ j_ : Int, (wrap64 ((l0.length : Int) - 1)) = j_ := ⟨_, rfl⟩
      replace H : (if 0 ≤ (ji5) then (if (ji5) < (l0.length : Int) then (if (rd_T49 l0 (ji5)).f4 = true then (some 15) else (some 0)) else (none)) else (none)) = some r := by first | (rw [hji5] at H; exact H) | (simp only [hji5] at H ⊢; exact H)
      (try rw [hji5] at A2)
      have hji5w : (IntKind.i64.wrap ((l0.length : Int) - 1)) = ji5 := (i64_w _).trans hji5
      by_cases c6 : 0 ≤ (ji5)
      · rw [if_pos c6] at H
        have c6b0 : decide (0 ≤ (ji5)) = true := decide_eq_true c6
        clear c6
        by_cases c7 : (ji5) < (l0.length : Int)
        · rw [if_pos c7] at H
          have c7b0 : decide ((ji5) < (l0.length : Int)) = true := decide_eq_true c7
          clear c7
          obtain ⟨bq8, hbq8⟩ : ∃ b_ : Bool, b_ = ((rd_T49 l0 (ji5)).f4) := ⟨_, rfl⟩
          replace H : (if bq8 = true then (some 15) else (some 0)) = some r := by rw [← hbq8] at H; exact H
          have Nbq8 := Aside0.mk hbq8
          clear hbq8
          by_cases c9 : bq8 = true
          · subst c9
            have H1 : (some 15) = some r := by rw [if_pos rfl] at H; exact H
            clear H
            have H := H1
            clear H1
            obtain rfl := Option.some.inj H
            go_enter Try.func15, Try.ntmps15
            go_wp2_with (first | ((with_reducible refine gate_callee (f := 29) rfl ?_); refine goesL_ (some 5) rfl rfl Try.func29 (by kernel_rfl) rfl #[.slice A0 l0.length c0] rfl (by (try simp only [List.map_toArray, List.map_cons, List.map_nil]); first | done | rfl | (simp only [List.length_drop, List.length_take]; rfl)) ?_; (with_reducible refine (salchowref19_shapes.calls k _ _ l0 t222 _ ?side1 ?side2 A2.out).mono ?_); (case side1 => repeat (first | exact HR0.out | (with_reducible refine Kd.C_alloc ?_ _) | (with_reducible refine Kd.C_drewN ?_ _) | (with_reducible refine Kd.C_drew ?_))); (case side2 => exact HC0.out); rintro e w' ⟨rfl, ⟨nd, rfl⟩⟩; refine ⟨_, rfl, ?_⟩; have p223 : 0 ≤ ((ji5) : Int) := of_decide_eq_true (by first | (with_reducible assumption) | assumption); have q223 : (ji5) < (l0.length : Int) := of_decide_eq_true (by first | (with_reducible assumption) | assumption); obtain ⟨ad223, e223, hx223_0, hx223_1, hx223_2, hx223_3, hx223_4⟩ := at_T49 HR0.out (ji5) p223 q223; (try rw [← Nbq8.out] at hx223_2); (try rw [← Nbq8.out] at hx223_3); (try rw [← Nbq8.out] at hx223_4); cases e223; replace p223 := eq_true p223; replace q223 := eq_true q223))
            go_ret
            exact ⟨by first | rfl | (simp; done) | (simp only [← hji5] <;> (first | rfl | simp)) | (simp [*]; done), by repeat (first | exact Drawn0.refl _ | apply Drawn0.step)⟩
          · replace c9 := Bool.eq_false_iff.mpr c9
            subst c9
            have H1 : (some 0) = some r := by rw [if_neg (show ¬ (false = true) by decide)] at H; exact H
            clear H
            have H := H1
            clear H1
            obtain rfl := Option.some.inj H
            go_enter Try.func15, Try.ntmps15
            go_wp2_with (first | ((with_reducible refine gate_callee (f := 29) rfl ?_); refine goesL_ (some 5) rfl rfl Try.func29 (by kernel_rfl) rfl #[.slice A0 l0.length c0] rfl (by (try simp only [List.map_toArray, List.map_cons, List.map_nil]); first | done | rfl | (simp only [List.length_drop, List.length_take]; rfl)) ?_; (with_reducible refine (salchowref19_shapes.calls k _ _ l0 t222 _ ?side1 ?side2 A2.out).mono ?_); (case side1 => repeat (first | exact HR0.out | (with_reducible refine Kd.C_alloc ?_ _) | (with_reducible refine Kd.C_drewN ?_ _) | (with_reducible refine Kd.C_drew ?_))); (case side2 => exact HC0.out); rintro e w' ⟨rfl, ⟨nd, rfl⟩⟩; refine ⟨_, rfl, ?_⟩; have p223 : 0 ≤ ((ji5) : Int) := of_decide_eq_true (by first | (with_reducible assumption) | assumption); have q223 : (ji5) < (l0.length : Int) := of_decide_eq_true (by first | (with_reducible assumption) | assumption); obtain ⟨ad223, e223, hx223_0, hx223_1, hx223_2, hx223_3, hx223_4⟩ := at_T49 HR0.out (ji5) p223 q223; (try rw [← Nbq8.out] at hx223_2); (try rw [← Nbq8.out] at hx223_3); (try rw [← Nbq8.out] at hx223_4); cases e223; replace p223 := eq_true p223; replace q223 := eq_true q223))
            go_ret
            exact ⟨by first | rfl | (simp; done) | (simp only [← hji5] <;> (first | rfl | simp)) | (simp [*]; done), by repeat (first | exact Drawn0.refl _ | apply Drawn0.step)⟩
        · rw [if_neg c7] at H
          exact absurd H (by simp)
      · rw [if_neg c6] at H
        exact absurd H (by simp)
    · rw [if_neg c4] at H
      have c4b0 : decide (0 < (l0.length : Int)) = false := decide_eq_false c4
      have c4b1 : decide (0 < l0.length) = false := decide_eq_false (by omega)
      clear c4
      obtain rfl := Option.some.inj H
      go_enter Try.func15, Try.ntmps15
      go_wp2_with (first | ((with_reducible refine gate_callee (f := 29) rfl ?_); refine goesL_ (some 5) rfl rfl Try.func29 (by kernel_rfl) rfl #[.slice A0 l0.length c0] rfl (by (try simp only [List.map_toArray, List.map_cons, List.map_nil]); first | done | rfl | (simp only [List.length_drop, List.length_take]; rfl)) ?_; (with_reducible refine (salchowref19_shapes.calls k _ _ l0 t222 _ ?side1 ?side2 A2.out).mono ?_); (case side1 => repeat (first | exact HR0.out | (with_reducible refine Kd.C_alloc ?_ _) | (with_reducible refine Kd.C_drewN ?_ _) | (with_reducible refine Kd.C_drew ?_))); (case side2 => exact HC0.out); rintro e w' ⟨rfl, ⟨nd, rfl⟩⟩; refine ⟨_, rfl, ?_⟩))
      go_ret
      exact ⟨by first | rfl | (simp; done) | (simp [*]; done), by repeat (first | exact Drawn0.refl _ | apply Drawn0.step)⟩
  · rw [if_neg c3] at H
    have c3b0 : (t222 == 0) = false := beq_eq_false_iff_ne.mpr c3
    have c3b1 : (t222 != 0) = true := bne_iff_ne.mpr c3
    obtain rfl := Option.some.inj H
    go_enter Try.func15, Try.ntmps15
    go_wp2_with (first | ((with_reducible refine gate_callee (f := 29) rfl ?_); refine goesL_ (some 5) rfl rfl Try.func29 (by kernel_rfl) rfl #[.slice A0 l0.length c0] rfl (by (try simp only [List.map_toArray, List.map_cons, List.map_nil]); first | done | rfl | (simp only [List.length_drop, List.length_take]; rfl)) ?_; (with_reducible refine (salchowref19_shapes.calls k _ _ l0 t222 _ ?side1 ?side2 A2.out).mono ?_); (case side1 => repeat (first | exact HR0.out | (with_reducible refine Kd.C_alloc ?_ _) | (with_reducible refine Kd.C_drewN ?_ _) | (with_reducible refine Kd.C_drew ?_))); (case side2 => exact HC0.out); rintro e w' ⟨rfl, ⟨nd, rfl⟩⟩; refine ⟨_, rfl, ?_⟩))
    go_ret
    exact ⟨by first | rfl | (simp; done) | (simp [*]; done), by repeat (first | exact Drawn0.refl _ | apply Drawn0.step)⟩

end Go.Proofs.Ythaglbgembfpeaa.P
