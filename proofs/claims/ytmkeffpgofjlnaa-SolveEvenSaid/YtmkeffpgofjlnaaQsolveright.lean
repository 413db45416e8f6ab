/- The contract of solve_right. (The kit's print tool wrote these lines; they are laid out in texts of this claim's own.) -/
import Derived.Test.YtmkeffpgofjlnaaQ0
import Derived.Test.YtmkeffpgofjlnaaQcurveSound
namespace Go.Proofs.Ytmkeffpgofjlnaa.Q
open Go.RowKit Go.Proofs.YtmkeffpgofjlnaaW.PrintWords Go.Proofs.YtmkeffpgofjlnaaW.PrintLast Go.Proofs.YtmkeffpgofjlnaaW.PrintMore
attribute [local go_sem] max2_int min2_int max_two min_two max_three min_three max_four min_four   -- for this text's walks alone
set_option linter.unusedVariables false
set_option linter.unusedSimpArgs false

/-! ### solve_right: function 20 -/
mutual
def solve_right.j0 : Nat → Int → List Int → List (List Int) → Bool → Option (Int × Int)
  | 0, _, _, _, _ => none
  | k + 1, x0, x1, x2, x34 => if x34 = true then (some (0, 1)) else (solve_right.l0 k x0 x2 x0 x1 (x1.length : Int) 0)
def solve_right.l0 : Nat → Int → List (List Int) → Int → List Int → Int → Int → Option (Int × Int)
  | 0, _, _, _, _, _, _ => none
  | k + 1, x0, x2, x6, x36, x37, x38 => if x38 < x37 then (if 0 ≤ x38 then (if x38 < (x36.length : Int) then (if (rd x36 x38) < 0 then (some (0, 1)) else (if (rd x36 x38) > x0 then (some (0, 1)) else (solve_right.l0 k x0 x2 (wrap64 (x6 - (rd x36 x38))) x36 x37 (wrap64 (x38 + 1))))) else (none)) else (none)) else (solve_right.l1 k x6 x2 (x2.length : Int) 0)
def solve_right.l1 : Nat → Int → List (List Int) → Int → Int → Option (Int × Int)
  | 0, _, _, _, _ => none
  | k + 1, x6, x53, x54, x55 => if x55 < x54 then (if 0 ≤ x55 then (if x55 < (x53.length : Int) then ((curve_Sound.f k (rd_L1 x53 x55)).bind fun t104 => (if t104 = true then (solve_right.l1 k x6 x53 x54 (wrap64 (x55 + 1))) else (some (0, 2)))) else (none)) else (none)) else (if x6 < 0 then (some (0, 6)) else (some (x6, 0)))
end
def solve_right.f (k : Nat) (a0 : Int) (l1 : List Int) (l2 : List (List Int)) : Option (Int × Int) := if a0 < 0 then (solve_right.j0 k a0 l1 l2 true) else (if a0 > 512 then (solve_right.j0 k a0 l1 l2 true) else (if (l2.length : Int) = 0 then (solve_right.j0 k a0 l1 l2 true) else (if (l2.length : Int) > 16 then (solve_right.j0 k a0 l1 l2 true) else (solve_right.j0 k a0 l1 l2 ((l1.length : Int) != (l2.length : Int))))))
theorem solve_right.mono_l : ∀ k, (∀ y0 y1 y2 y3, LeO (solve_right.j0 k y0 y1 y2 y3) (solve_right.j0 (k + 1) y0 y1 y2 y3)) ∧ (∀ y0 y1 y2 y3 y4 y5, LeO (solve_right.l0 k y0 y1 y2 y3 y4 y5) (solve_right.l0 (k + 1) y0 y1 y2 y3 y4 y5)) ∧ (∀ y0 y1 y2 y3, LeO (solve_right.l1 k y0 y1 y2 y3) (solve_right.l1 (k + 1) y0 y1 y2 y3))
  | 0 => ⟨fun _ _ _ _ r h => by simp [solve_right.j0] at h, fun _ _ _ _ _ _ r h => by simp [solve_right.l0] at h, fun _ _ _ _ r h => by simp [solve_right.l1] at h⟩
  | k + 1 => by
    obtain ⟨ih0, ih1, ih2⟩ := solve_right.mono_l k
    refine ⟨?_, ?_, ?_⟩
    · intro y0 y1 y2 y3
      unfold solve_right.j0
      repeat' first
      | (with_reducible exact ih0 _ _ _ _)
      | (with_reducible exact ih1 _ _ _ _ _ _)
      | (with_reducible exact ih2 _ _ _ _)
      | (with_reducible exact curve_Sound.mono _ _)
      | (with_reducible exact LeO.refl _)
      | (with_reducible exact LeO.none _)
      | (with_reducible refine LeO.ite ?_ ?_)
      | (with_reducible refine LeO.bind ?_ (fun _ => ?_))
      | exact ih0 _ _ _ _
      | exact ih1 _ _ _ _ _ _
      | exact ih2 _ _ _ _
      | exact curve_Sound.mono _ _
      | exact LeO.none _
      | refine LeO.ite ?_ ?_
      | refine LeO.bind ?_ (fun _ => ?_)
    · intro y0 y1 y2 y3 y4 y5
      unfold solve_right.l0
      repeat' first
      | (with_reducible exact ih0 _ _ _ _)
      | (with_reducible exact ih1 _ _ _ _ _ _)
      | (with_reducible exact ih2 _ _ _ _)
      | (with_reducible exact curve_Sound.mono _ _)
      | (with_reducible exact LeO.refl _)
      | (with_reducible exact LeO.none _)
      | (with_reducible refine LeO.ite ?_ ?_)
      | (with_reducible refine LeO.bind ?_ (fun _ => ?_))
      | exact ih0 _ _ _ _
      | exact ih1 _ _ _ _ _ _
      | exact ih2 _ _ _ _
      | exact curve_Sound.mono _ _
      | exact LeO.none _
      | refine LeO.ite ?_ ?_
      | refine LeO.bind ?_ (fun _ => ?_)
    · intro y0 y1 y2 y3
      unfold solve_right.l1
      repeat' first
      | (with_reducible exact ih0 _ _ _ _)
      | (with_reducible exact ih1 _ _ _ _ _ _)
      | (with_reducible exact ih2 _ _ _ _)
      | (with_reducible exact curve_Sound.mono _ _)
      | (with_reducible exact LeO.refl _)
      | (with_reducible exact LeO.none _)
      | (with_reducible refine LeO.ite ?_ ?_)
      | (with_reducible refine LeO.bind ?_ (fun _ => ?_))
      | exact ih0 _ _ _ _
      | exact ih1 _ _ _ _ _ _
      | exact ih2 _ _ _ _
      | exact curve_Sound.mono _ _
      | exact LeO.none _
      | refine LeO.ite ?_ ?_
      | refine LeO.bind ?_ (fun _ => ?_)
theorem solve_right.mono : ∀ a0 a1 a2 k, LeO (solve_right.f k a0 a1 a2) (solve_right.f (k + 1) a0 a1 a2) := by
  intro a0 a1 a2 k
  obtain ⟨ih0, ih1, ih2⟩ := solve_right.mono_l k
  unfold solve_right.f
  repeat' first
      | (with_reducible exact ih0 _ _ _ _)
      | (with_reducible exact ih1 _ _ _ _ _ _)
      | (with_reducible exact ih2 _ _ _ _)
      | (with_reducible exact curve_Sound.mono _ _)
      | (with_reducible exact LeO.refl _)
      | (with_reducible exact LeO.none _)
      | (with_reducible refine LeO.ite ?_ ?_)
      | (with_reducible refine LeO.bind ?_ (fun _ => ?_))
      | exact ih0 _ _ _ _
      | exact ih1 _ _ _ _ _ _
      | exact ih2 _ _ _ _
      | exact curve_Sound.mono _ _
      | exact LeO.none _
      | refine LeO.ite ?_ ?_
      | refine LeO.bind ?_ (fun _ => ?_)
set_option maxHeartbeats 8000000 in
set_option maxRecDepth 100000 in
theorem solve_right.calls (k : Nat) (a0 : Int) (A1 : Option Addr) (c1 : Nat) (l1 : List Int) (A2 : Option Addr) (c2 : Nat) (l2 : List (List Int)) (r1 : Int) (r2 : Int) (w : World) (hr1 : Kd.C (Kd.int .i64) w A1 l1.length l1) (hc1 : l1.length ≤ c1) (hr2 : Kd.C (Kd.slice 3 (Kd.int .i64)) w A2 l2.length l2) (hc2 : l2.length ≤ c2) (h : solve_right.f k a0 l1 l2 = some (r1, r2)) :
    Calls Try.prog 20 #[.int .i64 a0, .slice A1 l1.length c1, .slice A2 l2.length c2] w fun e w' => e = .returned (.tuple #[.int .i64 r1, .int .i64 r2]) ∧ Drawn0 w w' := by
  have HR1 := Aside0.mk hr1
  have HC1 := Aside0.mk hc1
  clear hr1 hc1
  have HR2 := Aside0.mk hr2
  have HC2 := Aside0.mk hc2
  clear hr2 hc2
  have H : (if a0 < 0 then (solve_right.j0 k a0 l1 l2 true) else (if a0 > 512 then (solve_right.j0 k a0 l1 l2 true) else (if (l2.length : Int) = 0 then (solve_right.j0 k a0 l1 l2 true) else (if (l2.length : Int) > 16 then (solve_right.j0 k a0 l1 l2 true) else (solve_right.j0 k a0 l1 l2 ((l1.length : Int) != (l2.length : Int))))))) = some (r1, r2) := h
  clear h
  have HC4 := Aside0.mk H
  clear H
  go_enter Try.func20, Try.ntmps20
  go_upto_region 1 with (fail)
  go_cut [34] (fun v34 wc => ∃ (kq : Nat) (x34_3 : Bool), v34 = .bool x34_3 ∧ Aside0 (solve_right.j0 kq a0 l1 l2 x34_3 = some (r1, r2)) ∧ Aside0 (kq ≤ k) ∧ Drawn0 w wc)
  case first =>
    have H := HC4.out
    clear HC4
    by_cases c5 : a0 < 0
    · rw [if_pos c5] at H
      have c5b0 : decide (a0 < 0) = true := decide_eq_true c5
      clear c5
      (first | rw [c5b0] | (simp only [i64_w, i32_w]; rw [c5b0]) | skip)
      have H' := Aside0.mk H
      clear H
      go_wp2
      go_meet
      case rel => exact ⟨_, (true), (by first | rfl | (simp; done) | (simp [*]; done)), H', ⟨by first | omega | exact Nat.le_refl _⟩, by repeat (first | exact Drawn0.refl _ | apply Drawn0.step)⟩
    · rw [if_neg c5] at H
      have c5b0 : decide (a0 < 0) = false := decide_eq_false c5
      clear c5
      (first | rw [c5b0] | (simp only [i64_w, i32_w]; rw [c5b0]) | skip)
      by_cases c6 : a0 > 512
      · rw [if_pos c6] at H
        have c6b0 : decide (512 < a0) = true := decide_eq_true c6
        clear c6
        have H' := Aside0.mk H
        clear H
        go_wp2
        go_meet
        case rel => exact ⟨_, (true), (by first | rfl | (simp; done) | (simp [*]; done)), H', ⟨by first | omega | exact Nat.le_refl _⟩, by repeat (first | exact Drawn0.refl _ | apply Drawn0.step)⟩
      · rw [if_neg c6] at H
        have c6b0 : decide (512 < a0) = false := decide_eq_false c6
        clear c6
        by_cases c7 : (l2.length : Int) = 0
        · rw [if_pos c7] at H
          have c7b0 : ((l2.length : Int) == 0) = true := beq_iff_eq.mpr c7
          have c7b1 : ((l2.length : Int) != 0) = false := bne_eq_false_iff_eq.mpr c7
          clear c7
          have H' := Aside0.mk H
          clear H
          go_wp2
          go_meet
          case rel => exact ⟨_, (true), (by first | rfl | (simp; done) | (simp [*]; done)), H', ⟨by first | omega | exact Nat.le_refl _⟩, by repeat (first | exact Drawn0.refl _ | apply Drawn0.step)⟩
        · rw [if_neg c7] at H
          have c7b0 : ((l2.length : Int) == 0) = false := beq_eq_false_iff_ne.mpr c7
          have c7b1 : ((l2.length : Int) != 0) = true := bne_iff_ne.mpr c7
          have c7b2 : ¬ (l2 = []) := fun h_ => c7 (by rw [h_]; rfl)
          by_cases c8 : (l2.length : Int) > 16
          · rw [if_pos c8] at H
            have c8b0 : decide (16 < (l2.length : Int)) = true := decide_eq_true c8
            have c8b1 : decide (16 < l2.length) = true := decide_eq_true (by omega)
            clear c8
            have H' := Aside0.mk H
            clear H
            go_wp2
            go_meet
            case rel => exact ⟨_, (true), (by first | rfl | (simp; done) | (simp [*]; done)), H', ⟨by first | omega | exact Nat.le_refl _⟩, by repeat (first | exact Drawn0.refl _ | apply Drawn0.step)⟩
          · rw [if_neg c8] at H
            have c8b0 : decide (16 < (l2.length : Int)) = false := decide_eq_false c8
            have c8b1 : decide (16 < l2.length) = false := decide_eq_false (by omega)
            clear c8
            have H' := Aside0.mk H
            clear H
            go_wp2
            go_meet
            case rel => exact ⟨_, (((l1.length : Int) != (l2.length : Int))), (by first | rfl | (simp; done) | (simp [*]; done)), H', ⟨by first | omega | exact Nat.le_refl _⟩, by repeat (first | exact Drawn0.refl _ | apply Drawn0.step)⟩
  case rest =>
    clear HC4
    try clear c1
    try clear c2
    try clear p2
    try clear c5
    try clear c5b0
    try clear c6
    try clear c6b0
    try clear c7
    try clear c7b0
    try clear c7b1
    try clear c7b2
    try clear c8
    try clear c8b0
    try clear c8b1
    obtain ⟨kq, x34_3, rfl, HA, HJ3, ⟨mc3, rfl⟩⟩ := hcut
    cases kq with
    | zero => exact absurd HA.out (by simp [solve_right.j0])
    | succ kj3 =>
      have H := HA.out
      clear HA
      simp only [solve_right.j0] at H
      by_cases c9 : x34_3 = true
      · subst c9
        have H1 : (some (0, 1)) = some (r1, r2) := by rw [if_pos rfl] at H; exact H
        clear H
        have H := H1
        clear H1
        simp only [Option.some.injEq, Prod.mk.injEq] at H
        obtain ⟨rfl, rfl⟩ := H
        go_wp2
        go_ret2
        exact ⟨by first | rfl | (simp; done) | (simp [*]; done), by repeat (first | exact Drawn0.refl _ | apply Drawn0.step)⟩
      · replace c9 := Bool.eq_false_iff.mpr c9
        subst c9
        have H1 : (solve_right.l0 kj3 a0 l2 a0 l1 (l1.length : Int) 0) = some (r1, r2) := by rw [if_neg (show ¬ (false = true) by decide)] at H; exact H
        clear H
        have H := H1
        clear H1
        have H' := Aside0.mk H
        clear H
        go_wp2
        go_loopg [6, 38] kj3 (fun kq v6 v38 w' => ∃ (x6_2 : Int) (x38_2 : Int), v6 = .int .i64 x6_2 ∧ v38 = .int .i64 x38_2 ∧ Aside0 (solve_right.l0 kq a0 l2 x6_2 l1 (l1.length : Int) x38_2 = some (r1, r2)) ∧ Aside0 (kq ≤ kj3) ∧ Drawn0 w w')
        case atStart => exact ⟨(a0), (0), (by first | rfl | (simp; done) | (simp [*]; done)), (by first | rfl | (simp; done) | (simp [*]; done)), H', ⟨Nat.le_refl _⟩, by repeat (first | exact Drawn0.refl _ | apply Drawn0.step)⟩
        case round =>
          clear H'
          try clear c1
          try clear c2
          try clear p2
          try clear c3
          try clear c5
          try clear c5b0
          try clear c6
          try clear c6b0
          try clear c7
          try clear c7b0
          try clear c7b1
          try clear c7b2
          try clear c8
          try clear c8b0
          try clear c8b1
          try clear c9
          try clear p2
          obtain ⟨x6_2, x38_2, rfl, rfl, HA, HK2, ⟨m2, rfl⟩⟩ := hrel
          cases gk with
          | zero => exact absurd HA.out (by simp [solve_right.l0])
          | succ k2 =>
            have H := HA.out
            clear HA
            simp only [solve_right.l0] at H
            by_cases c10 : x38_2 < (l1.length : Int)
            · rw [if_pos c10] at H
              have c10b0 : decide (x38_2 < (l1.length : Int)) = true := decide_eq_true c10
              clear c10
              by_cases c11 : 0 ≤ x38_2
              · rw [if_pos c11] at H
                have c11b0 : decide (0 ≤ x38_2) = true := decide_eq_true c11
                clear c11
                by_cases c12 : x38_2 < (l1.length : Int)
                · rw [if_pos c12] at H
                  have c12b0 : decide (x38_2 < (l1.length : Int)) = true := decide_eq_true c12
                  clear c12
                  by_cases c13 : (rd l1 x38_2) < 0
                  · rw [if_pos c13] at H
                    have c13b0 : decide ((rd l1 x38_2) < 0) = true := decide_eq_true c13
                    clear c13
                    simp only [Option.some.injEq, Prod.mk.injEq] at H
                    obtain ⟨rfl, rfl⟩ := H
                    have p102 : 0 ≤ (x38_2 : Int) := of_decide_eq_true (by first | (with_reducible assumption) | assumption)
                    have q102 : x38_2 < (l1.length : Int) := of_decide_eq_true (by first | (with_reducible assumption) | assumption)
                    obtain ⟨ad102, e102, hx102_0⟩ := Kd.at_int HR1.out x38_2 p102 q102
                    cases e102
                    replace p102 := eq_true p102
                    replace q102 := eq_true q102
                    go_wp2
                    go_ret2
                    exact ⟨by first | rfl | (simp; done) | (simp [*]; done), by repeat (first | exact Drawn0.refl _ | apply Drawn0.step)⟩
                  · rw [if_neg c13] at H
                    have c13b0 : decide ((rd l1 x38_2) < 0) = false := decide_eq_false c13
                    clear c13
                    by_cases c14 : (rd l1 x38_2) > a0
                    · rw [if_pos c14] at H
                      have c14b0 : decide (a0 < (rd l1 x38_2)) = true := decide_eq_true c14
                      clear c14
                      simp only [Option.some.injEq, Prod.mk.injEq] at H
                      obtain ⟨rfl, rfl⟩ := H
                      have p102 : 0 ≤ (x38_2 : Int) := of_decide_eq_true (by first | (with_reducible assumption) | assumption)
                      have q102 : x38_2 < (l1.length : Int) := of_decide_eq_true (by first | (with_reducible assumption) | assumption)
                      obtain ⟨ad102, e102, hx102_0⟩ := Kd.at_int HR1.out x38_2 p102 q102
                      cases e102
                      replace p102 := eq_true p102
                      replace q102 := eq_true q102
                      go_wp2
                      go_ret2
                      exact ⟨by first | rfl | (simp; done) | (simp [*]; done), by repeat (first | exact Drawn0.refl _ | apply Drawn0.step)⟩
                    · rw [if_neg c14] at H
                      have c14b0 : decide (a0 < (rd l1 x38_2)) = false := decide_eq_false c14
                      clear c14
                      have H' := Aside0.mk H
                      clear H
                      have p102 : 0 ≤ (x38_2 : Int) := of_decide_eq_true (by first | (with_reducible assumption) | assumption)
                      have q102 : x38_2 < (l1.length : Int) := of_decide_eq_true (by first | (with_reducible assumption) | assumption)
                      obtain ⟨ad102, e102, hx102_0⟩ := Kd.at_int HR1.out x38_2 p102 q102
                      cases e102
                      replace p102 := eq_true p102
                      replace q102 := eq_true q102
                      go_wp2
                      go_roundg k2
                      case measure => have := HJ3.out; have := HK2.out; omega
                      case rel => exact ⟨(wrap64 (x6_2 - (rd l1 x38_2))), (wrap64 (x38_2 + 1)), (by first | rfl | (simp; done) | (simp [*]; done)), (by first | rfl | (simp; done) | (simp [*]; done)), H', ⟨by have := HJ3.out; have := HK2.out; omega⟩, by repeat (first | exact Drawn0.refl _ | apply Drawn0.step)⟩
                · rw [if_neg c12] at H
                  exact absurd H (by simp)
              · rw [if_neg c11] at H
                exact absurd H (by simp)
            · rw [if_neg c10] at H
              have c10b0 : decide (x38_2 < (l1.length : Int)) = false := decide_eq_false c10
              clear c10
              have H' := Aside0.mk H
              clear H
              go_wp2
              go_loopg [6, 55] k2 (fun kq v6 v55 w' => ∃ (x6_3 : Int) (x55_3 : Int), v6 = .int .i64 x6_3 ∧ v55 = .int .i64 x55_3 ∧ Aside0 (solve_right.l1 kq x6_3 l2 (l2.length : Int) x55_3 = some (r1, r2)) ∧ Aside0 (kq ≤ k2) ∧ Drawn0 w w')
              case atStart => exact ⟨(x6_2), (0), (by first | rfl | (simp; done) | (simp [*]; done)), (by first | rfl | (simp; done) | (simp [*]; done)), H', ⟨Nat.le_refl _⟩, by repeat (first | exact Drawn0.refl _ | apply Drawn0.step)⟩
              case round =>
                clear H'
                try clear c1
                try clear p1
                try clear q1
                try clear hx1
                try clear c2
                try clear p2
                try clear c3
                try clear c5
                try clear c5b0
                try clear c6
                try clear c6b0
                try clear p6
                try clear c7
                try clear c7b0
                try clear c7b1
                try clear c7b2
                try clear c8
                try clear c8b0
                try clear c8b1
                try clear c9
                try clear c10
                try clear c10b0
                try clear p10
                try clear q10
                try clear hx10
                try clear c11
                try clear c11b0
                try clear c12
                try clear c12b0
                try clear c13
                try clear c13b0
                try clear c14
                try clear c14b0
                try clear hx102_0
                try clear p102
                try clear p2
                try clear q102
                obtain ⟨x6_3, x55_3, rfl, rfl, HA, HK3, ⟨m3, rfl⟩⟩ := hrel
                cases gk with
                | zero => exact absurd HA.out (by simp [solve_right.l1])
                | succ k3 =>
                  have H := HA.out
                  clear HA
                  simp only [solve_right.l1] at H
                  by_cases c15 : x55_3 < (l2.length : Int)
                  · rw [if_pos c15] at H
                    have c15b0 : decide (x55_3 < (l2.length : Int)) = true := decide_eq_true c15
                    clear c15
                    by_cases c16 : 0 ≤ x55_3
                    · rw [if_pos c16] at H
                      have c16b0 : decide (0 ≤ x55_3) = true := decide_eq_true c16
                      clear c16
                      by_cases c17 : x55_3 < (l2.length : Int)
                      · rw [if_pos c17] at H
                        have c17b0 : decide (x55_3 < (l2.length : Int)) = true := decide_eq_true c17
                        clear c17
                        replace H := Option.bind_eq_some_iff.mp H
                        obtain ⟨t104, A180, H⟩ := H
                        replace H : (if t104 = true then (solve_right.l1 k3 x6_3 l2 (l2.length : Int) (wrap64 (x55_3 + 1))) else (some (0, 2))) = some (r1, r2) := H
                        have A18 := Aside0.mk A180
                        clear A180
                        by_cases c19 : t104 = true
                        · subst c19
                          have H1 : (solve_right.l1 k3 x6_3 l2 (l2.length : Int) (wrap64 (x55_3 + 1))) = some (r1, r2) := by rw [if_pos rfl] at H; exact H
                          clear H
                          have H := H1
                          clear H1
                          have H' := Aside0.mk H
                          clear H
                          have p103 : 0 ≤ (x55_3 : Int) := of_decide_eq_true (by first | (with_reducible assumption) | assumption)
                          have q103 : x55_3 < (l2.length : Int) := of_decide_eq_true (by first | (with_reducible assumption) | assumption)
                          obtain ⟨ad103, A103_0, c103_0, e103, hx103_0, hl103_0, hi103_0⟩ := at_L1 HR2.out x55_3 p103 q103
                          cases e103
                          have HR103_0 := Aside0.mk hi103_0
                          have HC103_0 := Aside0.mk hl103_0
                          clear hi103_0 hl103_0
                          replace p103 := eq_true p103
                          replace q103 := eq_true q103
                          go_wp2_with (first | ((with_reducible refine gate_callee (f := 24) rfl ?_); refine goesL_ (some 60) rfl rfl Try.func24 (by kernel_rfl) rfl #[.slice A103_0 (rd_L1 l2 x55_3).length c103_0] rfl (by (try simp only [List.map_toArray, List.map_cons, List.map_nil]); first | done | rfl | (simp only [List.length_drop, List.length_take]; rfl)) ?_; (with_reducible refine (curve_Sound.calls k3 _ _ (rd_L1 l2 x55_3) true _ ?side1 ?side2 A18.out).mono ?_); (case side1 => repeat (first | exact HR103_0.out | (with_reducible refine Kd.C_alloc ?_ _) | (with_reducible refine Kd.C_drewN ?_ _) | (with_reducible refine Kd.C_drew ?_))); (case side2 => exact HC103_0.out); rintro e w' ⟨rfl, ⟨nd, rfl⟩⟩; refine ⟨_, rfl, ?_⟩))
                          go_roundg k3
                          case measure => have := HJ3.out; have := HK2.out; have := HK3.out; omega
                          case rel => exact ⟨(x6_3), (wrap64 (x55_3 + 1)), (by first | rfl | (simp; done) | (simp [*]; done)), (by first | rfl | (simp; done) | (simp [*]; done)), H', ⟨by have := HJ3.out; have := HK2.out; have := HK3.out; omega⟩, by repeat (first | exact Drawn0.refl _ | apply Drawn0.step)⟩
                        · replace c19 := Bool.eq_false_iff.mpr c19
                          subst c19
                          have H1 : (some (0, 2)) = some (r1, r2) := by rw [if_neg (show ¬ (false = true) by decide)] at H; exact H
                          clear H
                          have H := H1
                          clear H1
                          simp only [Option.some.injEq, Prod.mk.injEq] at H
                          obtain ⟨rfl, rfl⟩ := H
                          have p103 : 0 ≤ (x55_3 : Int) := of_decide_eq_true (by first | (with_reducible assumption) | assumption)
                          have q103 : x55_3 < (l2.length : Int) := of_decide_eq_true (by first | (with_reducible assumption) | assumption)
                          obtain ⟨ad103, A103_0, c103_0, e103, hx103_0, hl103_0, hi103_0⟩ := at_L1 HR2.out x55_3 p103 q103
                          cases e103
                          have HR103_0 := Aside0.mk hi103_0
                          have HC103_0 := Aside0.mk hl103_0
                          clear hi103_0 hl103_0
                          replace p103 := eq_true p103
                          replace q103 := eq_true q103
                          go_wp2_with (first | ((with_reducible refine gate_callee (f := 24) rfl ?_); refine goesL_ (some 60) rfl rfl Try.func24 (by kernel_rfl) rfl #[.slice A103_0 (rd_L1 l2 x55_3).length c103_0] rfl (by (try simp only [List.map_toArray, List.map_cons, List.map_nil]); first | done | rfl | (simp only [List.length_drop, List.length_take]; rfl)) ?_; (with_reducible refine (curve_Sound.calls k3 _ _ (rd_L1 l2 x55_3) false _ ?side1 ?side2 A18.out).mono ?_); (case side1 => repeat (first | exact HR103_0.out | (with_reducible refine Kd.C_alloc ?_ _) | (with_reducible refine Kd.C_drewN ?_ _) | (with_reducible refine Kd.C_drew ?_))); (case side2 => exact HC103_0.out); rintro e w' ⟨rfl, ⟨nd, rfl⟩⟩; refine ⟨_, rfl, ?_⟩))
                          go_ret2
                          exact ⟨by first | rfl | (simp; done) | (simp [*]; done), by repeat (first | exact Drawn0.refl _ | apply Drawn0.step)⟩
                      · rw [if_neg c17] at H
                        exact absurd H (by simp)
                    · rw [if_neg c16] at H
                      exact absurd H (by simp)
                  · rw [if_neg c15] at H
                    have c15b0 : decide (x55_3 < (l2.length : Int)) = false := decide_eq_false c15
                    clear c15
                    by_cases c20 : x6_3 < 0
                    · rw [if_pos c20] at H
                      have c20b0 : decide (x6_3 < 0) = true := decide_eq_true c20
                      clear c20
                      simp only [Option.some.injEq, Prod.mk.injEq] at H
                      obtain ⟨rfl, rfl⟩ := H
                      go_wp2
                      go_ret2
                      exact ⟨by first | rfl | (simp; done) | (simp [*]; done), by repeat (first | exact Drawn0.refl _ | apply Drawn0.step)⟩
                    · rw [if_neg c20] at H
                      have c20b0 : decide (x6_3 < 0) = false := decide_eq_false c20
                      clear c20
                      simp only [Option.some.injEq, Prod.mk.injEq] at H
                      obtain ⟨rfl, rfl⟩ := H
                      go_wp2
                      go_ret2
                      exact ⟨by first | rfl | (simp; done) | (simp [*]; done), by repeat (first | exact Drawn0.refl _ | apply Drawn0.step)⟩

end Go.Proofs.Ytmkeffpgofjlnaa.Q
