/- The law SolveBest: its walk. (The kit's print tool wrote these lines; they are laid out in texts of this claim's own.) -/
import Derived.Test.YtmkeffpgofjlnaaQ0
import Derived.Test.YtmkeffpgofjlnaaQstowageref12Check
import Derived.Test.YtmkeffpgofjlnaaQsolveBest
import Derived.Test.YtmkeffpgofjlnaaQstowagelaw12awake
import Derived.Test.YtmkeffpgofjlnaaQstowageref01SameInts
import Derived.Test.YtmkeffpgofjlnaaQstowageref12Sum
import Derived.Test.YtmkeffpgofjlnaaQstowageref12Best
namespace Go.Proofs.Ytmkeffpgofjlnaa.Q
open Go.RowKit Go.Proofs.YtmkeffpgofjlnaaW.PrintWords Go.Proofs.YtmkeffpgofjlnaaW.PrintLast Go.Proofs.YtmkeffpgofjlnaaW.PrintMore
attribute [local go_sem] max2_int min2_int max_two min_two max_three min_three max_four min_four   -- for this text's walks alone
set_option linter.unusedVariables false
set_option linter.unusedSimpArgs false

/-! ### stowagelaw12_SolveBest: function 4 -/
mutual
def stowagelaw12_SolveBest.j0 : Nat → Int → List Int → List (List Int) → List Int → Int → Int → Bool → Option (Bool)
  | 0, _, _, _, _, _, _, _ => none
  | k + 1, x0, x1, x2, x7, x8, x10, x31 => if x31 = true then (some false) else (if x10 = 0 then (if (x2.length : Int) > 3 then (stowagelaw12_SolveBest.j1 k x0 x1 x2 x7 x8 true) else (stowagelaw12_SolveBest.j1 k x0 x1 x2 x7 x8 (decide (x0 > 40)))) else (if (x7.length : Int) = 0 then (some (x8 == 0)) else (some false)))
def stowagelaw12_SolveBest.j1 : Nat → Int → List Int → List (List Int) → List Int → Int → Bool → Option (Bool)
  | 0, _, _, _, _, _, _ => none
  | k + 1, x0, x1, x2, x7, x8, x47 => if x47 = true then ((stowageref12_Sum.f k x7 x2).bind fun t167 => (if x8 = t167 then (some ((x7.length : Int) == (x2.length : Int))) else (some false))) else ((stowageref12_Best.f k x0 x1 x2).bind fun bt168 => ((stowageref01_SameInts.f k x7 bt168.1).bind fun t172 => (if t172 = true then (some (x8 == bt168.2)) else (some false))))
end
def stowagelaw12_SolveBest.f (k : Nat) (a0 : Int) (l1 : List Int) (l2 : List (List Int)) : Option (Bool) := (solve_Best.f a0 l1 l2).bind fun bt160 => ((stowageref12_Check.f k a0 l1 l2).bind fun t165 => ((stowagelaw12_awake.f).bind fun t166 => (if t166 = true then (stowagelaw12_SolveBest.j0 k a0 l1 l2 bt160.1 bt160.2.1 t165 (bt160.2.2 != t165)) else (stowagelaw12_SolveBest.j0 k a0 l1 l2 bt160.1 bt160.2.1 t165 true))))
theorem stowagelaw12_SolveBest.mono_l : ∀ k, (∀ y0 y1 y2 y3 y4 y5 y6, LeO (stowagelaw12_SolveBest.j0 k y0 y1 y2 y3 y4 y5 y6) (stowagelaw12_SolveBest.j0 (k + 1) y0 y1 y2 y3 y4 y5 y6)) ∧ (∀ y0 y1 y2 y3 y4 y5, LeO (stowagelaw12_SolveBest.j1 k y0 y1 y2 y3 y4 y5) (stowagelaw12_SolveBest.j1 (k + 1) y0 y1 y2 y3 y4 y5))
  | 0 => ⟨fun _ _ _ _ _ _ _ r h => by simp [stowagelaw12_SolveBest.j0] at h, fun _ _ _ _ _ _ r h => by simp [stowagelaw12_SolveBest.j1] at h⟩
  | k + 1 => by
    obtain ⟨ih0, ih1⟩ := stowagelaw12_SolveBest.mono_l k
    refine ⟨?_, ?_⟩
    · intro y0 y1 y2 y3 y4 y5 y6
      unfold stowagelaw12_SolveBest.j0
      repeat' first
      | (with_reducible exact ih0 _ _ _ _ _ _ _)
      | (with_reducible exact ih1 _ _ _ _ _ _)
      | (with_reducible exact stowageref01_SameInts.mono _ _ _)
      | (with_reducible exact stowageref12_Best.mono _ _ _ _)
      | (with_reducible exact stowageref12_Check.mono _ _ _ _)
      | (with_reducible exact stowageref12_Sum.mono _ _ _)
      | (with_reducible exact LeO.refl _)
      | (with_reducible exact LeO.none _)
      | (with_reducible refine LeO.ite ?_ ?_)
      | (with_reducible refine LeO.bind ?_ (fun _ => ?_))
      | exact ih0 _ _ _ _ _ _ _
      | exact ih1 _ _ _ _ _ _
      | exact stowageref01_SameInts.mono _ _ _
      | exact stowageref12_Best.mono _ _ _ _
      | exact stowageref12_Check.mono _ _ _ _
      | exact stowageref12_Sum.mono _ _ _
      | exact LeO.none _
      | refine LeO.ite ?_ ?_
      | refine LeO.bind ?_ (fun _ => ?_)
    · intro y0 y1 y2 y3 y4 y5
      unfold stowagelaw12_SolveBest.j1
      repeat' first
      | (with_reducible exact ih0 _ _ _ _ _ _ _)
      | (with_reducible exact ih1 _ _ _ _ _ _)
      | (with_reducible exact stowageref01_SameInts.mono _ _ _)
      | (with_reducible exact stowageref12_Best.mono _ _ _ _)
      | (with_reducible exact stowageref12_Check.mono _ _ _ _)
      | (with_reducible exact stowageref12_Sum.mono _ _ _)
      | (with_reducible exact LeO.refl _)
      | (with_reducible exact LeO.none _)
      | (with_reducible refine LeO.ite ?_ ?_)
      | (with_reducible refine LeO.bind ?_ (fun _ => ?_))
      | exact ih0 _ _ _ _ _ _ _
      | exact ih1 _ _ _ _ _ _
      | exact stowageref01_SameInts.mono _ _ _
      | exact stowageref12_Best.mono _ _ _ _
      | exact stowageref12_Check.mono _ _ _ _
      | exact stowageref12_Sum.mono _ _ _
      | exact LeO.none _
      | refine LeO.ite ?_ ?_
      | refine LeO.bind ?_ (fun _ => ?_)
theorem stowagelaw12_SolveBest.mono : ∀ a0 a1 a2 k, LeO (stowagelaw12_SolveBest.f k a0 a1 a2) (stowagelaw12_SolveBest.f (k + 1) a0 a1 a2) := by
  intro a0 a1 a2 k
  obtain ⟨ih0, ih1⟩ := stowagelaw12_SolveBest.mono_l k
  unfold stowagelaw12_SolveBest.f
  repeat' first
      | (with_reducible exact ih0 _ _ _ _ _ _ _)
      | (with_reducible exact ih1 _ _ _ _ _ _)
      | (with_reducible exact stowageref01_SameInts.mono _ _ _)
      | (with_reducible exact stowageref12_Best.mono _ _ _ _)
      | (with_reducible exact stowageref12_Check.mono _ _ _ _)
      | (with_reducible exact stowageref12_Sum.mono _ _ _)
      | (with_reducible exact LeO.refl _)
      | (with_reducible exact LeO.none _)
      | (with_reducible refine LeO.ite ?_ ?_)
      | (with_reducible refine LeO.bind ?_ (fun _ => ?_))
      | exact ih0 _ _ _ _ _ _ _
      | exact ih1 _ _ _ _ _ _
      | exact stowageref01_SameInts.mono _ _ _
      | exact stowageref12_Best.mono _ _ _ _
      | exact stowageref12_Check.mono _ _ _ _
      | exact stowageref12_Sum.mono _ _ _
      | exact LeO.none _
      | refine LeO.ite ?_ ?_
      | refine LeO.bind ?_ (fun _ => ?_)
set_option maxHeartbeats 8000000 in
set_option maxRecDepth 100000 in
theorem stowagelaw12_SolveBest.calls (k : Nat) (a0 : Int) (A1 : Option Addr) (c1 : Nat) (l1 : List Int) (A2 : Option Addr) (c2 : Nat) (l2 : List (List Int)) (r : Bool) (w : World) (hr1 : Kd.C (Kd.int .i64) w A1 l1.length l1) (hc1 : l1.length ≤ c1) (hr2 : Kd.C (Kd.slice 3 (Kd.int .i64)) w A2 l2.length l2) (hc2 : l2.length ≤ c2) (h : stowagelaw12_SolveBest.f k a0 l1 l2 = some r) :
    Calls Try.prog 4 #[.int .i64 a0, .slice A1 l1.length c1, .slice A2 l2.length c2] w fun e w' => e = .returned (.bool r) ∧ Below w.heap.size w w' := by
  have HR1 := Aside0.mk hr1
  have HC1 := Aside0.mk hc1
  clear hr1 hc1
  have HR2 := Aside0.mk hr2
  have HC2 := Aside0.mk hc2
  clear hr2 hc2
  have HB := Aside0.mk (Below.refl w.heap.size w)
  have H : ((solve_Best.f a0 l1 l2).bind fun bt160 => ((stowageref12_Check.f k a0 l1 l2).bind fun t165 => ((stowagelaw12_awake.f).bind fun t166 => (if t166 = true then (stowagelaw12_SolveBest.j0 k a0 l1 l2 bt160.1 bt160.2.1 t165 (bt160.2.2 != t165)) else (stowagelaw12_SolveBest.j0 k a0 l1 l2 bt160.1 bt160.2.1 t165 true))))) = some r := h
  clear h
  replace H := Option.bind_eq_some_iff.mp H
  obtain ⟨⟨t160, t161, t162⟩, A40, H⟩ := H
  replace H : ((stowageref12_Check.f k a0 l1 l2).bind fun t165 => ((stowagelaw12_awake.f).bind fun t166 => (if t166 = true then (stowagelaw12_SolveBest.j0 k a0 l1 l2 t160 t161 t165 (t162 != t165)) else (stowagelaw12_SolveBest.j0 k a0 l1 l2 t160 t161 t165 true)))) = some r := H
  have A4 := Aside0.mk A40
  clear A40
  replace H := Option.bind_eq_some_iff.mp H
  obtain ⟨t165, A50, H⟩ := H
  replace H : ((stowagelaw12_awake.f).bind fun t166 => (if t166 = true then (stowagelaw12_SolveBest.j0 k a0 l1 l2 t160 t161 t165 (t162 != t165)) else (stowagelaw12_SolveBest.j0 k a0 l1 l2 t160 t161 t165 true))) = some r := H
  have A5 := Aside0.mk A50
  clear A50
  have HC6 := Aside0.mk H
  clear H
  go_enter Try.func4, Try.ntmps4
  go_upto_region 3 with (first | ((with_reducible refine gate_callee (f := 14) rfl ?_); refine goesL_ (some 17) rfl rfl Try.func14 (by kernel_rfl) rfl #[.int .i64 a0, .slice A1 l1.length c1, .slice A2 l2.length c2] rfl (by (try simp only [List.map_toArray, List.map_cons, List.map_nil]); first | done | rfl | (simp only [List.length_drop, List.length_take]; rfl)) ?_; (with_reducible refine (solve_Best.calls a0 _ _ l1 _ _ l2 t160 t161 t162 _ ?side1 ?side2 ?side3 ?side4 A4.out).mono ?_); (case side1 => repeat (first | exact HR1.out | (with_reducible refine Kd.C_alloc ?_ _) | (with_reducible refine Kd.C_drewN ?_ _) | (with_reducible refine Kd.C_drew ?_))); (case side2 => exact HC1.out); (case side3 => repeat (first | exact HR2.out | (with_reducible refine Kd.C_alloc ?_ _) | (with_reducible refine Kd.C_drewN ?_ _) | (with_reducible refine Kd.C_drew ?_))); (case side4 => exact HC2.out); rintro e w7 ⟨v163, rfl, ho0, hb⟩; refine ⟨_, rfl, ?_⟩; have n0_ := Aside0.mk (Kd.R_lower ho0 (below_size (by repeat (first | (with_reducible first | exact HB.out | apply below_alloc | apply pw_below_drewN | apply below_drew1) | exact HB.out)))); have n1_ := Aside0.mk (below_step (by repeat (first | (with_reducible first | exact HB.out | apply below_alloc | apply pw_below_drewN | apply below_drew1) | exact HB.out)) hb); clear HB; have HO164 := n0_; have HB := n1_; clear n0_ n1_; (try clear hb); (try clear hb2); (try clear hk); (try clear hi); (try clear ho0)) | ((with_reducible refine gate_callee (f := 10) rfl ?_); refine goesL_ (some 24) rfl rfl Try.func10 (by kernel_rfl) rfl #[.int .i64 a0, .slice A1 l1.length c1, .slice A2 l2.length c2] rfl (by (try simp only [List.map_toArray, List.map_cons, List.map_nil]); first | done | rfl | (simp only [List.length_drop, List.length_take]; rfl)) ?_; (with_reducible refine (stowageref12_Check.calls k a0 _ _ l1 _ _ l2 t165 _ ?side1 ?side2 ?side3 ?side4 A5.out).mono ?_); (case side1 => repeat (first | exact (Kd.C_below HR1.out HB.out) | (with_reducible refine Kd.C_alloc ?_ _) | (with_reducible refine Kd.C_drewN ?_ _) | (with_reducible refine Kd.C_drew ?_))); (case side2 => exact HC1.out); (case side3 => repeat (first | exact (Kd.C_below HR2.out HB.out) | (with_reducible refine Kd.C_alloc ?_ _) | (with_reducible refine Kd.C_drewN ?_ _) | (with_reducible refine Kd.C_drew ?_))); (case side4 => exact HC2.out); rintro e w' ⟨rfl, ⟨nd, rfl⟩⟩; refine ⟨_, rfl, ?_⟩))
  (try simp only [Act.put, List.setIfInBounds_toArray, List.set_cons_zero, List.set_cons_succ])
  go_cut [31] (fun v31 wc => ∃ (kq : Nat) (x31_5 : Bool), v31 = .bool x31_5 ∧ Aside0 (stowagelaw12_SolveBest.j0 kq a0 l1 l2 t160 t161 t165 x31_5 = some r) ∧ Aside0 (kq ≤ k) ∧ Aside0 (Kd.R (Kd.int .i64) 3 wc w.heap.size (fun _ => True) v163 t160) ∧ Aside0 (Below w.heap.size w wc))
  case first =>
    have H := HC6.out
    clear HC6
    replace H := Option.bind_eq_some_iff.mp H
    obtain ⟨t166, A80, H⟩ := H
    replace H : (if t166 = true then (stowagelaw12_SolveBest.j0 k a0 l1 l2 t160 t161 t165 (t162 != t165)) else (stowagelaw12_SolveBest.j0 k a0 l1 l2 t160 t161 t165 true)) = some r := H
    have A8 := Aside0.mk A80
    clear A80
    by_cases c9 : t166 = true
    · subst c9
      have H1 : (stowagelaw12_SolveBest.j0 k a0 l1 l2 t160 t161 t165 (t162 != t165)) = some r := by rw [if_pos rfl] at H; exact H
      clear H
      have H := H1
      clear H1
      have H' := Aside0.mk H
      clear H
      go_wp2_with (first | ((with_reducible refine gate_callee (f := 11) rfl ?_); refine goesL_ (some 25) rfl rfl Try.func11 (by kernel_rfl) rfl #[] rfl (by (try simp only [List.map_toArray, List.map_cons, List.map_nil]); first | done | rfl | (simp only [List.length_drop, List.length_take]; rfl)) ?_; (with_reducible refine (stowagelaw12_awake.calls  true _ A8.out).mono ?_); rintro e w10 ⟨rfl, hb⟩; refine ⟨_, rfl, ?_⟩; have n0_ := Aside0.mk (Kd.R_below (by (with_reducible repeat (first | apply Kd.R_alloc | apply Kd.R_drewN | apply Kd.R_drew)); exact HO164.out) hb); have n1_ := Aside0.mk (below_step (by repeat (first | (with_reducible first | exact HB.out | apply below_alloc | apply pw_below_drewN | apply below_drew1) | exact HB.out)) hb); clear HO164; clear HB; have HO164 := n0_; have HB := n1_; clear n0_ n1_; (try clear hb); (try clear hb2); (try clear hk); (try clear hi)))
      go_meet
      case rel => exact ⟨_, ((t162 != t165)), (by first | rfl | (simp; done) | (simp [*]; done)), H', ⟨by first | omega | exact Nat.le_refl _⟩, ⟨by (with_reducible repeat (first | apply Kd.R_alloc | apply Kd.R_drewN | apply Kd.R_drew)); exact HO164.out⟩, ⟨by repeat (first | (with_reducible first | exact HB.out | apply below_alloc | apply pw_below_drewN | apply below_drew1) | exact HB.out)⟩⟩
    · replace c9 := Bool.eq_false_iff.mpr c9
      subst c9
      have H1 : (stowagelaw12_SolveBest.j0 k a0 l1 l2 t160 t161 t165 true) = some r := by rw [if_neg (show ¬ (false = true) by decide)] at H; exact H
      clear H
      have H := H1
      clear H1
      have H' := Aside0.mk H
      clear H
      go_wp2_with (first | ((with_reducible refine gate_callee (f := 11) rfl ?_); refine goesL_ (some 25) rfl rfl Try.func11 (by kernel_rfl) rfl #[] rfl (by (try simp only [List.map_toArray, List.map_cons, List.map_nil]); first | done | rfl | (simp only [List.length_drop, List.length_take]; rfl)) ?_; (with_reducible refine (stowagelaw12_awake.calls  false _ A8.out).mono ?_); rintro e w11 ⟨rfl, hb⟩; refine ⟨_, rfl, ?_⟩; have n0_ := Aside0.mk (Kd.R_below (by (with_reducible repeat (first | apply Kd.R_alloc | apply Kd.R_drewN | apply Kd.R_drew)); exact HO164.out) hb); have n1_ := Aside0.mk (below_step (by repeat (first | (with_reducible first | exact HB.out | apply below_alloc | apply pw_below_drewN | apply below_drew1) | exact HB.out)) hb); clear HO164; clear HB; have HO164 := n0_; have HB := n1_; clear n0_ n1_; (try clear hb); (try clear hb2); (try clear hk); (try clear hi)))
      go_meet
      case rel => exact ⟨_, (true), (by first | rfl | (simp; done) | (simp [*]; done)), H', ⟨by first | omega | exact Nat.le_refl _⟩, ⟨by (with_reducible repeat (first | apply Kd.R_alloc | apply Kd.R_drewN | apply Kd.R_drew)); exact HO164.out⟩, ⟨by repeat (first | (with_reducible first | exact HB.out | apply below_alloc | apply pw_below_drewN | apply below_drew1) | exact HB.out)⟩⟩
  case rest =>
    clear HC6
    try clear c1
    try clear c2
    try clear p2
    try clear c4
    try clear c9
    try clear c10
    try clear c11
    obtain ⟨kq, x31_5, rfl, HA, HJ5, HO_7, HB⟩ := hcut
    cases kq with
    | zero => exact absurd HA.out (by simp [stowagelaw12_SolveBest.j0])
    | succ kj5 =>
      have H := HA.out
      clear HA
      simp only [stowagelaw12_SolveBest.j0] at H
      by_cases c12 : x31_5 = true
      · subst c12
        have H1 : (some false) = some r := by rw [if_pos rfl] at H; exact H
        clear H
        have H := H1
        clear H1
        obtain rfl := Option.some.inj H
        go_wp2
        go_ret
        exact ⟨by first | rfl | (simp [errW_none, errW_some] <;> rfl) | (simp [*, errW_none, errW_some] <;> rfl), by repeat (first | (with_reducible first | exact HB.out | apply below_alloc | apply pw_below_drewN | apply below_drew1) | exact HB.out)⟩
      · replace c12 := Bool.eq_false_iff.mpr c12
        subst c12
        have H1 : (if t165 = 0 then (if (l2.length : Int) > 3 then (stowagelaw12_SolveBest.j1 kj5 a0 l1 l2 t160 t161 true) else (stowagelaw12_SolveBest.j1 kj5 a0 l1 l2 t160 t161 (decide (a0 > 40)))) else (if (t160.length : Int) = 0 then (some (t161 == 0)) else (some false))) = some r := by rw [if_neg (show ¬ (false = true) by decide)] at H; exact H
        clear H
        have H := H1
        clear H1
        by_cases c13 : t165 = 0
        · rw [if_pos c13] at H
          have c13b0 : (t165 == 0) = true := beq_iff_eq.mpr c13
          have c13b1 : (t165 != 0) = false := bne_eq_false_iff_eq.mpr c13
          clear c13
          have HC14 := Aside0.mk H
          clear H
          go_upto_region 7 with (fail)
          go_cut [47] (fun v47 wc => ∃ (kq : Nat) (x47_13 : Bool), v47 = .bool x47_13 ∧ Aside0 (stowagelaw12_SolveBest.j1 kq a0 l1 l2 t160 t161 x47_13 = some r) ∧ Aside0 (kq ≤ kj5) ∧ Aside0 (Kd.R (Kd.int .i64) 3 wc w.heap.size (fun _ => True) v163 t160) ∧ Aside0 (Below w.heap.size w wc))
          case first =>
            have H := HC14.out
            clear HC14
            by_cases c15 : (l2.length : Int) > 3
            · rw [if_pos c15] at H
              have c15b0 : decide (3 < (l2.length : Int)) = true := decide_eq_true c15
              have c15b1 : decide (3 < l2.length) = true := decide_eq_true (by omega)
              clear c15
              (first | rw [c15b0] | (simp only [i64_w, i32_w]; rw [c15b0]) | skip)
              have H' := Aside0.mk H
              clear H
              go_wp2
              go_meet
              case rel => exact ⟨_, (true), (by first | rfl | (simp; done) | (simp [*]; done)), H', ⟨by have := HJ5.out; first | omega | exact Nat.le_refl _⟩, ⟨by (with_reducible repeat (first | apply Kd.R_alloc | apply Kd.R_drewN | apply Kd.R_drew)); exact HO_7.out⟩, ⟨by repeat (first | (with_reducible first | exact HB.out | apply below_alloc | apply pw_below_drewN | apply below_drew1) | exact HB.out)⟩⟩
            · rw [if_neg c15] at H
              have c15b0 : decide (3 < (l2.length : Int)) = false := decide_eq_false c15
              have c15b1 : decide (3 < l2.length) = false := decide_eq_false (by omega)
              clear c15
              (first | rw [c15b0] | (simp only [i64_w, i32_w]; rw [c15b0]) | skip)
              have H' := Aside0.mk H
              clear H
              go_wp2
              go_meet
              case rel => exact ⟨_, (decide (a0 > 40)), (by first | rfl | (simp; done) | (simp [*]; done)), H', ⟨by have := HJ5.out; first | omega | exact Nat.le_refl _⟩, ⟨by (with_reducible repeat (first | apply Kd.R_alloc | apply Kd.R_drewN | apply Kd.R_drew)); exact HO_7.out⟩, ⟨by repeat (first | (with_reducible first | exact HB.out | apply below_alloc | apply pw_below_drewN | apply below_drew1) | exact HB.out)⟩⟩
          case rest =>
            clear HC14
            try clear c1
            try clear c2
            try clear p2
            try clear c4
            try clear c9
            try clear c10
            try clear c11
            try clear c12
            try clear c13
            try clear c13b0
            try clear c13b1
            try clear c14
            try clear c15
            try clear c15b0
            try clear c15b1
            try clear p2
            obtain ⟨kq, x47_13, rfl, HA, HJ13, HO_7, HB⟩ := hcut
            cases kq with
            | zero => exact absurd HA.out (by simp [stowagelaw12_SolveBest.j1])
            | succ kj13 =>
              have H := HA.out
              clear HA
              simp only [stowagelaw12_SolveBest.j1] at H
              by_cases c16 : x47_13 = true
              · subst c16
                have H1 : ((stowageref12_Sum.f kj13 t160 l2).bind fun t167 => (if t161 = t167 then (some ((t160.length : Int) == (l2.length : Int))) else (some false))) = some r := by rw [if_pos rfl] at H; exact H
                clear H
                have H := H1
                clear H1
                replace H := Option.bind_eq_some_iff.mp H
                obtain ⟨t167, A170, H⟩ := H
                replace H : (if t161 = t167 then (some ((t160.length : Int) == (l2.length : Int))) else (some false)) = some r := H
                have A17 := Aside0.mk A170
                clear A170
                by_cases c18 : t161 = t167
                · rw [if_pos c18] at H
                  have c18b0 : (t161 == t167) = true := beq_iff_eq.mpr c18
                  have c18b1 : (t161 != t167) = false := bne_eq_false_iff_eq.mpr c18
                  clear c18
                  obtain rfl := Option.some.inj H
                  obtain ⟨Ao19, co19, eo19⟩ := Kd.R_slice HO_7.out
                  subst eo19
                  go_wp2_with (first | ((with_reducible refine gate_callee (f := 15) rfl ?_); refine goesL_ (some 51) rfl rfl Try.func15 (by kernel_rfl) rfl #[.slice Ao19 t160.length co19, .slice A2 l2.length c2] rfl (by (try simp only [List.map_toArray, List.map_cons, List.map_nil]); first | done | rfl | (simp only [List.length_drop, List.length_take]; rfl)) ?_; (with_reducible refine (stowageref12_Sum.calls kj13 _ _ t160 _ _ l2 t167 _ ?side1 ?side2 ?side3 ?side4 A17.out).mono ?_); (case side1 => repeat (first | exact (Kd.R_reads' HO_7.out).2.2 | (with_reducible refine Kd.C_alloc ?_ _) | (with_reducible refine Kd.C_drewN ?_ _) | (with_reducible refine Kd.C_drew ?_))); (case side2 => exact (Kd.R_reads' HO_7.out).2.1); (case side3 => repeat (first | exact (Kd.C_below HR2.out HB.out) | (with_reducible refine Kd.C_alloc ?_ _) | (with_reducible refine Kd.C_drewN ?_ _) | (with_reducible refine Kd.C_drew ?_))); (case side4 => exact HC2.out); rintro e w' ⟨rfl, ⟨nd, rfl⟩⟩; refine ⟨_, rfl, ?_⟩))
                  go_ret
                  exact ⟨by first | rfl | (simp [errW_none, errW_some] <;> rfl) | (simp [*, errW_none, errW_some] <;> rfl), by repeat (first | (with_reducible first | exact HB.out | apply below_alloc | apply pw_below_drewN | apply below_drew1) | exact HB.out)⟩
                · rw [if_neg c18] at H
                  have c18b0 : (t161 == t167) = false := beq_eq_false_iff_ne.mpr c18
                  have c18b1 : (t161 != t167) = true := bne_iff_ne.mpr c18
                  obtain rfl := Option.some.inj H
                  obtain ⟨Ao20, co20, eo20⟩ := Kd.R_slice HO_7.out
                  subst eo20
                  go_wp2_with (first | ((with_reducible refine gate_callee (f := 15) rfl ?_); refine goesL_ (some 51) rfl rfl Try.func15 (by kernel_rfl) rfl #[.slice Ao20 t160.length co20, .slice A2 l2.length c2] rfl (by (try simp only [List.map_toArray, List.map_cons, List.map_nil]); first | done | rfl | (simp only [List.length_drop, List.length_take]; rfl)) ?_; (with_reducible refine (stowageref12_Sum.calls kj13 _ _ t160 _ _ l2 t167 _ ?side1 ?side2 ?side3 ?side4 A17.out).mono ?_); (case side1 => repeat (first | exact (Kd.R_reads' HO_7.out).2.2 | (with_reducible refine Kd.C_alloc ?_ _) | (with_reducible refine Kd.C_drewN ?_ _) | (with_reducible refine Kd.C_drew ?_))); (case side2 => exact (Kd.R_reads' HO_7.out).2.1); (case side3 => repeat (first | exact (Kd.C_below HR2.out HB.out) | (with_reducible refine Kd.C_alloc ?_ _) | (with_reducible refine Kd.C_drewN ?_ _) | (with_reducible refine Kd.C_drew ?_))); (case side4 => exact HC2.out); rintro e w' ⟨rfl, ⟨nd, rfl⟩⟩; refine ⟨_, rfl, ?_⟩))
                  go_ret
                  exact ⟨by first | rfl | (simp [errW_none, errW_some] <;> rfl) | (simp [*, errW_none, errW_some] <;> rfl), by repeat (first | (with_reducible first | exact HB.out | apply below_alloc | apply pw_below_drewN | apply below_drew1) | exact HB.out)⟩
              · replace c16 := Bool.eq_false_iff.mpr c16
                subst c16
                have H1 : ((stowageref12_Best.f kj13 a0 l1 l2).bind fun bt168 => ((stowageref01_SameInts.f kj13 t160 bt168.1).bind fun t172 => (if t172 = true then (some (t161 == bt168.2)) else (some false)))) = some r := by rw [if_neg (show ¬ (false = true) by decide)] at H; exact H
                clear H
                have H := H1
                clear H1
                replace H := Option.bind_eq_some_iff.mp H
                obtain ⟨⟨t168, t169⟩, A210, H⟩ := H
                replace H : ((stowageref01_SameInts.f kj13 t160 t168).bind fun t172 => (if t172 = true then (some (t161 == t169)) else (some false))) = some r := H
                have A21 := Aside0.mk A210
                clear A210
                replace H := Option.bind_eq_some_iff.mp H
                obtain ⟨t172, A220, H⟩ := H
                replace H : (if t172 = true then (some (t161 == t169)) else (some false)) = some r := H
                have A22 := Aside0.mk A220
                clear A220
                by_cases c23 : t172 = true
                · subst c23
                  have H1 : (some (t161 == t169)) = some r := by rw [if_pos rfl] at H; exact H
                  clear H
                  have H := H1
                  clear H1
                  obtain rfl := Option.some.inj H
                  go_wp2_with (first | ((with_reducible refine gate_callee (f := 16) rfl ?_); refine goesL_ (some 64) rfl rfl Try.func16 (by kernel_rfl) rfl #[.int .i64 a0, .slice A1 l1.length c1, .slice A2 l2.length c2] rfl (by (try simp only [List.map_toArray, List.map_cons, List.map_nil]); first | done | rfl | (simp only [List.length_drop, List.length_take]; rfl)) ?_; (with_reducible refine (stowageref12_Best.calls kj13 a0 _ _ l1 _ _ l2 t168 t169 _ ?side1 ?side2 ?side3 ?side4 A21.out).mono ?_); (case side1 => repeat (first | exact (Kd.C_below HR1.out HB.out) | (with_reducible refine Kd.C_alloc ?_ _) | (with_reducible refine Kd.C_drewN ?_ _) | (with_reducible refine Kd.C_drew ?_))); (case side2 => exact HC1.out); (case side3 => repeat (first | exact (Kd.C_below HR2.out HB.out) | (with_reducible refine Kd.C_alloc ?_ _) | (with_reducible refine Kd.C_drewN ?_ _) | (with_reducible refine Kd.C_drew ?_))); (case side4 => exact HC2.out); rintro e w24 ⟨v170, rfl, ho0, hb⟩; refine ⟨_, rfl, ?_⟩; have n0_ := Aside0.mk (Kd.R_elder' (by (with_reducible repeat (first | apply Kd.R_alloc | apply Kd.R_drewN | apply Kd.R_drew)); exact HO_7.out) (Kd.R_base ho0) hb); have n1_ := Aside0.mk (Kd.R_lower (Kd.R_new' ho0 (Kd.R_lt (by (with_reducible repeat (first | apply Kd.R_alloc | apply Kd.R_drewN | apply Kd.R_drew)); exact HO_7.out))) (below_size (by repeat (first | (with_reducible first | exact HB.out | apply below_alloc | apply pw_below_drewN | apply below_drew1) | exact HB.out)))); have n2_ := Aside0.mk (below_step (by repeat (first | (with_reducible first | exact HB.out | apply below_alloc | apply pw_below_drewN | apply below_drew1) | exact HB.out)) hb); clear HO_7; clear HB; have HO_7 := n0_; have HO171 := n1_; have HB := n2_; clear n0_ n1_ n2_; (try clear hb); (try clear hb2); (try clear hk); (try clear hi); (try clear ho0); obtain ⟨Ao25, co25, eo25⟩ := Kd.R_slice HO_7.out; subst eo25; obtain ⟨Ao26, co26, eo26⟩ := Kd.R_slice HO171.out; subst eo26) | ((with_reducible refine gate_callee (f := 12) rfl ?_); refine goesL_ (some 69) rfl rfl Try.func12 (by kernel_rfl) rfl #[.slice Ao25 t160.length co25, .slice Ao26 t168.length co26] rfl (by (try simp only [List.map_toArray, List.map_cons, List.map_nil]); first | done | rfl | (simp only [List.length_drop, List.length_take]; rfl)) ?_; (with_reducible refine (stowageref01_SameInts.calls kj13 _ _ t160 _ _ t168 true _ ?side1 ?side2 ?side3 ?side4 A22.out).mono ?_); (case side1 => repeat (first | exact (Kd.R_reads' HO_7.out).2.2 | (with_reducible refine Kd.C_alloc ?_ _) | (with_reducible refine Kd.C_drewN ?_ _) | (with_reducible refine Kd.C_drew ?_))); (case side2 => exact (Kd.R_reads' HO_7.out).2.1); (case side3 => repeat (first | exact (Kd.R_reads' HO171.out).2.2 | (with_reducible refine Kd.C_alloc ?_ _) | (with_reducible refine Kd.C_drewN ?_ _) | (with_reducible refine Kd.C_drew ?_))); (case side4 => exact (Kd.R_reads' HO171.out).2.1); rintro e w' ⟨rfl, ⟨nd, rfl⟩⟩; refine ⟨_, rfl, ?_⟩))
                  go_ret
                  exact ⟨by first | rfl | (simp [errW_none, errW_some] <;> rfl) | (simp [*, errW_none, errW_some] <;> rfl), by repeat (first | (with_reducible first | exact HB.out | apply below_alloc | apply pw_below_drewN | apply below_drew1) | exact HB.out)⟩
                · replace c23 := Bool.eq_false_iff.mpr c23
                  subst c23
                  have H1 : (some false) = some r := by rw [if_neg (show ¬ (false = true) by decide)] at H; exact H
                  clear H
                  have H := H1
                  clear H1
                  obtain rfl := Option.some.inj H
                  go_wp2_with (first | ((with_reducible refine gate_callee (f := 16) rfl ?_); refine goesL_ (some 64) rfl rfl Try.func16 (by kernel_rfl) rfl #[.int .i64 a0, .slice A1 l1.length c1, .slice A2 l2.length c2] rfl (by (try simp only [List.map_toArray, List.map_cons, List.map_nil]); first | done | rfl | (simp only [List.length_drop, List.length_take]; rfl)) ?_; (with_reducible refine (stowageref12_Best.calls kj13 a0 _ _ l1 _ _ l2 t168 t169 _ ?side1 ?side2 ?side3 ?side4 A21.out).mono ?_); (case side1 => repeat (first | exact (Kd.C_below HR1.out HB.out) | (with_reducible refine Kd.C_alloc ?_ _) | (with_reducible refine Kd.C_drewN ?_ _) | (with_reducible refine Kd.C_drew ?_))); (case side2 => exact HC1.out); (case side3 => repeat (first | exact (Kd.C_below HR2.out HB.out) | (with_reducible refine Kd.C_alloc ?_ _) | (with_reducible refine Kd.C_drewN ?_ _) | (with_reducible refine Kd.C_drew ?_))); (case side4 => exact HC2.out); rintro e w27 ⟨v170, rfl, ho0, hb⟩; refine ⟨_, rfl, ?_⟩; have n0_ := Aside0.mk (Kd.R_elder' (by (with_reducible repeat (first | apply Kd.R_alloc | apply Kd.R_drewN | apply Kd.R_drew)); exact HO_7.out) (Kd.R_base ho0) hb); have n1_ := Aside0.mk (Kd.R_lower (Kd.R_new' ho0 (Kd.R_lt (by (with_reducible repeat (first | apply Kd.R_alloc | apply Kd.R_drewN | apply Kd.R_drew)); exact HO_7.out))) (below_size (by repeat (first | (with_reducible first | exact HB.out | apply below_alloc | apply pw_below_drewN | apply below_drew1) | exact HB.out)))); have n2_ := Aside0.mk (below_step (by repeat (first | (with_reducible first | exact HB.out | apply below_alloc | apply pw_below_drewN | apply below_drew1) | exact HB.out)) hb); clear HO_7; clear HB; have HO_7 := n0_; have HO171 := n1_; have HB := n2_; clear n0_ n1_ n2_; (try clear hb); (try clear hb2); (try clear hk); (try clear hi); (try clear ho0); obtain ⟨Ao28, co28, eo28⟩ := Kd.R_slice HO_7.out; subst eo28; obtain ⟨Ao29, co29, eo29⟩ := Kd.R_slice HO171.out; subst eo29) | ((with_reducible refine gate_callee (f := 12) rfl ?_); refine goesL_ (some 69) rfl rfl Try.func12 (by kernel_rfl) rfl #[.slice Ao28 t160.length co28, .slice Ao29 t168.length co29] rfl (by (try simp only [List.map_toArray, List.map_cons, List.map_nil]); first | done | rfl | (simp only [List.length_drop, List.length_take]; rfl)) ?_; (with_reducible refine (stowageref01_SameInts.calls kj13 _ _ t160 _ _ t168 false _ ?side1 ?side2 ?side3 ?side4 A22.out).mono ?_); (case side1 => repeat (first | exact (Kd.R_reads' HO_7.out).2.2 | (with_reducible refine Kd.C_alloc ?_ _) | (with_reducible refine Kd.C_drewN ?_ _) | (with_reducible refine Kd.C_drew ?_))); (case side2 => exact (Kd.R_reads' HO_7.out).2.1); (case side3 => repeat (first | exact (Kd.R_reads' HO171.out).2.2 | (with_reducible refine Kd.C_alloc ?_ _) | (with_reducible refine Kd.C_drewN ?_ _) | (with_reducible refine Kd.C_drew ?_))); (case side4 => exact (Kd.R_reads' HO171.out).2.1); rintro e w' ⟨rfl, ⟨nd, rfl⟩⟩; refine ⟨_, rfl, ?_⟩))
                  go_ret
                  exact ⟨by first | rfl | (simp [errW_none, errW_some] <;> rfl) | (simp [*, errW_none, errW_some] <;> rfl), by repeat (first | (with_reducible first | exact HB.out | apply below_alloc | apply pw_below_drewN | apply below_drew1) | exact HB.out)⟩
        · rw [if_neg c13] at H
          have c13b0 : (t165 == 0) = false := beq_eq_false_iff_ne.mpr c13
          have c13b1 : (t165 != 0) = true := bne_iff_ne.mpr c13
          by_cases c30 : (t160.length : Int) = 0
          · rw [if_pos c30] at H
            have c30b0 : ((t160.length : Int) == 0) = true := beq_iff_eq.mpr c30
            have c30b1 : ((t160.length : Int) != 0) = false := bne_eq_false_iff_eq.mpr c30
            clear c30
            obtain rfl := Option.some.inj H
            obtain ⟨Ao31, co31, eo31⟩ := Kd.R_slice HO_7.out
            subst eo31
            go_wp2
            go_ret
            exact ⟨by first | rfl | (simp [errW_none, errW_some] <;> rfl) | (simp [*, errW_none, errW_some] <;> rfl), by repeat (first | (with_reducible first | exact HB.out | apply below_alloc | apply pw_below_drewN | apply below_drew1) | exact HB.out)⟩
          · rw [if_neg c30] at H
            have c30b0 : ((t160.length : Int) == 0) = false := beq_eq_false_iff_ne.mpr c30
            have c30b1 : ((t160.length : Int) != 0) = true := bne_iff_ne.mpr c30
            have c30b2 : ¬ (t160 = []) := fun h_ => c30 (by rw [h_]; rfl)
            obtain rfl := Option.some.inj H
            obtain ⟨Ao32, co32, eo32⟩ := Kd.R_slice HO_7.out
            subst eo32
            go_wp2
            go_ret
            exact ⟨by first | rfl | (simp [errW_none, errW_some] <;> rfl) | (simp [*, errW_none, errW_some] <;> rfl), by repeat (first | (with_reducible first | exact HB.out | apply below_alloc | apply pw_below_drewN | apply below_drew1) | exact HB.out)⟩

end Go.Proofs.Ytmkeffpgofjlnaa.Q
