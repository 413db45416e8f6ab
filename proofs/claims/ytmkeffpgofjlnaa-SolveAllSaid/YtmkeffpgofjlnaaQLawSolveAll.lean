/- The law SolveAll: its walk. (The kit's print tool wrote these lines; they are laid out in texts of this claim's own.) -/
import Derived.Test.YtmkeffpgofjlnaaQ0
import Derived.Test.YtmkeffpgofjlnaaQsolveGreedy
import Derived.Test.YtmkeffpgofjlnaaQsolveBest
import Derived.Test.YtmkeffpgofjlnaaQstowagelaw12awake
import Derived.Test.YtmkeffpgofjlnaaQstowageref12Sum
namespace Go.Proofs.Ytmkeffpgofjlnaa.Q
open Go.RowKit Go.Proofs.YtmkeffpgofjlnaaW.PrintWords Go.Proofs.YtmkeffpgofjlnaaW.PrintLast Go.Proofs.YtmkeffpgofjlnaaW.PrintMore
attribute [local go_sem] max2_int min2_int max_two min_two max_three min_three max_four min_four   -- for this text's walks alone
set_option linter.unusedVariables false
set_option linter.unusedSimpArgs false

/-! ### stowagelaw12_SolveAll: function 5 -/
mutual
def stowagelaw12_SolveAll.l0 : Nat → List Int → List (List Int) → List Int → Int → List Int → Int → Option (Bool)
  | 0, _, _, _, _, _, _ => none
  | k + 1, x1, x2, x3, x9, x10, x11 => if x11 < (x2.length : Int) then (if x11 < (x1.length : Int) then (if 0 ≤ x11 then (if x10.length < 17592186044416 then (stowagelaw12_SolveAll.l0 k x1 x2 x3 x9 (x10 ++ [wrap64 (Int.tmod (rd x1 x11) 8)]) (wrap64 (x11 + 1))) else (none)) else (none)) else (if x10.length < 17592186044416 then (stowagelaw12_SolveAll.l0 k x1 x2 x3 x9 (x10 ++ [0]) (wrap64 (x11 + 1))) else (none))) else ((solve_Greedy.f k x9 x10 x2).bind fun bt133 => ((solve_Best.f x9 x10 x2).bind fun bt137 => ((stowagelaw12_awake.f).bind fun t142 => (if t142 = true then (stowagelaw12_SolveAll.j1 k x2 x3 x9 x10 bt133.1 bt133.2 bt137.1 bt137.2.1 (bt133.2 != bt137.2.2)) else (stowagelaw12_SolveAll.j1 k x2 x3 x9 x10 bt133.1 bt133.2 bt137.1 bt137.2.1 true)))))
def stowagelaw12_SolveAll.j1 : Nat → List (List Int) → List Int → Int → List Int → List Int → Int → List Int → Int → Bool → Option (Bool)
  | 0, _, _, _, _, _, _, _, _, _ => none
  | k + 1, x2, x3, x9, x10, x13, x14, x15, x16, x70 => if x70 = true then (some false) else (if x14 = 0 then ((some (([] : List Int) : List Int)).bind fun y143 => (if y143.length + x10.length < 17592186044416 then (stowagelaw12_SolveAll.l1 k x2 x3 x9 x10 x13 x15 x16 0 0 x9 (y143 ++ x10) 0) else (none))) else (if (x13.length : Int) = 0 then (some ((x15.length : Int) == 0)) else (some false)))
def stowagelaw12_SolveAll.l1 : Nat → List (List Int) → List Int → Int → List Int → List Int → List Int → Int → Int → Int → Int → List Int → Int → Option (Bool)
  | 0, _, _, _, _, _, _, _, _, _, _, _, _ => none
  | k + 1, x2, x3, x9, x10, x13, x15, x16, x18, x19, x20, x21, x22 => if x22 < (x2.length : Int) then (if 0 ≤ x22 then (if x22 < (x13.length : Int) then (if x22 < (x10.length : Int) then (if (rd x13 x22) < (rd x10 x22) then (some false) else (if x22 < (x15.length : Int) then (if (rd x15 x22) < (rd x10 x22) then (some false) else (stowagelaw12_SolveAll.l1 k x2 x3 x9 x10 x13 x15 x16 (wrap64 (x18 + (rd x13 x22))) (wrap64 (x19 + (rd x15 x22))) (wrap64 (x20 - (rd x10 x22))) x21 (wrap64 (x22 + 1)))) else (none))) else (none)) else (none)) else (none)) else (stowagelaw12_SolveAll.l2 k x2 x3 x9 x13 x15 x16 x18 x19 x20 x21 0)
def stowagelaw12_SolveAll.l2 : Nat → List (List Int) → List Int → Int → List Int → List Int → Int → Int → Int → Int → List Int → Int → Option (Bool)
  | 0, _, _, _, _, _, _, _, _, _, _, _ => none
  | k + 1, x2, x3, x9, x13, x15, x16, x18, x19, x20, x21, x23 => if x20 > 0 then (if x23 < (x3.length : Int) then (if 0 ≤ x23 then (if (x21.length : Int) = 0 then (none) else (if 0 ≤ (Int.tmod (wrap64 (rd x3 x23)) (x21.length : Int)) then (if (Int.tmod (wrap64 (rd x3 x23)) (x21.length : Int)) < (x21.length : Int) then (stowagelaw12_SolveAll.l2 k x2 x3 x9 x13 x15 x16 x18 x19 (wrap64 (x20 - 1)) (x21.set ((Int.tmod (wrap64 (rd x3 x23)) (x21.length : Int)) : Int).toNat (wrap64 ((rd x21 (Int.tmod (wrap64 (rd x3 x23)) (x21.length : Int))) + 1))) (wrap64 (x23 + 1))) else (none)) else (none))) else (none)) else (if 0 < (x21.length : Int) then (stowagelaw12_SolveAll.l2 k x2 x3 x9 x13 x15 x16 x18 x19 (wrap64 (x20 - 1)) (x21.set (0 : Int).toNat (wrap64 ((rd x21 0) + 1))) (wrap64 (x23 + 1))) else (none))) else (if x18 = x9 then (if x19 = x9 then ((stowageref12_Sum.f k x13 x2).bind fun t161 => (if x16 ≥ t161 then ((stowageref12_Sum.f k x21 x2).bind fun t162 => (if x16 ≥ t162 then ((stowageref12_Sum.f k x15 x2).bind fun t163 => (some (x16 == t163))) else (some false))) else (some false))) else (some false)) else (some false))
end
def stowagelaw12_SolveAll.f (k : Nat) (a0 : Int) (l1 : List Int) (l2 : List (List Int)) (l3 : List Int) : Option (Bool) := stowagelaw12_SolveAll.l0 k l1 l2 l3 (wrap64 (Int.tmod a0 120)) (([] : List Int)) 0
theorem stowagelaw12_SolveAll.mono_l : ∀ k, (∀ y0 y1 y2 y3 y4 y5, LeO (stowagelaw12_SolveAll.l0 k y0 y1 y2 y3 y4 y5) (stowagelaw12_SolveAll.l0 (k + 1) y0 y1 y2 y3 y4 y5)) ∧ (∀ y0 y1 y2 y3 y4 y5 y6 y7 y8, LeO (stowagelaw12_SolveAll.j1 k y0 y1 y2 y3 y4 y5 y6 y7 y8) (stowagelaw12_SolveAll.j1 (k + 1) y0 y1 y2 y3 y4 y5 y6 y7 y8)) ∧ (∀ y0 y1 y2 y3 y4 y5 y6 y7 y8 y9 y10 y11, LeO (stowagelaw12_SolveAll.l1 k y0 y1 y2 y3 y4 y5 y6 y7 y8 y9 y10 y11) (stowagelaw12_SolveAll.l1 (k + 1) y0 y1 y2 y3 y4 y5 y6 y7 y8 y9 y10 y11)) ∧ (∀ y0 y1 y2 y3 y4 y5 y6 y7 y8 y9 y10, LeO (stowagelaw12_SolveAll.l2 k y0 y1 y2 y3 y4 y5 y6 y7 y8 y9 y10) (stowagelaw12_SolveAll.l2 (k + 1) y0 y1 y2 y3 y4 y5 y6 y7 y8 y9 y10))
  | 0 => ⟨fun _ _ _ _ _ _ r h => by simp [stowagelaw12_SolveAll.l0] at h, fun _ _ _ _ _ _ _ _ _ r h => by simp [stowagelaw12_SolveAll.j1] at h, fun _ _ _ _ _ _ _ _ _ _ _ _ r h => by simp [stowagelaw12_SolveAll.l1] at h, fun _ _ _ _ _ _ _ _ _ _ _ r h => by simp [stowagelaw12_SolveAll.l2] at h⟩
  | k + 1 => by
    obtain ⟨ih0, ih1, ih2, ih3⟩ := stowagelaw12_SolveAll.mono_l k
    refine ⟨?_, ?_, ?_, ?_⟩
    · intro y0 y1 y2 y3 y4 y5
      unfold stowagelaw12_SolveAll.l0
      repeat' first
      | (with_reducible exact ih0 _ _ _ _ _ _)
      | (with_reducible exact ih1 _ _ _ _ _ _ _ _ _)
      | (with_reducible exact ih2 _ _ _ _ _ _ _ _ _ _ _ _)
      | (with_reducible exact ih3 _ _ _ _ _ _ _ _ _ _ _)
      | (with_reducible exact solve_Greedy.mono _ _ _ _)
      | (with_reducible exact stowageref12_Sum.mono _ _ _)
      | (with_reducible exact LeO.refl _)
      | (with_reducible exact LeO.none _)
      | (with_reducible refine LeO.ite ?_ ?_)
      | (with_reducible refine LeO.bind ?_ (fun _ => ?_))
      | exact ih0 _ _ _ _ _ _
      | exact ih1 _ _ _ _ _ _ _ _ _
      | exact ih2 _ _ _ _ _ _ _ _ _ _ _ _
      | exact ih3 _ _ _ _ _ _ _ _ _ _ _
      | exact solve_Greedy.mono _ _ _ _
      | exact stowageref12_Sum.mono _ _ _
      | exact LeO.none _
      | refine LeO.ite ?_ ?_
      | refine LeO.bind ?_ (fun _ => ?_)
    · intro y0 y1 y2 y3 y4 y5 y6 y7 y8
      unfold stowagelaw12_SolveAll.j1
      repeat' first
      | (with_reducible exact ih0 _ _ _ _ _ _)
      | (with_reducible exact ih1 _ _ _ _ _ _ _ _ _)
      | (with_reducible exact ih2 _ _ _ _ _ _ _ _ _ _ _ _)
      | (with_reducible exact ih3 _ _ _ _ _ _ _ _ _ _ _)
      | (with_reducible exact solve_Greedy.mono _ _ _ _)
      | (with_reducible exact stowageref12_Sum.mono _ _ _)
      | (with_reducible exact LeO.refl _)
      | (with_reducible exact LeO.none _)
      | (with_reducible refine LeO.ite ?_ ?_)
      | (with_reducible refine LeO.bind ?_ (fun _ => ?_))
      | exact ih0 _ _ _ _ _ _
      | exact ih1 _ _ _ _ _ _ _ _ _
      | exact ih2 _ _ _ _ _ _ _ _ _ _ _ _
      | exact ih3 _ _ _ _ _ _ _ _ _ _ _
      | exact solve_Greedy.mono _ _ _ _
      | exact stowageref12_Sum.mono _ _ _
      | exact LeO.none _
      | refine LeO.ite ?_ ?_
      | refine LeO.bind ?_ (fun _ => ?_)
    · intro y0 y1 y2 y3 y4 y5 y6 y7 y8 y9 y10 y11
      unfold stowagelaw12_SolveAll.l1
      repeat' first
      | (with_reducible exact ih0 _ _ _ _ _ _)
      | (with_reducible exact ih1 _ _ _ _ _ _ _ _ _)
      | (with_reducible exact ih2 _ _ _ _ _ _ _ _ _ _ _ _)
      | (with_reducible exact ih3 _ _ _ _ _ _ _ _ _ _ _)
      | (with_reducible exact solve_Greedy.mono _ _ _ _)
      | (with_reducible exact stowageref12_Sum.mono _ _ _)
      | (with_reducible exact LeO.refl _)
      | (with_reducible exact LeO.none _)
      | (with_reducible refine LeO.ite ?_ ?_)
      | (with_reducible refine LeO.bind ?_ (fun _ => ?_))
      | exact ih0 _ _ _ _ _ _
      | exact ih1 _ _ _ _ _ _ _ _ _
      | exact ih2 _ _ _ _ _ _ _ _ _ _ _ _
      | exact ih3 _ _ _ _ _ _ _ _ _ _ _
      | exact solve_Greedy.mono _ _ _ _
      | exact stowageref12_Sum.mono _ _ _
      | exact LeO.none _
      | refine LeO.ite ?_ ?_
      | refine LeO.bind ?_ (fun _ => ?_)
    · intro y0 y1 y2 y3 y4 y5 y6 y7 y8 y9 y10
      unfold stowagelaw12_SolveAll.l2
      repeat' first
      | (with_reducible exact ih0 _ _ _ _ _ _)
      | (with_reducible exact ih1 _ _ _ _ _ _ _ _ _)
      | (with_reducible exact ih2 _ _ _ _ _ _ _ _ _ _ _ _)
      | (with_reducible exact ih3 _ _ _ _ _ _ _ _ _ _ _)
      | (with_reducible exact solve_Greedy.mono _ _ _ _)
      | (with_reducible exact stowageref12_Sum.mono _ _ _)
      | (with_reducible exact LeO.refl _)
      | (with_reducible exact LeO.none _)
      | (with_reducible refine LeO.ite ?_ ?_)
      | (with_reducible refine LeO.bind ?_ (fun _ => ?_))
      | exact ih0 _ _ _ _ _ _
      | exact ih1 _ _ _ _ _ _ _ _ _
      | exact ih2 _ _ _ _ _ _ _ _ _ _ _ _
      | exact ih3 _ _ _ _ _ _ _ _ _ _ _
      | exact solve_Greedy.mono _ _ _ _
      | exact stowageref12_Sum.mono _ _ _
      | exact LeO.none _
      | refine LeO.ite ?_ ?_
      | refine LeO.bind ?_ (fun _ => ?_)
theorem stowagelaw12_SolveAll.mono : ∀ a0 a1 a2 a3 k, LeO (stowagelaw12_SolveAll.f k a0 a1 a2 a3) (stowagelaw12_SolveAll.f (k + 1) a0 a1 a2 a3) := by
  intro a0 a1 a2 a3 k
  obtain ⟨ih0, ih1, ih2, ih3⟩ := stowagelaw12_SolveAll.mono_l k
  unfold stowagelaw12_SolveAll.f
  repeat' first
      | (with_reducible exact ih0 _ _ _ _ _ _)
      | (with_reducible exact ih1 _ _ _ _ _ _ _ _ _)
      | (with_reducible exact ih2 _ _ _ _ _ _ _ _ _ _ _ _)
      | (with_reducible exact ih3 _ _ _ _ _ _ _ _ _ _ _)
      | (with_reducible exact solve_Greedy.mono _ _ _ _)
      | (with_reducible exact stowageref12_Sum.mono _ _ _)
      | (with_reducible exact LeO.refl _)
      | (with_reducible exact LeO.none _)
      | (with_reducible refine LeO.ite ?_ ?_)
      | (with_reducible refine LeO.bind ?_ (fun _ => ?_))
      | exact ih0 _ _ _ _ _ _
      | exact ih1 _ _ _ _ _ _ _ _ _
      | exact ih2 _ _ _ _ _ _ _ _ _ _ _ _
      | exact ih3 _ _ _ _ _ _ _ _ _ _ _
      | exact solve_Greedy.mono _ _ _ _
      | exact stowageref12_Sum.mono _ _ _
      | exact LeO.none _
      | refine LeO.ite ?_ ?_
      | refine LeO.bind ?_ (fun _ => ?_)
set_option maxHeartbeats 8000000 in
set_option maxRecDepth 100000 in
theorem stowagelaw12_SolveAll.calls (k : Nat) (a0 : Int) (A1 : Option Addr) (c1 : Nat) (l1 : List Int) (A2 : Option Addr) (c2 : Nat) (l2 : List (List Int)) (A3 : Option Addr) (c3 : Nat) (l3 : List Int) (r : Bool) (w : World) (hr1 : Kd.C (Kd.int .u8) w A1 l1.length l1) (hc1 : l1.length ≤ c1) (hr2 : Kd.C (Kd.slice 3 (Kd.int .i64)) w A2 l2.length l2) (hc2 : l2.length ≤ c2) (hr3 : Kd.C (Kd.int .u8) w A3 l3.length l3) (hc3 : l3.length ≤ c3) (h : stowagelaw12_SolveAll.f k a0 l1 l2 l3 = some r) :
    Calls Try.prog 5 #[.int .u8 a0, .slice A1 l1.length c1, .slice A2 l2.length c2, .slice A3 l3.length c3] w fun e w' => e = .returned (.bool r) ∧ Below w.heap.size w w' := by
  have HR1 := Aside0.mk hr1
  have HC1 := Aside0.mk hc1
  clear hr1 hc1
  have HR2 := Aside0.mk hr2
  have HC2 := Aside0.mk hc2
  clear hr2 hc2
  have HR3 := Aside0.mk hr3
  have HC3 := Aside0.mk hc3
  clear hr3 hc3
  have HB := Aside0.mk (Below.refl w.heap.size w)
  have H : (stowagelaw12_SolveAll.l0 k l1 l2 l3 (wrap64 (Int.tmod a0 120)) (([] : List Int)) 0) = some r := h
  clear h
  obtain ⟨y123, hy123⟩ : ∃ y_ : List Int, y_ = (([] : List Int)) := ⟨_, rfl⟩
  replace H : (stowagelaw12_SolveAll.l0 k l1 l2 l3 (wrap64 (Int.tmod a0 120)) y123 0) = some r := by first | (rw [hy123]; with_reducible exact H) | (have H2_ := (Option.bind_some _ _).symm.trans H; rw [hy123]; with_reducible exact H2_) | (have H2_ := (Option.bind_some _ _).symm.trans H; with_reducible exact H2_) | with_reducible exact H | (rw [hy123]; exact H) | exact H
  have Ny123 := Aside0.mk hy123
  clear hy123
  have H' := Aside0.mk H
  clear H
  go_enter Try.func5, Try.ntmps5
  go_wp2_with (first | ((with_reducible refine gate_dst (N := 28) rfl ?_); (try (refine gate_guard (by rfl) ?_; dsimp only)); refine Kd.R_lit (Kd.int .i64) _ 3 ?hg (N := 28) ?hd (xs := ([] : List Int)) (inner := []) (ok := fun _ => True) (okp := fun _ => True) ?hr ?hp (fun _ hk => hk) trivial (Below.refl _ _) (Nat.le_refl _) (by simp) ?_; (case hd => rfl); (case hg => rfl); (case hr => first | (go_simp; done) | (go_simp; rfl)); (case hp => exact (Reps.none _ _)); intro v124 w5 ho6 hb hg_ hnew_; clear hg_ hnew_; (first | rw [← Ny123.out] at ho6 | (simp only [Int.reduceToNat] at ho6; rw [← Ny123.out] at ho6)); have n0_ := Aside0.mk (Kd.R_lower ho6 (below_size (by repeat (first | (with_reducible first | exact HB.out | apply below_alloc | apply pw_below_drewN | apply below_drew1) | exact HB.out)))); have n1_ := Aside0.mk (below_step (by repeat (first | (with_reducible first | exact HB.out | apply below_alloc | apply pw_below_drewN | apply below_drew1) | exact HB.out)) hb); clear HB; have HO125 := n0_; have HB := n1_; clear n0_ n1_; clear hb ho6))
  repeat (go_quiet (first | ((with_reducible refine gate_dst (N := 28) rfl ?_); (try (refine gate_guard (by rfl) ?_; dsimp only)); refine Kd.R_lit (Kd.int .i64) _ 3 ?hg (N := 28) ?hd (xs := ([] : List Int)) (inner := []) (ok := fun _ => True) (okp := fun _ => True) ?hr ?hp (fun _ hk => hk) trivial (Below.refl _ _) (Nat.le_refl _) (by simp) ?_; (case hd => rfl); (case hg => rfl); (case hr => first | (go_simp; done) | (go_simp; rfl)); (case hp => exact (Reps.none _ _)); intro v124 w5 ho6 hb hg_ hnew_; clear hg_ hnew_; (first | rw [← Ny123.out] at ho6 | (simp only [Int.reduceToNat] at ho6; rw [← Ny123.out] at ho6)); have n0_ := Aside0.mk (Kd.R_lower ho6 (below_size (by repeat (first | (with_reducible first | exact HB.out | apply below_alloc | apply pw_below_drewN | apply below_drew1) | exact HB.out)))); have n1_ := Aside0.mk (below_step (by repeat (first | (with_reducible first | exact HB.out | apply below_alloc | apply pw_below_drewN | apply below_drew1) | exact HB.out)) hb); clear HB; have HO125 := n0_; have HB := n1_; clear n0_ n1_; clear hb ho6)); try go_wp2_with (first | ((with_reducible refine gate_dst (N := 28) rfl ?_); (try (refine gate_guard (by rfl) ?_; dsimp only)); refine Kd.R_lit (Kd.int .i64) _ 3 ?hg (N := 28) ?hd (xs := ([] : List Int)) (inner := []) (ok := fun _ => True) (okp := fun _ => True) ?hr ?hp (fun _ hk => hk) trivial (Below.refl _ _) (Nat.le_refl _) (by simp) ?_; (case hd => rfl); (case hg => rfl); (case hr => first | (go_simp; done) | (go_simp; rfl)); (case hp => exact (Reps.none _ _)); intro v124 w5 ho6 hb hg_ hnew_; clear hg_ hnew_; (first | rw [← Ny123.out] at ho6 | (simp only [Int.reduceToNat] at ho6; rw [← Ny123.out] at ho6)); have n0_ := Aside0.mk (Kd.R_lower ho6 (below_size (by repeat (first | (with_reducible first | exact HB.out | apply below_alloc | apply pw_below_drewN | apply below_drew1) | exact HB.out)))); have n1_ := Aside0.mk (below_step (by repeat (first | (with_reducible first | exact HB.out | apply below_alloc | apply pw_below_drewN | apply below_drew1) | exact HB.out)) hb); clear HB; have HO125 := n0_; have HB := n1_; clear n0_ n1_; clear hb ho6)))
  go_loopg [10, 11] k (fun kq v10 v11 w' => ∃ (x10_1 : List Int) (x11_1 : Int), v11 = .int .i64 x11_1 ∧ Aside0 (stowagelaw12_SolveAll.l0 kq l1 l2 l3 (wrap64 (Int.tmod a0 120)) x10_1 x11_1 = some r) ∧ Aside0 (kq ≤ k) ∧ Aside0 (Kd.R (Kd.int .i64) 3 w' w.heap.size (fun _ => True) v10 x10_1) ∧ Aside0 (Below w.heap.size w w'))
  case atStart => exact ⟨(y123), (0), (by first | rfl | (simp; done) | (simp [*]; done)), H', ⟨Nat.le_refl _⟩, ⟨by (with_reducible repeat (first | apply Kd.R_alloc | apply Kd.R_drewN | apply Kd.R_drew)); exact HO125.out⟩, ⟨by repeat (first | (with_reducible first | exact HB.out | apply below_alloc | apply pw_below_drewN | apply below_drew1) | exact HB.out)⟩⟩
  case round =>
    clear H'
    try clear c1
    try clear c2
    try clear p2
    try clear c3
    try clear c5
    try clear p6
    obtain ⟨x10_1, x11_1, rfl, HA, HK1, HO_10, HB⟩ := hrel
    cases gk with
    | zero => exact absurd HA.out (by simp [stowagelaw12_SolveAll.l0])
    | succ k1 =>
      have H := HA.out
      clear HA
      simp only [stowagelaw12_SolveAll.l0] at H
      by_cases c7 : x11_1 < (l2.length : Int)
      · rw [if_pos c7] at H
        have c7b0 : decide (x11_1 < (l2.length : Int)) = true := decide_eq_true c7
        clear c7
        by_cases c8 : x11_1 < (l1.length : Int)
        · rw [if_pos c8] at H
          have c8b0 : decide (x11_1 < (l1.length : Int)) = true := decide_eq_true c8
          clear c8
          by_cases c9 : 0 ≤ x11_1
          · rw [if_pos c9] at H
            have c9b0 : decide (0 ≤ x11_1) = true := decide_eq_true c9
            clear c9
            by_cases c10 : x10_1.length < 17592186044416
            · rw [if_pos c10] at H
              have LMc10 := Aside0.mk c10
              clear c10
              obtain ⟨y127, hy127⟩ : ∃ y_ : List Int, y_ = (x10_1 ++ [wrap64 (Int.tmod (rd l1 x11_1) 8)]) := ⟨_, rfl⟩
              replace H : (stowagelaw12_SolveAll.l0 k1 l1 l2 l3 (wrap64 (Int.tmod a0 120)) y127 (wrap64 (x11_1 + 1))) = some r := by first | (rw [hy127]; with_reducible exact H) | (have H2_ := (Option.bind_some _ _).symm.trans H; rw [hy127]; with_reducible exact H2_) | (have H2_ := (Option.bind_some _ _).symm.trans H; with_reducible exact H2_) | with_reducible exact H | (rw [hy127]; exact H) | exact H
              have Ny127 := Aside0.mk hy127
              clear hy127
              have H' := Aside0.mk H
              clear H
              have p126 : 0 ≤ (x11_1 : Int) := of_decide_eq_true (by first | (with_reducible assumption) | assumption)
              have q126 : x11_1 < (l1.length : Int) := of_decide_eq_true (by first | (with_reducible assumption) | assumption)
              obtain ⟨ad126, e126, hx126_0⟩ := Kd.at_int HR1.out x11_1 p126 q126
              cases e126
              replace hx126_0 := (HB.out.cell (World.block_lt_of_cell? w _ hx126_0)).trans hx126_0
              replace p126 := eq_true p126
              replace q126 := eq_true q126
              go_wp2_with (first | ((with_reducible refine gate_builtin (b := .append) (xs := #[.tmp 45, .tmp 47]) rfl ?_); (try (refine gate_guard (by rfl) ?_; dsimp only)); at_builtin; refine Kd.R_append (Kd.int .i64) (w0 := w) w.heap.size rfl (.tmp 45) (.tmp 47) 22 3 (.int .i64 0) 8 rfl Try.underlying22 info3 rfl (by decide) (by omega) u10 x10_1 (wrap64 (Int.tmod (rd l1 x11_1) 8)) [.int .i64 (wrap64 (Int.tmod (rd l1 x11_1) 8))] (fun _ => True) (fun _ => False) rfl rfl ?aP (fun _ hk => hk.elim) ?aF ?aO ?aB ?aS ?aL ?_; (case aP => exact rfl); (case aB => exact (by repeat (first | (with_reducible first | exact HB.out | apply below_alloc | apply pw_below_drewN | apply below_drew1) | exact HB.out))); (case aF => exact (fun _ _ => trivial)); (case aO => exact (by (with_reducible repeat (first | apply Kd.R_alloc | apply Kd.R_drewN | apply Kd.R_drew)); exact HO_10.out)); (case aS => exact (below_size (by repeat (first | (with_reducible first | exact HB.out | apply below_alloc | apply pw_below_drewN | apply below_drew1) | exact HB.out)))); (case aL => have := LMc10.out; omega); intro v128 w11 ho hb hg hat; rw [← Ny127.out] at ho; have n0_ := Aside0.mk (hb); have n1_ := Aside0.mk (ho); clear HB; clear HO_10; have HB := n0_; have HO129 := n1_; clear n0_ n1_; clear ho hb hg hat))
              repeat (go_quiet (first | ((with_reducible refine gate_builtin (b := .append) (xs := #[.tmp 45, .tmp 47]) rfl ?_); (try (refine gate_guard (by rfl) ?_; dsimp only)); at_builtin; refine Kd.R_append (Kd.int .i64) (w0 := w) w.heap.size rfl (.tmp 45) (.tmp 47) 22 3 (.int .i64 0) 8 rfl Try.underlying22 info3 rfl (by decide) (by omega) u10 x10_1 (wrap64 (Int.tmod (rd l1 x11_1) 8)) [.int .i64 (wrap64 (Int.tmod (rd l1 x11_1) 8))] (fun _ => True) (fun _ => False) rfl rfl ?aP (fun _ hk => hk.elim) ?aF ?aO ?aB ?aS ?aL ?_; (case aP => exact rfl); (case aB => exact (by repeat (first | (with_reducible first | exact HB.out | apply below_alloc | apply pw_below_drewN | apply below_drew1) | exact HB.out))); (case aF => exact (fun _ _ => trivial)); (case aO => exact (by (with_reducible repeat (first | apply Kd.R_alloc | apply Kd.R_drewN | apply Kd.R_drew)); exact HO_10.out)); (case aS => exact (below_size (by repeat (first | (with_reducible first | exact HB.out | apply below_alloc | apply pw_below_drewN | apply below_drew1) | exact HB.out)))); (case aL => have := LMc10.out; omega); intro v128 w11 ho hb hg hat; rw [← Ny127.out] at ho; have n0_ := Aside0.mk (hb); have n1_ := Aside0.mk (ho); clear HB; clear HO_10; have HB := n0_; have HO129 := n1_; clear n0_ n1_; clear ho hb hg hat)); try go_wp2_with (first | ((with_reducible refine gate_builtin (b := .append) (xs := #[.tmp 45, .tmp 47]) rfl ?_); (try (refine gate_guard (by rfl) ?_; dsimp only)); at_builtin; refine Kd.R_append (Kd.int .i64) (w0 := w) w.heap.size rfl (.tmp 45) (.tmp 47) 22 3 (.int .i64 0) 8 rfl Try.underlying22 info3 rfl (by decide) (by omega) u10 x10_1 (wrap64 (Int.tmod (rd l1 x11_1) 8)) [.int .i64 (wrap64 (Int.tmod (rd l1 x11_1) 8))] (fun _ => True) (fun _ => False) rfl rfl ?aP (fun _ hk => hk.elim) ?aF ?aO ?aB ?aS ?aL ?_; (case aP => exact rfl); (case aB => exact (by repeat (first | (with_reducible first | exact HB.out | apply below_alloc | apply pw_below_drewN | apply below_drew1) | exact HB.out))); (case aF => exact (fun _ _ => trivial)); (case aO => exact (by (with_reducible repeat (first | apply Kd.R_alloc | apply Kd.R_drewN | apply Kd.R_drew)); exact HO_10.out)); (case aS => exact (below_size (by repeat (first | (with_reducible first | exact HB.out | apply below_alloc | apply pw_below_drewN | apply below_drew1) | exact HB.out)))); (case aL => have := LMc10.out; omega); intro v128 w11 ho hb hg hat; rw [← Ny127.out] at ho; have n0_ := Aside0.mk (hb); have n1_ := Aside0.mk (ho); clear HB; clear HO_10; have HB := n0_; have HO129 := n1_; clear n0_ n1_; clear ho hb hg hat)))
              go_roundg k1
              case measure => have := HK1.out; omega
              case rel => exact ⟨(y127), (wrap64 (x11_1 + 1)), (by first | rfl | (simp; done) | (simp [*]; done)), H', ⟨by have := HK1.out; omega⟩, ⟨by (with_reducible repeat (first | apply Kd.R_alloc | apply Kd.R_drewN | apply Kd.R_drew)); exact HO129.out⟩, ⟨by repeat (first | (with_reducible first | exact HB.out | apply below_alloc | apply pw_below_drewN | apply below_drew1) | exact HB.out)⟩⟩
            · rw [if_neg c10] at H
              exact absurd H (by simp)
          · rw [if_neg c9] at H
            exact absurd H (by simp)
        · rw [if_neg c8] at H
          have c8b0 : decide (x11_1 < (l1.length : Int)) = false := decide_eq_false c8
          clear c8
          by_cases c12 : x10_1.length < 17592186044416
          · rw [if_pos c12] at H
            have LMc12 := Aside0.mk c12
            clear c12
            obtain ⟨y130, hy130⟩ : ∃ y_ : List Int, y_ = (x10_1 ++ [0]) := ⟨_, rfl⟩
            replace H : (stowagelaw12_SolveAll.l0 k1 l1 l2 l3 (wrap64 (Int.tmod a0 120)) y130 (wrap64 (x11_1 + 1))) = some r := by first | (rw [hy130]; with_reducible exact H) | (have H2_ := (Option.bind_some _ _).symm.trans H; rw [hy130]; with_reducible exact H2_) | (have H2_ := (Option.bind_some _ _).symm.trans H; with_reducible exact H2_) | with_reducible exact H | (rw [hy130]; exact H) | exact H
            have Ny130 := Aside0.mk hy130
            clear hy130
            have H' := Aside0.mk H
            clear H
            go_wp2_with (first | ((with_reducible refine gate_builtin (b := .append) (xs := #[.tmp 45, .tmp 47]) rfl ?_); (try (refine gate_guard (by rfl) ?_; dsimp only)); at_builtin; refine Kd.R_append (Kd.int .i64) (w0 := w) w.heap.size rfl (.tmp 45) (.tmp 47) 22 3 (.int .i64 0) 8 rfl Try.underlying22 info3 rfl (by decide) (by omega) u10 x10_1 0 [.int .i64 0] (fun _ => True) (fun _ => False) rfl rfl ?aP (fun _ hk => hk.elim) ?aF ?aO ?aB ?aS ?aL ?_; (case aP => exact rfl); (case aB => exact (by repeat (first | (with_reducible first | exact HB.out | apply below_alloc | apply pw_below_drewN | apply below_drew1) | exact HB.out))); (case aF => exact (fun _ _ => trivial)); (case aO => exact (by (with_reducible repeat (first | apply Kd.R_alloc | apply Kd.R_drewN | apply Kd.R_drew)); exact HO_10.out)); (case aS => exact (below_size (by repeat (first | (with_reducible first | exact HB.out | apply below_alloc | apply pw_below_drewN | apply below_drew1) | exact HB.out)))); (case aL => have := LMc12.out; omega); intro v131 w13 ho hb hg hat; rw [← Ny130.out] at ho; have n0_ := Aside0.mk (hb); have n1_ := Aside0.mk (ho); clear HB; clear HO_10; have HB := n0_; have HO132 := n1_; clear n0_ n1_; clear ho hb hg hat))
            repeat (go_quiet (first | ((with_reducible refine gate_builtin (b := .append) (xs := #[.tmp 45, .tmp 47]) rfl ?_); (try (refine gate_guard (by rfl) ?_; dsimp only)); at_builtin; refine Kd.R_append (Kd.int .i64) (w0 := w) w.heap.size rfl (.tmp 45) (.tmp 47) 22 3 (.int .i64 0) 8 rfl Try.underlying22 info3 rfl (by decide) (by omega) u10 x10_1 0 [.int .i64 0] (fun _ => True) (fun _ => False) rfl rfl ?aP (fun _ hk => hk.elim) ?aF ?aO ?aB ?aS ?aL ?_; (case aP => exact rfl); (case aB => exact (by repeat (first | (with_reducible first | exact HB.out | apply below_alloc | apply pw_below_drewN | apply below_drew1) | exact HB.out))); (case aF => exact (fun _ _ => trivial)); (case aO => exact (by (with_reducible repeat (first | apply Kd.R_alloc | apply Kd.R_drewN | apply Kd.R_drew)); exact HO_10.out)); (case aS => exact (below_size (by repeat (first | (with_reducible first | exact HB.out | apply below_alloc | apply pw_below_drewN | apply below_drew1) | exact HB.out)))); (case aL => have := LMc12.out; omega); intro v131 w13 ho hb hg hat; rw [← Ny130.out] at ho; have n0_ := Aside0.mk (hb); have n1_ := Aside0.mk (ho); clear HB; clear HO_10; have HB := n0_; have HO132 := n1_; clear n0_ n1_; clear ho hb hg hat)); try go_wp2_with (first | ((with_reducible refine gate_builtin (b := .append) (xs := #[.tmp 45, .tmp 47]) rfl ?_); (try (refine gate_guard (by rfl) ?_; dsimp only)); at_builtin; refine Kd.R_append (Kd.int .i64) (w0 := w) w.heap.size rfl (.tmp 45) (.tmp 47) 22 3 (.int .i64 0) 8 rfl Try.underlying22 info3 rfl (by decide) (by omega) u10 x10_1 0 [.int .i64 0] (fun _ => True) (fun _ => False) rfl rfl ?aP (fun _ hk => hk.elim) ?aF ?aO ?aB ?aS ?aL ?_; (case aP => exact rfl); (case aB => exact (by repeat (first | (with_reducible first | exact HB.out | apply below_alloc | apply pw_below_drewN | apply below_drew1) | exact HB.out))); (case aF => exact (fun _ _ => trivial)); (case aO => exact (by (with_reducible repeat (first | apply Kd.R_alloc | apply Kd.R_drewN | apply Kd.R_drew)); exact HO_10.out)); (case aS => exact (below_size (by repeat (first | (with_reducible first | exact HB.out | apply below_alloc | apply pw_below_drewN | apply below_drew1) | exact HB.out)))); (case aL => have := LMc12.out; omega); intro v131 w13 ho hb hg hat; rw [← Ny130.out] at ho; have n0_ := Aside0.mk (hb); have n1_ := Aside0.mk (ho); clear HB; clear HO_10; have HB := n0_; have HO132 := n1_; clear n0_ n1_; clear ho hb hg hat)))
            go_roundg k1
            case measure => have := HK1.out; omega
            case rel => exact ⟨(y130), (wrap64 (x11_1 + 1)), (by first | rfl | (simp; done) | (simp [*]; done)), H', ⟨by have := HK1.out; omega⟩, ⟨by (with_reducible repeat (first | apply Kd.R_alloc | apply Kd.R_drewN | apply Kd.R_drew)); exact HO132.out⟩, ⟨by repeat (first | (with_reducible first | exact HB.out | apply below_alloc | apply pw_below_drewN | apply below_drew1) | exact HB.out)⟩⟩
          · rw [if_neg c12] at H
            exact absurd H (by simp)
      · rw [if_neg c7] at H
        have c7b0 : decide (x11_1 < (l2.length : Int)) = false := decide_eq_false c7
        clear c7
        replace H := Option.bind_eq_some_iff.mp H
        obtain ⟨⟨t133, t134⟩, A140, H⟩ := H
        replace H : ((solve_Best.f (wrap64 (Int.tmod a0 120)) x10_1 l2).bind fun bt137 => ((stowagelaw12_awake.f).bind fun t142 => (if t142 = true then (stowagelaw12_SolveAll.j1 k1 l2 l3 (wrap64 (Int.tmod a0 120)) x10_1 t133 t134 bt137.1 bt137.2.1 (t134 != bt137.2.2)) else (stowagelaw12_SolveAll.j1 k1 l2 l3 (wrap64 (Int.tmod a0 120)) x10_1 t133 t134 bt137.1 bt137.2.1 true)))) = some r := H
        have A14 := Aside0.mk A140
        clear A140
        replace H := Option.bind_eq_some_iff.mp H
        obtain ⟨⟨t137, t138, t139⟩, A150, H⟩ := H
        replace H : ((stowagelaw12_awake.f).bind fun t142 => (if t142 = true then (stowagelaw12_SolveAll.j1 k1 l2 l3 (wrap64 (Int.tmod a0 120)) x10_1 t133 t134 t137 t138 (t134 != t139)) else (stowagelaw12_SolveAll.j1 k1 l2 l3 (wrap64 (Int.tmod a0 120)) x10_1 t133 t134 t137 t138 true))) = some r := H
        have A15 := Aside0.mk A150
        clear A150
        have HC16 := Aside0.mk H
        clear H
        obtain ⟨Ao17, co17, eo17⟩ := Kd.R_slice HO_10.out
        subst eo17
        go_upto_region 12 with (first | (go_at_call 9; (with_reducible refine (solve_Greedy.calls k1 (wrap64 (Int.tmod a0 120)) _ _ x10_1 _ _ l2 t133 t134 _ ?side1 ?side2 ?side3 ?side4 A14.out).mono ?_); (case side1 => repeat (first | exact (Kd.R_reads' HO_10.out).2.2 | (with_reducible refine Kd.C_alloc ?_ _) | (with_reducible refine Kd.C_drewN ?_ _) | (with_reducible refine Kd.C_drew ?_))); (case side2 => exact (Kd.R_reads' HO_10.out).2.1); (case side3 => repeat (first | exact (Kd.C_below HR2.out HB.out) | (with_reducible refine Kd.C_alloc ?_ _) | (with_reducible refine Kd.C_drewN ?_ _) | (with_reducible refine Kd.C_drew ?_))); (case side4 => exact HC2.out); rintro e w18 ⟨v135, rfl, ho0, hb⟩; have n0_ := Aside0.mk (Kd.R_elder' (by (with_reducible repeat (first | apply Kd.R_alloc | apply Kd.R_drewN | apply Kd.R_drew)); exact HO_10.out) (Kd.R_base ho0) hb); have n1_ := Aside0.mk (Kd.R_lower (Kd.R_new' ho0 (Kd.R_lt (by (with_reducible repeat (first | apply Kd.R_alloc | apply Kd.R_drewN | apply Kd.R_drew)); exact HO_10.out))) (below_size (by repeat (first | (with_reducible first | exact HB.out | apply below_alloc | apply pw_below_drewN | apply below_drew1) | exact HB.out)))); have n2_ := Aside0.mk (below_step (by repeat (first | (with_reducible first | exact HB.out | apply below_alloc | apply pw_below_drewN | apply below_drew1) | exact HB.out)) hb); clear HO_10; clear HB; have HO_10 := n0_; have HO136 := n1_; have HB := n2_; clear n0_ n1_ n2_; (try clear hb); (try clear hb2); (try clear hk); (try clear hi); (try clear ho0)) | (go_at_call 14; (with_reducible refine (solve_Best.calls (wrap64 (Int.tmod a0 120)) _ _ x10_1 _ _ l2 t137 t138 t139 _ ?side1 ?side2 ?side3 ?side4 A15.out).mono ?_); (case side1 => repeat (first | exact (Kd.R_reads' HO_10.out).2.2 | (with_reducible refine Kd.C_alloc ?_ _) | (with_reducible refine Kd.C_drewN ?_ _) | (with_reducible refine Kd.C_drew ?_))); (case side2 => exact (Kd.R_reads' HO_10.out).2.1); (case side3 => repeat (first | exact (Kd.C_below HR2.out HB.out) | (with_reducible refine Kd.C_alloc ?_ _) | (with_reducible refine Kd.C_drewN ?_ _) | (with_reducible refine Kd.C_drew ?_))); (case side4 => exact HC2.out); rintro e w19 ⟨v140, rfl, ho0, hb⟩; have n0_ := Aside0.mk (Kd.R_elder' (by (with_reducible repeat (first | apply Kd.R_alloc | apply Kd.R_drewN | apply Kd.R_drew)); exact HO_10.out) (Kd.R_base ho0) hb); have n1_ := Aside0.mk (Kd.R_elder' (by (with_reducible repeat (first | apply Kd.R_alloc | apply Kd.R_drewN | apply Kd.R_drew)); exact HO136.out) (Kd.R_base ho0) hb); have n2_ := Aside0.mk (Kd.R_lower (Kd.R_new' (Kd.R_new' ho0 (Kd.R_lt (by (with_reducible repeat (first | apply Kd.R_alloc | apply Kd.R_drewN | apply Kd.R_drew)); exact HO_10.out))) (Kd.R_lt (by (with_reducible repeat (first | apply Kd.R_alloc | apply Kd.R_drewN | apply Kd.R_drew)); exact HO136.out))) (below_size (by repeat (first | (with_reducible first | exact HB.out | apply below_alloc | apply pw_below_drewN | apply below_drew1) | exact HB.out)))); have n3_ := Aside0.mk (below_step (by repeat (first | (with_reducible first | exact HB.out | apply below_alloc | apply pw_below_drewN | apply below_drew1) | exact HB.out)) hb); clear HO_10; clear HO136; clear HB; have HO_10 := n0_; have HO136 := n1_; have HO141 := n2_; have HB := n3_; clear n0_ n1_ n2_ n3_; (try clear hb); (try clear hb2); (try clear hk); (try clear hi); (try clear ho0)))
        repeat (go_quiet (first | (go_at_call 9; (with_reducible refine (solve_Greedy.calls k1 (wrap64 (Int.tmod a0 120)) _ _ x10_1 _ _ l2 t133 t134 _ ?side1 ?side2 ?side3 ?side4 A14.out).mono ?_); (case side1 => repeat (first | exact (Kd.R_reads' HO_10.out).2.2 | (with_reducible refine Kd.C_alloc ?_ _) | (with_reducible refine Kd.C_drewN ?_ _) | (with_reducible refine Kd.C_drew ?_))); (case side2 => exact (Kd.R_reads' HO_10.out).2.1); (case side3 => repeat (first | exact (Kd.C_below HR2.out HB.out) | (with_reducible refine Kd.C_alloc ?_ _) | (with_reducible refine Kd.C_drewN ?_ _) | (with_reducible refine Kd.C_drew ?_))); (case side4 => exact HC2.out); rintro e w18 ⟨v135, rfl, ho0, hb⟩; have n0_ := Aside0.mk (Kd.R_elder' (by (with_reducible repeat (first | apply Kd.R_alloc | apply Kd.R_drewN | apply Kd.R_drew)); exact HO_10.out) (Kd.R_base ho0) hb); have n1_ := Aside0.mk (Kd.R_lower (Kd.R_new' ho0 (Kd.R_lt (by (with_reducible repeat (first | apply Kd.R_alloc | apply Kd.R_drewN | apply Kd.R_drew)); exact HO_10.out))) (below_size (by repeat (first | (with_reducible first | exact HB.out | apply below_alloc | apply pw_below_drewN | apply below_drew1) | exact HB.out)))); have n2_ := Aside0.mk (below_step (by repeat (first | (with_reducible first | exact HB.out | apply below_alloc | apply pw_below_drewN | apply below_drew1) | exact HB.out)) hb); clear HO_10; clear HB; have HO_10 := n0_; have HO136 := n1_; have HB := n2_; clear n0_ n1_ n2_; (try clear hb); (try clear hb2); (try clear hk); (try clear hi); (try clear ho0)) | (go_at_call 14; (with_reducible refine (solve_Best.calls (wrap64 (Int.tmod a0 120)) _ _ x10_1 _ _ l2 t137 t138 t139 _ ?side1 ?side2 ?side3 ?side4 A15.out).mono ?_); (case side1 => repeat (first | exact (Kd.R_reads' HO_10.out).2.2 | (with_reducible refine Kd.C_alloc ?_ _) | (with_reducible refine Kd.C_drewN ?_ _) | (with_reducible refine Kd.C_drew ?_))); (case side2 => exact (Kd.R_reads' HO_10.out).2.1); (case side3 => repeat (first | exact (Kd.C_below HR2.out HB.out) | (with_reducible refine Kd.C_alloc ?_ _) | (with_reducible refine Kd.C_drewN ?_ _) | (with_reducible refine Kd.C_drew ?_))); (case side4 => exact HC2.out); rintro e w19 ⟨v140, rfl, ho0, hb⟩; have n0_ := Aside0.mk (Kd.R_elder' (by (with_reducible repeat (first | apply Kd.R_alloc | apply Kd.R_drewN | apply Kd.R_drew)); exact HO_10.out) (Kd.R_base ho0) hb); have n1_ := Aside0.mk (Kd.R_elder' (by (with_reducible repeat (first | apply Kd.R_alloc | apply Kd.R_drewN | apply Kd.R_drew)); exact HO136.out) (Kd.R_base ho0) hb); have n2_ := Aside0.mk (Kd.R_lower (Kd.R_new' (Kd.R_new' ho0 (Kd.R_lt (by (with_reducible repeat (first | apply Kd.R_alloc | apply Kd.R_drewN | apply Kd.R_drew)); exact HO_10.out))) (Kd.R_lt (by (with_reducible repeat (first | apply Kd.R_alloc | apply Kd.R_drewN | apply Kd.R_drew)); exact HO136.out))) (below_size (by repeat (first | (with_reducible first | exact HB.out | apply below_alloc | apply pw_below_drewN | apply below_drew1) | exact HB.out)))); have n3_ := Aside0.mk (below_step (by repeat (first | (with_reducible first | exact HB.out | apply below_alloc | apply pw_below_drewN | apply below_drew1) | exact HB.out)) hb); clear HO_10; clear HO136; clear HB; have HO_10 := n0_; have HO136 := n1_; have HO141 := n2_; have HB := n3_; clear n0_ n1_ n2_ n3_; (try clear hb); (try clear hb2); (try clear hk); (try clear hi); (try clear ho0))); go_upto_region 12 with (first | (go_at_call 9; (with_reducible refine (solve_Greedy.calls k1 (wrap64 (Int.tmod a0 120)) _ _ x10_1 _ _ l2 t133 t134 _ ?side1 ?side2 ?side3 ?side4 A14.out).mono ?_); (case side1 => repeat (first | exact (Kd.R_reads' HO_10.out).2.2 | (with_reducible refine Kd.C_alloc ?_ _) | (with_reducible refine Kd.C_drewN ?_ _) | (with_reducible refine Kd.C_drew ?_))); (case side2 => exact (Kd.R_reads' HO_10.out).2.1); (case side3 => repeat (first | exact (Kd.C_below HR2.out HB.out) | (with_reducible refine Kd.C_alloc ?_ _) | (with_reducible refine Kd.C_drewN ?_ _) | (with_reducible refine Kd.C_drew ?_))); (case side4 => exact HC2.out); rintro e w18 ⟨v135, rfl, ho0, hb⟩; have n0_ := Aside0.mk (Kd.R_elder' (by (with_reducible repeat (first | apply Kd.R_alloc | apply Kd.R_drewN | apply Kd.R_drew)); exact HO_10.out) (Kd.R_base ho0) hb); have n1_ := Aside0.mk (Kd.R_lower (Kd.R_new' ho0 (Kd.R_lt (by (with_reducible repeat (first | apply Kd.R_alloc | apply Kd.R_drewN | apply Kd.R_drew)); exact HO_10.out))) (below_size (by repeat (first | (with_reducible first | exact HB.out | apply below_alloc | apply pw_below_drewN | apply below_drew1) | exact HB.out)))); have n2_ := Aside0.mk (below_step (by repeat (first | (with_reducible first | exact HB.out | apply below_alloc | apply pw_below_drewN | apply below_drew1) | exact HB.out)) hb); clear HO_10; clear HB; have HO_10 := n0_; have HO136 := n1_; have HB := n2_; clear n0_ n1_ n2_; (try clear hb); (try clear hb2); (try clear hk); (try clear hi); (try clear ho0)) | (go_at_call 14; (with_reducible refine (solve_Best.calls (wrap64 (Int.tmod a0 120)) _ _ x10_1 _ _ l2 t137 t138 t139 _ ?side1 ?side2 ?side3 ?side4 A15.out).mono ?_); (case side1 => repeat (first | exact (Kd.R_reads' HO_10.out).2.2 | (with_reducible refine Kd.C_alloc ?_ _) | (with_reducible refine Kd.C_drewN ?_ _) | (with_reducible refine Kd.C_drew ?_))); (case side2 => exact (Kd.R_reads' HO_10.out).2.1); (case side3 => repeat (first | exact (Kd.C_below HR2.out HB.out) | (with_reducible refine Kd.C_alloc ?_ _) | (with_reducible refine Kd.C_drewN ?_ _) | (with_reducible refine Kd.C_drew ?_))); (case side4 => exact HC2.out); rintro e w19 ⟨v140, rfl, ho0, hb⟩; have n0_ := Aside0.mk (Kd.R_elder' (by (with_reducible repeat (first | apply Kd.R_alloc | apply Kd.R_drewN | apply Kd.R_drew)); exact HO_10.out) (Kd.R_base ho0) hb); have n1_ := Aside0.mk (Kd.R_elder' (by (with_reducible repeat (first | apply Kd.R_alloc | apply Kd.R_drewN | apply Kd.R_drew)); exact HO136.out) (Kd.R_base ho0) hb); have n2_ := Aside0.mk (Kd.R_lower (Kd.R_new' (Kd.R_new' ho0 (Kd.R_lt (by (with_reducible repeat (first | apply Kd.R_alloc | apply Kd.R_drewN | apply Kd.R_drew)); exact HO_10.out))) (Kd.R_lt (by (with_reducible repeat (first | apply Kd.R_alloc | apply Kd.R_drewN | apply Kd.R_drew)); exact HO136.out))) (below_size (by repeat (first | (with_reducible first | exact HB.out | apply below_alloc | apply pw_below_drewN | apply below_drew1) | exact HB.out)))); have n3_ := Aside0.mk (below_step (by repeat (first | (with_reducible first | exact HB.out | apply below_alloc | apply pw_below_drewN | apply below_drew1) | exact HB.out)) hb); clear HO_10; clear HO136; clear HB; have HO_10 := n0_; have HO136 := n1_; have HO141 := n2_; have HB := n3_; clear n0_ n1_ n2_ n3_; (try clear hb); (try clear hb2); (try clear hk); (try clear hi); (try clear ho0))))
        (try simp only [Act.put, List.setIfInBounds_toArray, List.set_cons_zero, List.set_cons_succ])
        go_cut [70] (fun v70 wc => ∃ (kq : Nat) (x70_15 : Bool), v70 = .bool x70_15 ∧ Aside0 (stowagelaw12_SolveAll.j1 kq l2 l3 (wrap64 (Int.tmod a0 120)) x10_1 t133 t134 t137 t138 x70_15 = some r) ∧ Aside0 (kq ≤ k1) ∧ Aside0 (Kd.R (Kd.int .i64) 3 wc w.heap.size (fun k_ => some k_ ≠ (v135 : Value).ownBlock ∧ some k_ ≠ (v140 : Value).ownBlock) (.slice Ao17 x10_1.length co17) x10_1) ∧ Aside0 (Kd.R (Kd.int .i64) 3 wc w.heap.size (fun k_ => some k_ ≠ ((.slice Ao17 x10_1.length co17) : Value).ownBlock ∧ some k_ ≠ (v140 : Value).ownBlock) v135 t133) ∧ Aside0 (Kd.R (Kd.int .i64) 3 wc w.heap.size (fun k_ => some k_ ≠ ((.slice Ao17 x10_1.length co17) : Value).ownBlock ∧ some k_ ≠ (v135 : Value).ownBlock) v140 t137) ∧ Aside0 (Below w.heap.size w wc))
        case first =>
          have H := HC16.out
          clear HC16
          replace H := Option.bind_eq_some_iff.mp H
          obtain ⟨t142, A200, H⟩ := H
          replace H : (if t142 = true then (stowagelaw12_SolveAll.j1 k1 l2 l3 (wrap64 (Int.tmod a0 120)) x10_1 t133 t134 t137 t138 (t134 != t139)) else (stowagelaw12_SolveAll.j1 k1 l2 l3 (wrap64 (Int.tmod a0 120)) x10_1 t133 t134 t137 t138 true)) = some r := H
          have A20 := Aside0.mk A200
          clear A200
          by_cases c21 : t142 = true
          · subst c21
            have H1 : (stowagelaw12_SolveAll.j1 k1 l2 l3 (wrap64 (Int.tmod a0 120)) x10_1 t133 t134 t137 t138 (t134 != t139)) = some r := by rw [if_pos rfl] at H; exact H
            clear H
            have H := H1
            clear H1
            have H' := Aside0.mk H
            clear H
            go_wp2_with (first | (go_at_call 11; (with_reducible refine (stowagelaw12_awake.calls  true _ A20.out).mono ?_); rintro e w22 ⟨rfl, hb⟩; have n0_ := Aside0.mk (Kd.R_below (by (with_reducible repeat (first | apply Kd.R_alloc | apply Kd.R_drewN | apply Kd.R_drew)); exact HO_10.out) hb); have n1_ := Aside0.mk (Kd.R_below (by (with_reducible repeat (first | apply Kd.R_alloc | apply Kd.R_drewN | apply Kd.R_drew)); exact HO136.out) hb); have n2_ := Aside0.mk (Kd.R_below (by (with_reducible repeat (first | apply Kd.R_alloc | apply Kd.R_drewN | apply Kd.R_drew)); exact HO141.out) hb); have n3_ := Aside0.mk (below_step (by repeat (first | (with_reducible first | exact HB.out | apply below_alloc | apply pw_below_drewN | apply below_drew1) | exact HB.out)) hb); clear HO_10; clear HO136; clear HO141; clear HB; have HO_10 := n0_; have HO136 := n1_; have HO141 := n2_; have HB := n3_; clear n0_ n1_ n2_ n3_; (try clear hb); (try clear hb2); (try clear hk); (try clear hi)))
            repeat (go_quiet (first | (go_at_call 11; (with_reducible refine (stowagelaw12_awake.calls  true _ A20.out).mono ?_); rintro e w22 ⟨rfl, hb⟩; have n0_ := Aside0.mk (Kd.R_below (by (with_reducible repeat (first | apply Kd.R_alloc | apply Kd.R_drewN | apply Kd.R_drew)); exact HO_10.out) hb); have n1_ := Aside0.mk (Kd.R_below (by (with_reducible repeat (first | apply Kd.R_alloc | apply Kd.R_drewN | apply Kd.R_drew)); exact HO136.out) hb); have n2_ := Aside0.mk (Kd.R_below (by (with_reducible repeat (first | apply Kd.R_alloc | apply Kd.R_drewN | apply Kd.R_drew)); exact HO141.out) hb); have n3_ := Aside0.mk (below_step (by repeat (first | (with_reducible first | exact HB.out | apply below_alloc | apply pw_below_drewN | apply below_drew1) | exact HB.out)) hb); clear HO_10; clear HO136; clear HO141; clear HB; have HO_10 := n0_; have HO136 := n1_; have HO141 := n2_; have HB := n3_; clear n0_ n1_ n2_ n3_; (try clear hb); (try clear hb2); (try clear hk); (try clear hi))); try go_wp2_with (first | (go_at_call 11; (with_reducible refine (stowagelaw12_awake.calls  true _ A20.out).mono ?_); rintro e w22 ⟨rfl, hb⟩; have n0_ := Aside0.mk (Kd.R_below (by (with_reducible repeat (first | apply Kd.R_alloc | apply Kd.R_drewN | apply Kd.R_drew)); exact HO_10.out) hb); have n1_ := Aside0.mk (Kd.R_below (by (with_reducible repeat (first | apply Kd.R_alloc | apply Kd.R_drewN | apply Kd.R_drew)); exact HO136.out) hb); have n2_ := Aside0.mk (Kd.R_below (by (with_reducible repeat (first | apply Kd.R_alloc | apply Kd.R_drewN | apply Kd.R_drew)); exact HO141.out) hb); have n3_ := Aside0.mk (below_step (by repeat (first | (with_reducible first | exact HB.out | apply below_alloc | apply pw_below_drewN | apply below_drew1) | exact HB.out)) hb); clear HO_10; clear HO136; clear HO141; clear HB; have HO_10 := n0_; have HO136 := n1_; have HO141 := n2_; have HB := n3_; clear n0_ n1_ n2_ n3_; (try clear hb); (try clear hb2); (try clear hk); (try clear hi))))
            go_meet
            case rel => exact ⟨_, ((t134 != t139)), (by first | rfl | (simp; done) | (simp [*]; done)), H', ⟨by have := HK1.out; first | omega | exact Nat.le_refl _⟩, ⟨by (with_reducible repeat (first | apply Kd.R_alloc | apply Kd.R_drewN | apply Kd.R_drew)); exact Kd.R_mono HO_10.out (fun _ hk => ⟨hk.1.2, hk.2⟩)⟩, ⟨by (with_reducible repeat (first | apply Kd.R_alloc | apply Kd.R_drewN | apply Kd.R_drew)); exact Kd.R_mono HO136.out (fun _ hk => ⟨hk.1.2, hk.2⟩)⟩, ⟨by (with_reducible repeat (first | apply Kd.R_alloc | apply Kd.R_drewN | apply Kd.R_drew)); exact Kd.R_mono HO141.out (fun _ hk => ⟨hk.1.2, hk.2⟩)⟩, ⟨by repeat (first | (with_reducible first | exact HB.out | apply below_alloc | apply pw_below_drewN | apply below_drew1) | exact HB.out)⟩⟩
          · replace c21 := Bool.eq_false_iff.mpr c21
            subst c21
            have H1 : (stowagelaw12_SolveAll.j1 k1 l2 l3 (wrap64 (Int.tmod a0 120)) x10_1 t133 t134 t137 t138 true) = some r := by rw [if_neg (show ¬ (false = true) by decide)] at H; exact H
            clear H
            have H := H1
            clear H1
            have H' := Aside0.mk H
            clear H
            go_wp2_with (first | (go_at_call 11; (with_reducible refine (stowagelaw12_awake.calls  false _ A20.out).mono ?_); rintro e w23 ⟨rfl, hb⟩; have n0_ := Aside0.mk (Kd.R_below (by (with_reducible repeat (first | apply Kd.R_alloc | apply Kd.R_drewN | apply Kd.R_drew)); exact HO_10.out) hb); have n1_ := Aside0.mk (Kd.R_below (by (with_reducible repeat (first | apply Kd.R_alloc | apply Kd.R_drewN | apply Kd.R_drew)); exact HO136.out) hb); have n2_ := Aside0.mk (Kd.R_below (by (with_reducible repeat (first | apply Kd.R_alloc | apply Kd.R_drewN | apply Kd.R_drew)); exact HO141.out) hb); have n3_ := Aside0.mk (below_step (by repeat (first | (with_reducible first | exact HB.out | apply below_alloc | apply pw_below_drewN | apply below_drew1) | exact HB.out)) hb); clear HO_10; clear HO136; clear HO141; clear HB; have HO_10 := n0_; have HO136 := n1_; have HO141 := n2_; have HB := n3_; clear n0_ n1_ n2_ n3_; (try clear hb); (try clear hb2); (try clear hk); (try clear hi)))
            repeat (go_quiet (first | (go_at_call 11; (with_reducible refine (stowagelaw12_awake.calls  false _ A20.out).mono ?_); rintro e w23 ⟨rfl, hb⟩; have n0_ := Aside0.mk (Kd.R_below (by (with_reducible repeat (first | apply Kd.R_alloc | apply Kd.R_drewN | apply Kd.R_drew)); exact HO_10.out) hb); have n1_ := Aside0.mk (Kd.R_below (by (with_reducible repeat (first | apply Kd.R_alloc | apply Kd.R_drewN | apply Kd.R_drew)); exact HO136.out) hb); have n2_ := Aside0.mk (Kd.R_below (by (with_reducible repeat (first | apply Kd.R_alloc | apply Kd.R_drewN | apply Kd.R_drew)); exact HO141.out) hb); have n3_ := Aside0.mk (below_step (by repeat (first | (with_reducible first | exact HB.out | apply below_alloc | apply pw_below_drewN | apply below_drew1) | exact HB.out)) hb); clear HO_10; clear HO136; clear HO141; clear HB; have HO_10 := n0_; have HO136 := n1_; have HO141 := n2_; have HB := n3_; clear n0_ n1_ n2_ n3_; (try clear hb); (try clear hb2); (try clear hk); (try clear hi))); try go_wp2_with (first | (go_at_call 11; (with_reducible refine (stowagelaw12_awake.calls  false _ A20.out).mono ?_); rintro e w23 ⟨rfl, hb⟩; have n0_ := Aside0.mk (Kd.R_below (by (with_reducible repeat (first | apply Kd.R_alloc | apply Kd.R_drewN | apply Kd.R_drew)); exact HO_10.out) hb); have n1_ := Aside0.mk (Kd.R_below (by (with_reducible repeat (first | apply Kd.R_alloc | apply Kd.R_drewN | apply Kd.R_drew)); exact HO136.out) hb); have n2_ := Aside0.mk (Kd.R_below (by (with_reducible repeat (first | apply Kd.R_alloc | apply Kd.R_drewN | apply Kd.R_drew)); exact HO141.out) hb); have n3_ := Aside0.mk (below_step (by repeat (first | (with_reducible first | exact HB.out | apply below_alloc | apply pw_below_drewN | apply below_drew1) | exact HB.out)) hb); clear HO_10; clear HO136; clear HO141; clear HB; have HO_10 := n0_; have HO136 := n1_; have HO141 := n2_; have HB := n3_; clear n0_ n1_ n2_ n3_; (try clear hb); (try clear hb2); (try clear hk); (try clear hi))))
            go_meet
            case rel => exact ⟨_, (true), (by first | rfl | (simp; done) | (simp [*]; done)), H', ⟨by have := HK1.out; first | omega | exact Nat.le_refl _⟩, ⟨by (with_reducible repeat (first | apply Kd.R_alloc | apply Kd.R_drewN | apply Kd.R_drew)); exact Kd.R_mono HO_10.out (fun _ hk => ⟨hk.1.2, hk.2⟩)⟩, ⟨by (with_reducible repeat (first | apply Kd.R_alloc | apply Kd.R_drewN | apply Kd.R_drew)); exact Kd.R_mono HO136.out (fun _ hk => ⟨hk.1.2, hk.2⟩)⟩, ⟨by (with_reducible repeat (first | apply Kd.R_alloc | apply Kd.R_drewN | apply Kd.R_drew)); exact Kd.R_mono HO141.out (fun _ hk => ⟨hk.1.2, hk.2⟩)⟩, ⟨by repeat (first | (with_reducible first | exact HB.out | apply below_alloc | apply pw_below_drewN | apply below_drew1) | exact HB.out)⟩⟩
        case rest =>
          clear HC16
          try clear c1
          try clear p1
          try clear q1
          try clear hx1
          try clear c2
          try clear p2
          try clear c3
          try clear c5
          try clear p6
          try clear c7
          try clear c7b0
          try clear c8
          try clear c8b0
          try clear c9
          try clear c9b0
          try clear c10
          try clear c12
          try clear p12
          try clear q12
          try clear hx12
          try clear c21
          try clear hx126_0
          try clear p126
          try clear p2
          try clear p6
          try clear q126
          obtain ⟨kq, x70_15, rfl, HA, HJ15, HO_10, HO_13, HO_15, HB⟩ := hcut
          cases kq with
          | zero => exact absurd HA.out (by simp [stowagelaw12_SolveAll.j1])
          | succ kj15 =>
            have H := HA.out
            clear HA
            simp only [stowagelaw12_SolveAll.j1] at H
            by_cases c24 : x70_15 = true
            · subst c24
              have H1 : (some false) = some r := by rw [if_pos rfl] at H; exact H
              clear H
              have H := H1
              clear H1
              obtain rfl := Option.some.inj H
              go_wp2
              repeat (go_quiet (fail); try go_wp2)
              go_ret
              exact ⟨by first | rfl | (simp [errW_none, errW_some] <;> rfl) | (simp [*, errW_none, errW_some] <;> rfl), by repeat (first | (with_reducible first | exact HB.out | apply below_alloc | apply pw_below_drewN | apply below_drew1) | exact HB.out)⟩
            · replace c24 := Bool.eq_false_iff.mpr c24
              subst c24
              have H1 : (if t134 = 0 then ((some (([] : List Int) : List Int)).bind fun y143 => (if y143.length + x10_1.length < 17592186044416 then (stowagelaw12_SolveAll.l1 kj15 l2 l3 (wrap64 (Int.tmod a0 120)) x10_1 t133 t137 t138 0 0 (wrap64 (Int.tmod a0 120)) (y143 ++ x10_1) 0) else (none))) else (if (t133.length : Int) = 0 then (some ((t137.length : Int) == 0)) else (some false))) = some r := by rw [if_neg (show ¬ (false = true) by decide)] at H; exact H
              clear H
              have H := H1
              clear H1
              by_cases c25 : t134 = 0
              · rw [if_pos c25] at H
                have c25b0 : (t134 == 0) = true := beq_iff_eq.mpr c25
                have c25b1 : (t134 != 0) = false := bne_eq_false_iff_eq.mpr c25
                clear c25
                obtain ⟨y143, hy143⟩ : ∃ y_ : List Int, y_ = (([] : List Int)) := ⟨_, rfl⟩
                replace H : (if y143.length + x10_1.length < 17592186044416 then (stowagelaw12_SolveAll.l1 kj15 l2 l3 (wrap64 (Int.tmod a0 120)) x10_1 t133 t137 t138 0 0 (wrap64 (Int.tmod a0 120)) (y143 ++ x10_1) 0) else (none)) = some r := by first | (rw [hy143]; with_reducible exact H) | (have H2_ := (Option.bind_some _ _).symm.trans H; rw [hy143]; with_reducible exact H2_) | (have H2_ := (Option.bind_some _ _).symm.trans H; with_reducible exact H2_) | with_reducible exact H | (rw [hy143]; exact H) | exact H
                have Ny143 := Aside0.mk hy143
                clear hy143
                by_cases c26 : y143.length + x10_1.length < 17592186044416
                · rw [if_pos c26] at H
                  have LMc26 := Aside0.mk c26
                  clear c26
                  obtain ⟨y146, hy146⟩ : ∃ y_ : List Int, y_ = (y143 ++ x10_1) := ⟨_, rfl⟩
                  replace H : (stowagelaw12_SolveAll.l1 kj15 l2 l3 (wrap64 (Int.tmod a0 120)) x10_1 t133 t137 t138 0 0 (wrap64 (Int.tmod a0 120)) y146 0) = some r := by first | (rw [hy146]; with_reducible exact H) | (have H2_ := (Option.bind_some _ _).symm.trans H; rw [hy146]; with_reducible exact H2_) | (have H2_ := (Option.bind_some _ _).symm.trans H; with_reducible exact H2_) | with_reducible exact H | (rw [hy146]; exact H) | exact H
                  have Ny146 := Aside0.mk hy146
                  clear hy146
                  have H' := Aside0.mk H
                  clear H
                  go_wp2_with (first | ((with_reducible refine gate_dst (N := 82) rfl ?_); (try (refine gate_guard (by rfl) ?_; dsimp only)); refine Kd.R_lit (Kd.int .i64) _ 3 ?hg (N := 82) ?hd (xs := ([] : List Int)) (inner := []) (ok := fun _ => True) (okp := fun _ => True) ?hr ?hp (fun _ hk => hk) trivial (Below.refl _ _) (Nat.le_refl _) (by simp) ?_; (case hd => rfl); (case hg => rfl); (case hr => first | (go_simp; done) | (go_simp; rfl)); (case hp => exact (Reps.none _ _)); intro v144 w27 ho28 hb hg_ hnew_; clear hg_ hnew_; (first | rw [← Ny143.out] at ho28 | (simp only [Int.reduceToNat] at ho28; rw [← Ny143.out] at ho28)); have n0_ := Aside0.mk (Kd.R_elder' (by (with_reducible repeat (first | apply Kd.R_alloc | apply Kd.R_drewN | apply Kd.R_drew)); exact HO_10.out) (Kd.R_base ho28) hb); have n1_ := Aside0.mk (Kd.R_elder' (by (with_reducible repeat (first | apply Kd.R_alloc | apply Kd.R_drewN | apply Kd.R_drew)); exact HO_13.out) (Kd.R_base ho28) hb); have n2_ := Aside0.mk (Kd.R_elder' (by (with_reducible repeat (first | apply Kd.R_alloc | apply Kd.R_drewN | apply Kd.R_drew)); exact HO_15.out) (Kd.R_base ho28) hb); have n3_ := Aside0.mk (Kd.R_lower (Kd.R_new' (Kd.R_new' (Kd.R_new' ho28 (Kd.R_lt (by (with_reducible repeat (first | apply Kd.R_alloc | apply Kd.R_drewN | apply Kd.R_drew)); exact HO_10.out))) (Kd.R_lt (by (with_reducible repeat (first | apply Kd.R_alloc | apply Kd.R_drewN | apply Kd.R_drew)); exact HO_13.out))) (Kd.R_lt (by (with_reducible repeat (first | apply Kd.R_alloc | apply Kd.R_drewN | apply Kd.R_drew)); exact HO_15.out))) (below_size (by repeat (first | (with_reducible first | exact HB.out | apply below_alloc | apply pw_below_drewN | apply below_drew1) | exact HB.out)))); have n4_ := Aside0.mk (below_step (by repeat (first | (with_reducible first | exact HB.out | apply below_alloc | apply pw_below_drewN | apply below_drew1) | exact HB.out)) hb); clear HO_10; clear HO_13; clear HO_15; clear HB; have HO_10 := n0_; have HO_13 := n1_; have HO_15 := n2_; have HO145 := n3_; have HB := n4_; clear n0_ n1_ n2_ n3_ n4_; clear hb ho28) | ((with_reducible refine gate_builtin (b := .append) (xs := #[.tmp 82, .tmp 83]) rfl ?_); (try (refine gate_guard (by rfl) ?_; dsimp only)); at_builtin; refine Kd.R_append_rows (Kd.int .i64) (w0 := w) w.heap.size rfl (.tmp 82) (.tmp 83) 22 3 (.int .i64 0) 8 rfl Try.underlying22 info3 rfl (by decide) (by omega) v144 y143 x10_1 _ _ _ (fun k_ => some k_ ≠ (.slice Ao17 x10_1.length co17 : Value).ownBlock ∧ some k_ ≠ (v135 : Value).ownBlock ∧ some k_ ≠ (v140 : Value).ownBlock) (fun _ => False) rfl rfl ?aO ?aR (fun _ _ h => h) (fun _ h => h.elim) ?aF ?aB ?aS ?aL ?_; (case aR => repeat (first | exact (Kd.R_reads' HO_10.out).2.2 | (with_reducible refine Kd.C_alloc ?_ _) | (with_reducible refine Kd.C_drewN ?_ _) | (with_reducible refine Kd.C_drew ?_))); (case aB => exact (by repeat (first | (with_reducible first | exact HB.out | apply below_alloc | apply pw_below_drewN | apply below_drew1) | exact HB.out))); (case aF => exact (fun k_ hk => ⟨Kd.fresh' (Kd.R_lt (by (with_reducible repeat (first | apply Kd.R_alloc | apply Kd.R_drewN | apply Kd.R_drew)); exact HO_10.out)) k_ hk, Kd.fresh' (Kd.R_lt (by (with_reducible repeat (first | apply Kd.R_alloc | apply Kd.R_drewN | apply Kd.R_drew)); exact HO_13.out)) k_ hk, Kd.fresh' (Kd.R_lt (by (with_reducible repeat (first | apply Kd.R_alloc | apply Kd.R_drewN | apply Kd.R_drew)); exact HO_15.out)) k_ hk⟩)); (case aO => exact (by (with_reducible repeat (first | apply Kd.R_alloc | apply Kd.R_drewN | apply Kd.R_drew)); exact Kd.R_mono HO145.out (fun _ hk => ⟨hk.1.1.2, ⟨hk.1.2, hk.2⟩⟩))); (case aS => exact (below_size (by repeat (first | (with_reducible first | exact HB.out | apply below_alloc | apply pw_below_drewN | apply below_drew1) | exact HB.out)))); (case aL => have := LMc26.out; omega); intro v147 w29 ho hb hg hat; rw [← Ny146.out] at ho; have n0_ := Aside0.mk (Kd.R_after (ok := (fun k_ => some k_ ≠ (v135 : Value).ownBlock ∧ some k_ ≠ (v140 : Value).ownBlock)) (by (with_reducible repeat (first | apply Kd.R_alloc | apply Kd.R_drewN | apply Kd.R_drew)); exact HO_10.out) hg hat); have n1_ := Aside0.mk (Kd.R_after (ok := (fun k_ => some k_ ≠ (.slice Ao17 x10_1.length co17 : Value).ownBlock ∧ some k_ ≠ (v140 : Value).ownBlock)) (by (with_reducible repeat (first | apply Kd.R_alloc | apply Kd.R_drewN | apply Kd.R_drew)); exact HO_13.out) hg hat); have n2_ := Aside0.mk (Kd.R_after (ok := (fun k_ => some k_ ≠ (.slice Ao17 x10_1.length co17 : Value).ownBlock ∧ some k_ ≠ (v135 : Value).ownBlock)) (by (with_reducible repeat (first | apply Kd.R_alloc | apply Kd.R_drewN | apply Kd.R_drew)); exact HO_15.out) hg hat); have n3_ := Aside0.mk (hb); have n4_ := Aside0.mk (ho); clear HO_10; clear HO_13; clear HO_15; clear HB; clear HO145; have HO_10 := n0_; have HO_13 := n1_; have HO_15 := n2_; have HB := n3_; have HO148 := n4_; clear n0_ n1_ n2_ n3_ n4_; clear ho hb hg hat))
                  repeat (go_quiet (first | ((with_reducible refine gate_dst (N := 82) rfl ?_); (try (refine gate_guard (by rfl) ?_; dsimp only)); refine Kd.R_lit (Kd.int .i64) _ 3 ?hg (N := 82) ?hd (xs := ([] : List Int)) (inner := []) (ok := fun _ => True) (okp := fun _ => True) ?hr ?hp (fun _ hk => hk) trivial (Below.refl _ _) (Nat.le_refl _) (by simp) ?_; (case hd => rfl); (case hg => rfl); (case hr => first | (go_simp; done) | (go_simp; rfl)); (case hp => exact (Reps.none _ _)); intro v144 w27 ho28 hb hg_ hnew_; clear hg_ hnew_; (first | rw [← Ny143.out] at ho28 | (simp only [Int.reduceToNat] at ho28; rw [← Ny143.out] at ho28)); have n0_ := Aside0.mk (Kd.R_elder' (by (with_reducible repeat (first | apply Kd.R_alloc | apply Kd.R_drewN | apply Kd.R_drew)); exact HO_10.out) (Kd.R_base ho28) hb); have n1_ := Aside0.mk (Kd.R_elder' (by (with_reducible repeat (first | apply Kd.R_alloc | apply Kd.R_drewN | apply Kd.R_drew)); exact HO_13.out) (Kd.R_base ho28) hb); have n2_ := Aside0.mk (Kd.R_elder' (by (with_reducible repeat (first | apply Kd.R_alloc | apply Kd.R_drewN | apply Kd.R_drew)); exact HO_15.out) (Kd.R_base ho28) hb); have n3_ := Aside0.mk (Kd.R_lower (Kd.R_new' (Kd.R_new' (Kd.R_new' ho28 (Kd.R_lt (by (with_reducible repeat (first | apply Kd.R_alloc | apply Kd.R_drewN | apply Kd.R_drew)); exact HO_10.out))) (Kd.R_lt (by (with_reducible repeat (first | apply Kd.R_alloc | apply Kd.R_drewN | apply Kd.R_drew)); exact HO_13.out))) (Kd.R_lt (by (with_reducible repeat (first | apply Kd.R_alloc | apply Kd.R_drewN | apply Kd.R_drew)); exact HO_15.out))) (below_size (by repeat (first | (with_reducible first | exact HB.out | apply below_alloc | apply pw_below_drewN | apply below_drew1) | exact HB.out)))); have n4_ := Aside0.mk (below_step (by repeat (first | (with_reducible first | exact HB.out | apply below_alloc | apply pw_below_drewN | apply below_drew1) | exact HB.out)) hb); clear HO_10; clear HO_13; clear HO_15; clear HB; have HO_10 := n0_; have HO_13 := n1_; have HO_15 := n2_; have HO145 := n3_; have HB := n4_; clear n0_ n1_ n2_ n3_ n4_; clear hb ho28) | ((with_reducible refine gate_builtin (b := .append) (xs := #[.tmp 82, .tmp 83]) rfl ?_); (try (refine gate_guard (by rfl) ?_; dsimp only)); at_builtin; refine Kd.R_append_rows (Kd.int .i64) (w0 := w) w.heap.size rfl (.tmp 82) (.tmp 83) 22 3 (.int .i64 0) 8 rfl Try.underlying22 info3 rfl (by decide) (by omega) v144 y143 x10_1 _ _ _ (fun k_ => some k_ ≠ (.slice Ao17 x10_1.length co17 : Value).ownBlock ∧ some k_ ≠ (v135 : Value).ownBlock ∧ some k_ ≠ (v140 : Value).ownBlock) (fun _ => False) rfl rfl ?aO ?aR (fun _ _ h => h) (fun _ h => h.elim) ?aF ?aB ?aS ?aL ?_; (case aR => repeat (first | exact (Kd.R_reads' HO_10.out).2.2 | (with_reducible refine Kd.C_alloc ?_ _) | (with_reducible refine Kd.C_drewN ?_ _) | (with_reducible refine Kd.C_drew ?_))); (case aB => exact (by repeat (first | (with_reducible first | exact HB.out | apply below_alloc | apply pw_below_drewN | apply below_drew1) | exact HB.out))); (case aF => exact (fun k_ hk => ⟨Kd.fresh' (Kd.R_lt (by (with_reducible repeat (first | apply Kd.R_alloc | apply Kd.R_drewN | apply Kd.R_drew)); exact HO_10.out)) k_ hk, Kd.fresh' (Kd.R_lt (by (with_reducible repeat (first | apply Kd.R_alloc | apply Kd.R_drewN | apply Kd.R_drew)); exact HO_13.out)) k_ hk, Kd.fresh' (Kd.R_lt (by (with_reducible repeat (first | apply Kd.R_alloc | apply Kd.R_drewN | apply Kd.R_drew)); exact HO_15.out)) k_ hk⟩)); (case aO => exact (by (with_reducible repeat (first | apply Kd.R_alloc | apply Kd.R_drewN | apply Kd.R_drew)); exact Kd.R_mono HO145.out (fun _ hk => ⟨hk.1.1.2, ⟨hk.1.2, hk.2⟩⟩))); (case aS => exact (below_size (by repeat (first | (with_reducible first | exact HB.out | apply below_alloc | apply pw_below_drewN | apply below_drew1) | exact HB.out)))); (case aL => have := LMc26.out; omega); intro v147 w29 ho hb hg hat; rw [← Ny146.out] at ho; have n0_ := Aside0.mk (Kd.R_after (ok := (fun k_ => some k_ ≠ (v135 : Value).ownBlock ∧ some k_ ≠ (v140 : Value).ownBlock)) (by (with_reducible repeat (first | apply Kd.R_alloc | apply Kd.R_drewN | apply Kd.R_drew)); exact HO_10.out) hg hat); have n1_ := Aside0.mk (Kd.R_after (ok := (fun k_ => some k_ ≠ (.slice Ao17 x10_1.length co17 : Value).ownBlock ∧ some k_ ≠ (v140 : Value).ownBlock)) (by (with_reducible repeat (first | apply Kd.R_alloc | apply Kd.R_drewN | apply Kd.R_drew)); exact HO_13.out) hg hat); have n2_ := Aside0.mk (Kd.R_after (ok := (fun k_ => some k_ ≠ (.slice Ao17 x10_1.length co17 : Value).ownBlock ∧ some k_ ≠ (v135 : Value).ownBlock)) (by (with_reducible repeat (first | apply Kd.R_alloc | apply Kd.R_drewN | apply Kd.R_drew)); exact HO_15.out) hg hat); have n3_ := Aside0.mk (hb); have n4_ := Aside0.mk (ho); clear HO_10; clear HO_13; clear HO_15; clear HB; clear HO145; have HO_10 := n0_; have HO_13 := n1_; have HO_15 := n2_; have HB := n3_; have HO148 := n4_; clear n0_ n1_ n2_ n3_ n4_; clear ho hb hg hat)); try go_wp2_with (first | ((with_reducible refine gate_dst (N := 82) rfl ?_); (try (refine gate_guard (by rfl) ?_; dsimp only)); refine Kd.R_lit (Kd.int .i64) _ 3 ?hg (N := 82) ?hd (xs := ([] : List Int)) (inner := []) (ok := fun _ => True) (okp := fun _ => True) ?hr ?hp (fun _ hk => hk) trivial (Below.refl _ _) (Nat.le_refl _) (by simp) ?_; (case hd => rfl); (case hg => rfl); (case hr => first | (go_simp; done) | (go_simp; rfl)); (case hp => exact (Reps.none _ _)); intro v144 w27 ho28 hb hg_ hnew_; clear hg_ hnew_; (first | rw [← Ny143.out] at ho28 | (simp only [Int.reduceToNat] at ho28; rw [← Ny143.out] at ho28)); have n0_ := Aside0.mk (Kd.R_elder' (by (with_reducible repeat (first | apply Kd.R_alloc | apply Kd.R_drewN | apply Kd.R_drew)); exact HO_10.out) (Kd.R_base ho28) hb); have n1_ := Aside0.mk (Kd.R_elder' (by (with_reducible repeat (first | apply Kd.R_alloc | apply Kd.R_drewN | apply Kd.R_drew)); exact HO_13.out) (Kd.R_base ho28) hb); have n2_ := Aside0.mk (Kd.R_elder' (by (with_reducible repeat (first | apply Kd.R_alloc | apply Kd.R_drewN | apply Kd.R_drew)); exact HO_15.out) (Kd.R_base ho28) hb); have n3_ := Aside0.mk (Kd.R_lower (Kd.R_new' (Kd.R_new' (Kd.R_new' ho28 (Kd.R_lt (by (with_reducible repeat (first | apply Kd.R_alloc | apply Kd.R_drewN | apply Kd.R_drew)); exact HO_10.out))) (Kd.R_lt (by (with_reducible repeat (first | apply Kd.R_alloc | apply Kd.R_drewN | apply Kd.R_drew)); exact HO_13.out))) (Kd.R_lt (by (with_reducible repeat (first | apply Kd.R_alloc | apply Kd.R_drewN | apply Kd.R_drew)); exact HO_15.out))) (below_size (by repeat (first | (with_reducible first | exact HB.out | apply below_alloc | apply pw_below_drewN | apply below_drew1) | exact HB.out)))); have n4_ := Aside0.mk (below_step (by repeat (first | (with_reducible first | exact HB.out | apply below_alloc | apply pw_below_drewN | apply below_drew1) | exact HB.out)) hb); clear HO_10; clear HO_13; clear HO_15; clear HB; have HO_10 := n0_; have HO_13 := n1_; have HO_15 := n2_; have HO145 := n3_; have HB := n4_; clear n0_ n1_ n2_ n3_ n4_; clear hb ho28) | ((with_reducible refine gate_builtin (b := .append) (xs := #[.tmp 82, .tmp 83]) rfl ?_); (try (refine gate_guard (by rfl) ?_; dsimp only)); at_builtin; refine Kd.R_append_rows (Kd.int .i64) (w0 := w) w.heap.size rfl (.tmp 82) (.tmp 83) 22 3 (.int .i64 0) 8 rfl Try.underlying22 info3 rfl (by decide) (by omega) v144 y143 x10_1 _ _ _ (fun k_ => some k_ ≠ (.slice Ao17 x10_1.length co17 : Value).ownBlock ∧ some k_ ≠ (v135 : Value).ownBlock ∧ some k_ ≠ (v140 : Value).ownBlock) (fun _ => False) rfl rfl ?aO ?aR (fun _ _ h => h) (fun _ h => h.elim) ?aF ?aB ?aS ?aL ?_; (case aR => repeat (first | exact (Kd.R_reads' HO_10.out).2.2 | (with_reducible refine Kd.C_alloc ?_ _) | (with_reducible refine Kd.C_drewN ?_ _) | (with_reducible refine Kd.C_drew ?_))); (case aB => exact (by repeat (first | (with_reducible first | exact HB.out | apply below_alloc | apply pw_below_drewN | apply below_drew1) | exact HB.out))); (case aF => exact (fun k_ hk => ⟨Kd.fresh' (Kd.R_lt (by (with_reducible repeat (first | apply Kd.R_alloc | apply Kd.R_drewN | apply Kd.R_drew)); exact HO_10.out)) k_ hk, Kd.fresh' (Kd.R_lt (by (with_reducible repeat (first | apply Kd.R_alloc | apply Kd.R_drewN | apply Kd.R_drew)); exact HO_13.out)) k_ hk, Kd.fresh' (Kd.R_lt (by (with_reducible repeat (first | apply Kd.R_alloc | apply Kd.R_drewN | apply Kd.R_drew)); exact HO_15.out)) k_ hk⟩)); (case aO => exact (by (with_reducible repeat (first | apply Kd.R_alloc | apply Kd.R_drewN | apply Kd.R_drew)); exact Kd.R_mono HO145.out (fun _ hk => ⟨hk.1.1.2, ⟨hk.1.2, hk.2⟩⟩))); (case aS => exact (below_size (by repeat (first | (with_reducible first | exact HB.out | apply below_alloc | apply pw_below_drewN | apply below_drew1) | exact HB.out)))); (case aL => have := LMc26.out; omega); intro v147 w29 ho hb hg hat; rw [← Ny146.out] at ho; have n0_ := Aside0.mk (Kd.R_after (ok := (fun k_ => some k_ ≠ (v135 : Value).ownBlock ∧ some k_ ≠ (v140 : Value).ownBlock)) (by (with_reducible repeat (first | apply Kd.R_alloc | apply Kd.R_drewN | apply Kd.R_drew)); exact HO_10.out) hg hat); have n1_ := Aside0.mk (Kd.R_after (ok := (fun k_ => some k_ ≠ (.slice Ao17 x10_1.length co17 : Value).ownBlock ∧ some k_ ≠ (v140 : Value).ownBlock)) (by (with_reducible repeat (first | apply Kd.R_alloc | apply Kd.R_drewN | apply Kd.R_drew)); exact HO_13.out) hg hat); have n2_ := Aside0.mk (Kd.R_after (ok := (fun k_ => some k_ ≠ (.slice Ao17 x10_1.length co17 : Value).ownBlock ∧ some k_ ≠ (v135 : Value).ownBlock)) (by (with_reducible repeat (first | apply Kd.R_alloc | apply Kd.R_drewN | apply Kd.R_drew)); exact HO_15.out) hg hat); have n3_ := Aside0.mk (hb); have n4_ := Aside0.mk (ho); clear HO_10; clear HO_13; clear HO_15; clear HB; clear HO145; have HO_10 := n0_; have HO_13 := n1_; have HO_15 := n2_; have HB := n3_; have HO148 := n4_; clear n0_ n1_ n2_ n3_ n4_; clear ho hb hg hat)))
                  go_loopg [18, 19, 20, 22] kj15 (fun kq v18 v19 v20 v22 w' => ∃ (x18_3 : Int) (x19_3 : Int) (x20_3 : Int) (x22_3 : Int), v18 = .int .i64 x18_3 ∧ v19 = .int .i64 x19_3 ∧ v20 = .int .i64 x20_3 ∧ v22 = .int .i64 x22_3 ∧ Aside0 (stowagelaw12_SolveAll.l1 kq l2 l3 (wrap64 (Int.tmod a0 120)) x10_1 t133 t137 t138 x18_3 x19_3 x20_3 y146 x22_3 = some r) ∧ Aside0 (kq ≤ kj15) ∧ Aside0 (Kd.R (Kd.int .i64) 3 w' w.heap.size (fun k_ => some k_ ≠ (v135 : Value).ownBlock ∧ some k_ ≠ (v140 : Value).ownBlock ∧ some k_ ≠ (v147 : Value).ownBlock) (.slice Ao17 x10_1.length co17) x10_1) ∧ Aside0 (Kd.R (Kd.int .i64) 3 w' w.heap.size (fun k_ => some k_ ≠ ((.slice Ao17 x10_1.length co17) : Value).ownBlock ∧ some k_ ≠ (v140 : Value).ownBlock ∧ some k_ ≠ (v147 : Value).ownBlock) v135 t133) ∧ Aside0 (Kd.R (Kd.int .i64) 3 w' w.heap.size (fun k_ => some k_ ≠ ((.slice Ao17 x10_1.length co17) : Value).ownBlock ∧ some k_ ≠ (v135 : Value).ownBlock ∧ some k_ ≠ (v147 : Value).ownBlock) v140 t137) ∧ Aside0 (Kd.R (Kd.int .i64) 3 w' w.heap.size (fun k_ => some k_ ≠ ((.slice Ao17 x10_1.length co17) : Value).ownBlock ∧ some k_ ≠ (v135 : Value).ownBlock ∧ some k_ ≠ (v140 : Value).ownBlock) v147 y146) ∧ Aside0 (Below w.heap.size w w'))
                  case atStart => exact ⟨(0), (0), ((wrap64 (Int.tmod a0 120))), (0), (by first | rfl | (simp; done) | (simp [*]; done)), (by first | rfl | (simp; done) | (simp [*]; done)), (by first | rfl | (simp; done) | (simp [*]; done)), (by first | rfl | (simp; done) | (simp [*]; done)), H', ⟨Nat.le_refl _⟩, ⟨by (with_reducible repeat (first | apply Kd.R_alloc | apply Kd.R_drewN | apply Kd.R_drew)); exact Kd.R_mono HO_10.out (fun _ hk => ⟨hk.1.1, ⟨hk.1.2, hk.2⟩⟩)⟩, ⟨by (with_reducible repeat (first | apply Kd.R_alloc | apply Kd.R_drewN | apply Kd.R_drew)); exact Kd.R_mono HO_13.out (fun _ hk => ⟨hk.1.1, ⟨hk.1.2, hk.2⟩⟩)⟩, ⟨by (with_reducible repeat (first | apply Kd.R_alloc | apply Kd.R_drewN | apply Kd.R_drew)); exact Kd.R_mono HO_15.out (fun _ hk => ⟨hk.1.1, ⟨hk.1.2, hk.2⟩⟩)⟩, ⟨by (with_reducible repeat (first | apply Kd.R_alloc | apply Kd.R_drewN | apply Kd.R_drew)); exact HO148.out⟩, ⟨by repeat (first | (with_reducible first | exact HB.out | apply below_alloc | apply pw_below_drewN | apply below_drew1) | exact HB.out)⟩⟩
                  case round =>
                    clear H'
                    try clear c1
                    try clear p1
                    try clear q1
                    try clear hx1
                    try clear c2
                    try clear p2
                    try clear c3
                    try clear c5
                    try clear p6
                    try clear c7
                    try clear c7b0
                    try clear c8
                    try clear c8b0
                    try clear c9
                    try clear c9b0
                    try clear c10
                    try clear c12
                    try clear p12
                    try clear q12
                    try clear hx12
                    try clear c21
                    try clear c24
                    try clear c25
                    try clear c25b0
                    try clear c25b1
                    try clear c26
                    try clear hx126_0
                    try clear p1
                    try clear p12
                    try clear p126
                    try clear p2
                    try clear p6
                    try clear q1
                    try clear q12
                    try clear q126
                    obtain ⟨x18_3, x19_3, x20_3, x22_3, rfl, rfl, rfl, rfl, HA, HK3, HO_10, HO_13, HO_15, HO_21, HB⟩ := hrel
                    cases gk with
                    | zero => exact absurd HA.out (by simp [stowagelaw12_SolveAll.l1])
                    | succ k3 =>
                      have H := HA.out
                      clear HA
                      simp only [stowagelaw12_SolveAll.l1] at H
                      by_cases c30 : x22_3 < (l2.length : Int)
                      · rw [if_pos c30] at H
                        have c30b0 : decide (x22_3 < (l2.length : Int)) = true := decide_eq_true c30
                        clear c30
                        by_cases c31 : 0 ≤ x22_3
                        · rw [if_pos c31] at H
                          have c31b0 : decide (0 ≤ x22_3) = true := decide_eq_true c31
                          clear c31
                          by_cases c32 : x22_3 < (t133.length : Int)
                          · rw [if_pos c32] at H
                            have c32b0 : decide (x22_3 < (t133.length : Int)) = true := decide_eq_true c32
                            clear c32
                            by_cases c33 : x22_3 < (x10_1.length : Int)
                            · rw [if_pos c33] at H
                              have c33b0 : decide (x22_3 < (x10_1.length : Int)) = true := decide_eq_true c33
                              clear c33
                              by_cases c34 : (rd t133 x22_3) < (rd x10_1 x22_3)
                              · rw [if_pos c34] at H
                                have c34b0 : decide ((rd t133 x22_3) < (rd x10_1 x22_3)) = true := decide_eq_true c34
                                clear c34
                                obtain rfl := Option.some.inj H
                                obtain ⟨Ao35, co35, eo35⟩ := Kd.R_slice HO_13.out
                                subst eo35
                                have p149 : 0 ≤ (x22_3 : Int) := of_decide_eq_true (by first | (with_reducible assumption) | assumption)
                                have q149 : x22_3 < (t133.length : Int) := of_decide_eq_true (by first | (with_reducible assumption) | assumption)
                                obtain ⟨ad149, e149, hx149_0⟩ := Kd.at_int (Kd.R_reads' HO_13.out).2.2 x22_3 p149 q149
                                cases e149
                                replace p149 := eq_true p149
                                replace q149 := eq_true q149
                                have p150 : 0 ≤ (x22_3 : Int) := of_decide_eq_true (by first | (with_reducible assumption) | assumption)
                                have q150 : x22_3 < (x10_1.length : Int) := of_decide_eq_true (by first | (with_reducible assumption) | assumption)
                                obtain ⟨ad150, e150, hx150_0⟩ := Kd.at_int (Kd.R_reads' HO_10.out).2.2 x22_3 p150 q150
                                cases e150
                                replace p150 := eq_true p150
                                replace q150 := eq_true q150
                                go_wp2
                                repeat (go_quiet (fail); try go_wp2)
                                go_ret
                                exact ⟨by first | rfl | (simp [errW_none, errW_some] <;> rfl) | (simp [*, errW_none, errW_some] <;> rfl), by repeat (first | (with_reducible first | exact HB.out | apply below_alloc | apply pw_below_drewN | apply below_drew1) | exact HB.out)⟩
                              · rw [if_neg c34] at H
                                have c34b0 : decide ((rd t133 x22_3) < (rd x10_1 x22_3)) = false := decide_eq_false c34
                                clear c34
                                by_cases c36 : x22_3 < (t137.length : Int)
                                · rw [if_pos c36] at H
                                  have c36b0 : decide (x22_3 < (t137.length : Int)) = true := decide_eq_true c36
                                  clear c36
                                  by_cases c37 : (rd t137 x22_3) < (rd x10_1 x22_3)
                                  · rw [if_pos c37] at H
                                    have c37b0 : decide ((rd t137 x22_3) < (rd x10_1 x22_3)) = true := decide_eq_true c37
                                    clear c37
                                    obtain rfl := Option.some.inj H
                                    obtain ⟨Ao38, co38, eo38⟩ := Kd.R_slice HO_13.out
                                    subst eo38
                                    have p149 : 0 ≤ (x22_3 : Int) := of_decide_eq_true (by first | (with_reducible assumption) | assumption)
                                    have q149 : x22_3 < (t133.length : Int) := of_decide_eq_true (by first | (with_reducible assumption) | assumption)
                                    obtain ⟨ad149, e149, hx149_0⟩ := Kd.at_int (Kd.R_reads' HO_13.out).2.2 x22_3 p149 q149
                                    cases e149
                                    replace p149 := eq_true p149
                                    replace q149 := eq_true q149
                                    have p150 : 0 ≤ (x22_3 : Int) := of_decide_eq_true (by first | (with_reducible assumption) | assumption)
                                    have q150 : x22_3 < (x10_1.length : Int) := of_decide_eq_true (by first | (with_reducible assumption) | assumption)
                                    obtain ⟨ad150, e150, hx150_0⟩ := Kd.at_int (Kd.R_reads' HO_10.out).2.2 x22_3 p150 q150
                                    cases e150
                                    replace p150 := eq_true p150
                                    replace q150 := eq_true q150
                                    obtain ⟨Ao39, co39, eo39⟩ := Kd.R_slice HO_15.out
                                    subst eo39
                                    have p151 : 0 ≤ (x22_3 : Int) := of_decide_eq_true (by first | (with_reducible assumption) | assumption)
                                    have q151 : x22_3 < (t137.length : Int) := of_decide_eq_true (by first | (with_reducible assumption) | assumption)
                                    obtain ⟨ad151, e151, hx151_0⟩ := Kd.at_int (Kd.R_reads' HO_15.out).2.2 x22_3 p151 q151
                                    cases e151
                                    replace p151 := eq_true p151
                                    replace q151 := eq_true q151
                                    have p152 : 0 ≤ (x22_3 : Int) := of_decide_eq_true (by first | (with_reducible assumption) | assumption)
                                    have q152 : x22_3 < (x10_1.length : Int) := of_decide_eq_true (by first | (with_reducible assumption) | assumption)
                                    obtain ⟨ad152, e152, hx152_0⟩ := Kd.at_int (Kd.R_reads' HO_10.out).2.2 x22_3 p152 q152
                                    obtain rfl : ad150 = ad152 := (by injection e152)
                                    replace p152 := eq_true p152
                                    replace q152 := eq_true q152
                                    go_wp2
                                    repeat (go_quiet (fail); try go_wp2)
                                    go_ret
                                    exact ⟨by first | rfl | (simp [errW_none, errW_some] <;> rfl) | (simp [*, errW_none, errW_some] <;> rfl), by repeat (first | (with_reducible first | exact HB.out | apply below_alloc | apply pw_below_drewN | apply below_drew1) | exact HB.out)⟩
                                  · rw [if_neg c37] at H
                                    have c37b0 : decide ((rd t137 x22_3) < (rd x10_1 x22_3)) = false := decide_eq_false c37
                                    clear c37
                                    have H' := Aside0.mk H
                                    clear H
                                    obtain ⟨Ao40, co40, eo40⟩ := Kd.R_slice HO_13.out
                                    subst eo40
                                    have p149 : 0 ≤ (x22_3 : Int) := of_decide_eq_true (by first | (with_reducible assumption) | assumption)
                                    have q149 : x22_3 < (t133.length : Int) := of_decide_eq_true (by first | (with_reducible assumption) | assumption)
                                    obtain ⟨ad149, e149, hx149_0⟩ := Kd.at_int (Kd.R_reads' HO_13.out).2.2 x22_3 p149 q149
                                    cases e149
                                    replace p149 := eq_true p149
                                    replace q149 := eq_true q149
                                    have p150 : 0 ≤ (x22_3 : Int) := of_decide_eq_true (by first | (with_reducible assumption) | assumption)
                                    have q150 : x22_3 < (x10_1.length : Int) := of_decide_eq_true (by first | (with_reducible assumption) | assumption)
                                    obtain ⟨ad150, e150, hx150_0⟩ := Kd.at_int (Kd.R_reads' HO_10.out).2.2 x22_3 p150 q150
                                    cases e150
                                    replace p150 := eq_true p150
                                    replace q150 := eq_true q150
                                    obtain ⟨Ao41, co41, eo41⟩ := Kd.R_slice HO_15.out
                                    subst eo41
                                    have p151 : 0 ≤ (x22_3 : Int) := of_decide_eq_true (by first | (with_reducible assumption) | assumption)
                                    have q151 : x22_3 < (t137.length : Int) := of_decide_eq_true (by first | (with_reducible assumption) | assumption)
                                    obtain ⟨ad151, e151, hx151_0⟩ := Kd.at_int (Kd.R_reads' HO_15.out).2.2 x22_3 p151 q151
                                    cases e151
                                    replace p151 := eq_true p151
                                    replace q151 := eq_true q151
                                    have p152 : 0 ≤ (x22_3 : Int) := of_decide_eq_true (by first | (with_reducible assumption) | assumption)
                                    have q152 : x22_3 < (x10_1.length : Int) := of_decide_eq_true (by first | (with_reducible assumption) | assumption)
                                    obtain ⟨ad152, e152, hx152_0⟩ := Kd.at_int (Kd.R_reads' HO_10.out).2.2 x22_3 p152 q152
                                    obtain rfl : ad150 = ad152 := (by injection e152)
                                    replace p152 := eq_true p152
                                    replace q152 := eq_true q152
                                    have p153 : 0 ≤ (x22_3 : Int) := of_decide_eq_true (by first | (with_reducible assumption) | assumption)
                                    have q153 : x22_3 < (t133.length : Int) := of_decide_eq_true (by first | (with_reducible assumption) | assumption)
                                    obtain ⟨ad153, e153, hx153_0⟩ := Kd.at_int (Kd.R_reads' HO_13.out).2.2 x22_3 p153 q153
                                    obtain rfl : ad149 = ad153 := (by injection e153)
                                    replace p153 := eq_true p153
                                    replace q153 := eq_true q153
                                    have p154 : 0 ≤ (x22_3 : Int) := of_decide_eq_true (by first | (with_reducible assumption) | assumption)
                                    have q154 : x22_3 < (t137.length : Int) := of_decide_eq_true (by first | (with_reducible assumption) | assumption)
                                    obtain ⟨ad154, e154, hx154_0⟩ := Kd.at_int (Kd.R_reads' HO_15.out).2.2 x22_3 p154 q154
                                    obtain rfl : ad151 = ad154 := (by injection e154)
                                    replace p154 := eq_true p154
                                    replace q154 := eq_true q154
                                    have p155 : 0 ≤ (x22_3 : Int) := of_decide_eq_true (by first | (with_reducible assumption) | assumption)
                                    have q155 : x22_3 < (x10_1.length : Int) := of_decide_eq_true (by first | (with_reducible assumption) | assumption)
                                    obtain ⟨ad155, e155, hx155_0⟩ := Kd.at_int (Kd.R_reads' HO_10.out).2.2 x22_3 p155 q155
                                    obtain rfl : ad150 = ad155 := (by injection e155)
                                    replace p155 := eq_true p155
                                    replace q155 := eq_true q155
                                    go_wp2
                                    repeat (go_quiet (fail); try go_wp2)
                                    go_roundg k3
                                    case measure => have := HK1.out; have := HJ15.out; have := HK3.out; omega
                                    case rel => exact ⟨(wrap64 (x18_3 + (rd t133 x22_3))), (wrap64 (x19_3 + (rd t137 x22_3))), (wrap64 (x20_3 - (rd x10_1 x22_3))), (wrap64 (x22_3 + 1)), (by first | rfl | (simp; done) | (simp [*]; done)), (by first | rfl | (simp; done) | (simp [*]; done)), (by first | rfl | (simp; done) | (simp [*]; done)), (by first | rfl | (simp; done) | (simp [*]; done)), H', ⟨by have := HK1.out; have := HJ15.out; have := HK3.out; omega⟩, ⟨by (with_reducible repeat (first | apply Kd.R_alloc | apply Kd.R_drewN | apply Kd.R_drew)); exact HO_10.out⟩, ⟨by (with_reducible repeat (first | apply Kd.R_alloc | apply Kd.R_drewN | apply Kd.R_drew)); exact HO_13.out⟩, ⟨by (with_reducible repeat (first | apply Kd.R_alloc | apply Kd.R_drewN | apply Kd.R_drew)); exact HO_15.out⟩, ⟨by (with_reducible repeat (first | apply Kd.R_alloc | apply Kd.R_drewN | apply Kd.R_drew)); exact HO_21.out⟩, ⟨by repeat (first | (with_reducible first | exact HB.out | apply below_alloc | apply pw_below_drewN | apply below_drew1) | exact HB.out)⟩⟩
                                · rw [if_neg c36] at H
                                  exact absurd H (by simp)
                            · rw [if_neg c33] at H
                              exact absurd H (by simp)
                          · rw [if_neg c32] at H
                            exact absurd H (by simp)
                        · rw [if_neg c31] at H
                          exact absurd H (by simp)
                      · rw [if_neg c30] at H
                        have c30b0 : decide (x22_3 < (l2.length : Int)) = false := decide_eq_false c30
                        clear c30
                        have H' := Aside0.mk H
                        clear H
                        go_wp2
                        repeat (go_quiet (fail); try go_wp2)
                        go_loopg [20, 23] k3 (fun kq v20 v23 w' => ∃ (x20_4 : Int) (x21_4 : List Int) (x23_4 : Int), v20 = .int .i64 x20_4 ∧ v23 = .int .i64 x23_4 ∧ Aside0 (stowagelaw12_SolveAll.l2 kq l2 l3 (wrap64 (Int.tmod a0 120)) t133 t137 t138 x18_3 x19_3 x20_4 x21_4 x23_4 = some r) ∧ Aside0 (kq ≤ k3) ∧ Aside0 (Kd.R (Kd.int .i64) 3 w' w.heap.size (fun k_ => some k_ ≠ (v140 : Value).ownBlock ∧ some k_ ≠ (v147 : Value).ownBlock) v135 t133) ∧ Aside0 (Kd.R (Kd.int .i64) 3 w' w.heap.size (fun k_ => some k_ ≠ (v135 : Value).ownBlock ∧ some k_ ≠ (v147 : Value).ownBlock) v140 t137) ∧ Aside0 (Kd.R (Kd.int .i64) 3 w' w.heap.size (fun k_ => some k_ ≠ (v135 : Value).ownBlock ∧ some k_ ≠ (v140 : Value).ownBlock) v147 x21_4) ∧ Aside0 (Below w.heap.size w w'))
                        case atStart => exact ⟨(x20_3), (y146), (0), (by first | rfl | (simp; done) | (simp [*]; done)), (by first | rfl | (simp; done) | (simp [*]; done)), H', ⟨Nat.le_refl _⟩, ⟨by (with_reducible repeat (first | apply Kd.R_alloc | apply Kd.R_drewN | apply Kd.R_drew)); exact Kd.R_mono HO_13.out (fun _ hk => ⟨hk.2.1, hk.2.2⟩)⟩, ⟨by (with_reducible repeat (first | apply Kd.R_alloc | apply Kd.R_drewN | apply Kd.R_drew)); exact Kd.R_mono HO_15.out (fun _ hk => ⟨hk.2.1, hk.2.2⟩)⟩, ⟨by (with_reducible repeat (first | apply Kd.R_alloc | apply Kd.R_drewN | apply Kd.R_drew)); exact Kd.R_mono HO_21.out (fun _ hk => ⟨hk.2.1, hk.2.2⟩)⟩, ⟨by repeat (first | (with_reducible first | exact HB.out | apply below_alloc | apply pw_below_drewN | apply below_drew1) | exact HB.out)⟩⟩
                        case round =>
                          clear H'
                          try clear c1
                          try clear p1
                          try clear q1
                          try clear hx1
                          try clear c2
                          try clear p2
                          try clear c3
                          try clear c5
                          try clear p6
                          try clear c7
                          try clear c7b0
                          try clear c8
                          try clear c8b0
                          try clear c9
                          try clear c9b0
                          try clear c10
                          try clear c12
                          try clear p12
                          try clear q12
                          try clear hx12
                          try clear p14
                          try clear q14
                          try clear hx14
                          try clear p15
                          try clear q15
                          try clear hx15
                          try clear c21
                          try clear c24
                          try clear c25
                          try clear c25b0
                          try clear c25b1
                          try clear c26
                          try clear c30
                          try clear c30b0
                          try clear c31
                          try clear c31b0
                          try clear c32
                          try clear c32b0
                          try clear c33
                          try clear c33b0
                          try clear c34
                          try clear c34b0
                          try clear c36
                          try clear c36b0
                          try clear c37
                          try clear c37b0
                          try clear hx126_0
                          try clear hx149_0
                          try clear hx150_0
                          try clear hx151_0
                          try clear hx152_0
                          try clear hx153_0
                          try clear hx154_0
                          try clear hx155_0
                          try clear p1
                          try clear p12
                          try clear p126
                          try clear p149
                          try clear p150
                          try clear p151
                          try clear p152
                          try clear p153
                          try clear p154
                          try clear p155
                          try clear p2
                          try clear p6
                          try clear q1
                          try clear q12
                          try clear q126
                          try clear q149
                          try clear q150
                          try clear q151
                          try clear q152
                          try clear q153
                          try clear q154
                          try clear q155
                          obtain ⟨x20_4, x21_4, x23_4, rfl, rfl, HA, HK4, HO_13, HO_15, HO_21, HB⟩ := hrel
                          cases gk with
                          | zero => exact absurd HA.out (by simp [stowagelaw12_SolveAll.l2])
                          | succ k4 =>
                            have H := HA.out
                            clear HA
                            simp only [stowagelaw12_SolveAll.l2] at H
                            by_cases c42 : x20_4 > 0
                            · rw [if_pos c42] at H
                              have c42b0 : decide (0 < x20_4) = true := decide_eq_true c42
                              clear c42
                              by_cases c43 : x23_4 < (l3.length : Int)
                              · rw [if_pos c43] at H
                                have c43b0 : decide (x23_4 < (l3.length : Int)) = true := decide_eq_true c43
                                clear c43
                                by_cases c44 : 0 ≤ x23_4
                                · rw [if_pos c44] at H
                                  have c44b0 : decide (0 ≤ x23_4) = true := decide_eq_true c44
                                  clear c44
                                  by_cases c45 : (x21_4.length : Int) = 0
                                  · rw [if_pos c45] at H
                                    exact absurd H (by simp)
                                  · rw [if_neg c45] at H
                                    have c45b0 : ((x21_4.length : Int) == 0) = false := beq_eq_false_iff_ne.mpr c45
                                    have c45b1 : ((x21_4.length : Int) != 0) = true := bne_iff_ne.mpr c45
                                    have c45b2 : ¬ (x21_4 = []) := fun h_ => c45 (by rw [h_]; rfl)
                                    obtain ⟨ji46, hji46⟩ : ∃ j_ : Int, (Int.tmod (wrap64 (rd l3 x23_4)) (x21_4.length : Int)) = j_ := ⟨_, rfl⟩
                                    replace H : (if 0 ≤ (ji46) then (if (ji46) < (x21_4.length : Int) then (stowagelaw12_SolveAll.l2 k4 l2 l3 (wrap64 (Int.tmod a0 120)) t133 t137 t138 x18_3 x19_3 (wrap64 (x20_4 - 1)) (x21_4.set ((ji46) : Int).toNat (wrap64 ((rd x21_4 (ji46)) + 1))) (wrap64 (x23_4 + 1))) else (none)) else (none)) = some r := by first | (rw [hji46] at H; exact H) | (simp only [hji46] at H ⊢; exact H)
                                    by_cases c47 : 0 ≤ (ji46)
                                    · rw [if_pos c47] at H
                                      have c47b0 : decide (0 ≤ (ji46)) = true := decide_eq_true c47
                                      clear c47
                                      by_cases c48 : (ji46) < (x21_4.length : Int)
                                      · rw [if_pos c48] at H
                                        have c48b0 : decide ((ji46) < (x21_4.length : Int)) = true := decide_eq_true c48
                                        clear c48
                                        obtain ⟨y158, hy158⟩ : ∃ y_ : List Int, y_ = (x21_4.set ((ji46) : Int).toNat (wrap64 ((rd x21_4 (ji46)) + 1))) := ⟨_, rfl⟩
                                        replace H : (stowagelaw12_SolveAll.l2 k4 l2 l3 (wrap64 (Int.tmod a0 120)) t133 t137 t138 x18_3 x19_3 (wrap64 (x20_4 - 1)) y158 (wrap64 (x23_4 + 1))) = some r := by first | (rw [hy158]; with_reducible exact H) | (have H2_ := (Option.bind_some _ _).symm.trans H; rw [hy158]; with_reducible exact H2_) | (have H2_ := (Option.bind_some _ _).symm.trans H; with_reducible exact H2_) | with_reducible exact H | (rw [hy158]; exact H) | exact H
                                        have Ny158 := Aside0.mk hy158
                                        clear hy158
                                        have H' := Aside0.mk H
                                        clear H
                                        have p156 : 0 ≤ (x23_4 : Int) := of_decide_eq_true (by first | (with_reducible assumption) | assumption)
                                        have q156 : x23_4 < (l3.length : Int) := of_decide_eq_true (by first | (with_reducible assumption) | assumption)
                                        obtain ⟨ad156, e156, hx156_0⟩ := Kd.at_int HR3.out x23_4 p156 q156
                                        cases e156
                                        replace hx156_0 := (HB.out.cell (World.block_lt_of_cell? w _ hx156_0)).trans hx156_0
                                        replace p156 := eq_true p156
                                        replace q156 := eq_true q156
                                        obtain ⟨Ao50, co50, eo50⟩ := Kd.R_slice HO_21.out
                                        subst eo50
                                        have p157 : 0 ≤ ((ji46) : Int) := of_decide_eq_true (by first | (with_reducible assumption) | assumption)
                                        have q157 : (ji46) < (x21_4.length : Int) := of_decide_eq_true (by first | (with_reducible assumption) | assumption)
                                        obtain ⟨ad157, e157, hx157_0⟩ := Kd.at_int (Kd.R_reads' HO_21.out).2.2 (ji46) p157 q157
                                        cases e157
                                        replace p157 := eq_true p157
                                        replace q157 := eq_true q157
                                        have p49 : 0 ≤ ((ji46) : Int) := of_decide_eq_true (by first | (with_reducible assumption) | assumption)
                                        have q49 : ((ji46) : Int) < ((x21_4.length : Int) : Int) := of_decide_eq_true (by first | (with_reducible assumption) | assumption)
                                        obtain ⟨go49, co49, eo49, gb49, gl49, cl49, HG49⟩ := Kd.R_form HO_21.out (by omega)
                                        (first | cases eo49 | (injection eo49 with ea_ en_ ec_; (first | subst ea_ | (injection ea_ with ea_; subst ea_)); subst ec_; clear en_))
                                        have GB49 := Aside0.mk gb49
                                        have GG49 := Aside0.mk HG49
                                        clear gb49 gl49 HG49
                                        (first | simp only [add_plain] at hx157_0 | skip)
                                        obtain ⟨hx49_0, hf49_0⟩ := Kd.R_celln 0 HO_21.out ((ji46) : Int) p49 q49
                                        replace p49 := eq_true p49
                                        replace q49 := eq_true q49
                                        have HP51 := Kd.R_putg HO_21.out ((ji46) : Int) (wrap64 ((rd x21_4 (ji46)) + 1))
                                        go_wp2_with (first | ((with_reducible refine gate_store (t := 3) (p := 150) rfl ?_); (try (rw [drewN_self wr]; generalize hq_ : World.drewN wr _ = wr; have n0_ := Aside0.mk (Kd.R_at hq_ HO_13.out); have n1_ := Aside0.mk (Kd.R_at hq_ HO_15.out); have n2_ := Aside0.mk (Kd.R_at hq_ HO_21.out); have n3_ := Aside0.mk (below_at hq_ HB.out); clear hq_ HO_13 HO_15 HO_21 HB; have HO_13 := n0_; have HO_15 := n1_; have HO_21 := n2_; have HB := n3_; clear n0_ n1_ n2_ n3_; (try (have HP51 := Kd.R_putg HO_21.out ((ji46) : Int) (wrap64 ((rd x21_4 (ji46)) + 1)))))); refine store_event (t := 3) (p := 150) (v := ?vo_w52) (w1 := (wr.setCell ⟨go49, ((ji46) : Int).toNat, none⟩ (.int .i64 (wrap64 ((rd x21_4 (ji46)) + 1))))) ?hg ?ho ?hn ?hr ?_; (case ho => rfl); (case hg => rfl); (case hn => rfl); (case hr => first | (go_simp; done) | (go_simp; rfl)); intro w52 hw; have hg : wr.grownBy w52 (some go49) := (by rw [hw]; exact HP51.2); have hp_ : Kd.R (Kd.int .i64) 3 w52 w.heap.size (fun k_ => some k_ ≠ (v135 : Value).ownBlock ∧ some k_ ≠ (v140 : Value).ownBlock) (.slice (some ⟨go49, 0, none⟩) x21_4.length co50) y158 := (by rw [hw, Ny158.out]; exact HP51.1); clear HP51; have n0_ := Aside0.mk (Kd.R_after (v := (.slice (some ⟨go49, 0, none⟩) x21_4.length co50)) (v1 := (.slice (some ⟨go49, 0, none⟩) x21_4.length co50)) (ok := (fun k_ => some k_ ≠ (v140 : Value).ownBlock)) (by (with_reducible repeat (first | apply Kd.R_alloc | apply Kd.R_drewN | apply Kd.R_drew)); exact HO_13.out) hg (.inl rfl)); have n1_ := Aside0.mk (Kd.R_after (v := (.slice (some ⟨go49, 0, none⟩) x21_4.length co50)) (v1 := (.slice (some ⟨go49, 0, none⟩) x21_4.length co50)) (ok := (fun k_ => some k_ ≠ (v135 : Value).ownBlock)) (by (with_reducible repeat (first | apply Kd.R_alloc | apply Kd.R_drewN | apply Kd.R_drew)); exact HO_15.out) hg (.inl rfl)); have n2_ := Aside0.mk (hp_); have n3_ := Aside0.mk ((by rw [hw]; exact below_set (HB.out) GB49.out : Below w.heap.size w w52)); clear HO_13; clear HO_15; clear HO_21; clear HB; have HO_13 := n0_; have HO_15 := n1_; have HO_21 := n2_; have HB := n3_; clear n0_ n1_ n2_ n3_; clear hg hw hp_))
                                        repeat (go_quiet (first | ((with_reducible refine gate_store (t := 3) (p := 150) rfl ?_); (try (rw [drewN_self wr]; generalize hq_ : World.drewN wr _ = wr; have n0_ := Aside0.mk (Kd.R_at hq_ HO_13.out); have n1_ := Aside0.mk (Kd.R_at hq_ HO_15.out); have n2_ := Aside0.mk (Kd.R_at hq_ HO_21.out); have n3_ := Aside0.mk (below_at hq_ HB.out); clear hq_ HO_13 HO_15 HO_21 HB; have HO_13 := n0_; have HO_15 := n1_; have HO_21 := n2_; have HB := n3_; clear n0_ n1_ n2_ n3_; (try (have HP51 := Kd.R_putg HO_21.out ((ji46) : Int) (wrap64 ((rd x21_4 (ji46)) + 1)))))); refine store_event (t := 3) (p := 150) (v := ?vo_w52) (w1 := (wr.setCell ⟨go49, ((ji46) : Int).toNat, none⟩ (.int .i64 (wrap64 ((rd x21_4 (ji46)) + 1))))) ?hg ?ho ?hn ?hr ?_; (case ho => rfl); (case hg => rfl); (case hn => rfl); (case hr => first | (go_simp; done) | (go_simp; rfl)); intro w52 hw; have hg : wr.grownBy w52 (some go49) := (by rw [hw]; exact HP51.2); have hp_ : Kd.R (Kd.int .i64) 3 w52 w.heap.size (fun k_ => some k_ ≠ (v135 : Value).ownBlock ∧ some k_ ≠ (v140 : Value).ownBlock) (.slice (some ⟨go49, 0, none⟩) x21_4.length co50) y158 := (by rw [hw, Ny158.out]; exact HP51.1); clear HP51; have n0_ := Aside0.mk (Kd.R_after (v := (.slice (some ⟨go49, 0, none⟩) x21_4.length co50)) (v1 := (.slice (some ⟨go49, 0, none⟩) x21_4.length co50)) (ok := (fun k_ => some k_ ≠ (v140 : Value).ownBlock)) (by (with_reducible repeat (first | apply Kd.R_alloc | apply Kd.R_drewN | apply Kd.R_drew)); exact HO_13.out) hg (.inl rfl)); have n1_ := Aside0.mk (Kd.R_after (v := (.slice (some ⟨go49, 0, none⟩) x21_4.length co50)) (v1 := (.slice (some ⟨go49, 0, none⟩) x21_4.length co50)) (ok := (fun k_ => some k_ ≠ (v135 : Value).ownBlock)) (by (with_reducible repeat (first | apply Kd.R_alloc | apply Kd.R_drewN | apply Kd.R_drew)); exact HO_15.out) hg (.inl rfl)); have n2_ := Aside0.mk (hp_); have n3_ := Aside0.mk ((by rw [hw]; exact below_set (HB.out) GB49.out : Below w.heap.size w w52)); clear HO_13; clear HO_15; clear HO_21; clear HB; have HO_13 := n0_; have HO_15 := n1_; have HO_21 := n2_; have HB := n3_; clear n0_ n1_ n2_ n3_; clear hg hw hp_)); try go_wp2_with (first | ((with_reducible refine gate_store (t := 3) (p := 150) rfl ?_); (try (rw [drewN_self wr]; generalize hq_ : World.drewN wr _ = wr; have n0_ := Aside0.mk (Kd.R_at hq_ HO_13.out); have n1_ := Aside0.mk (Kd.R_at hq_ HO_15.out); have n2_ := Aside0.mk (Kd.R_at hq_ HO_21.out); have n3_ := Aside0.mk (below_at hq_ HB.out); clear hq_ HO_13 HO_15 HO_21 HB; have HO_13 := n0_; have HO_15 := n1_; have HO_21 := n2_; have HB := n3_; clear n0_ n1_ n2_ n3_; (try (have HP51 := Kd.R_putg HO_21.out ((ji46) : Int) (wrap64 ((rd x21_4 (ji46)) + 1)))))); refine store_event (t := 3) (p := 150) (v := ?vo_w52) (w1 := (wr.setCell ⟨go49, ((ji46) : Int).toNat, none⟩ (.int .i64 (wrap64 ((rd x21_4 (ji46)) + 1))))) ?hg ?ho ?hn ?hr ?_; (case ho => rfl); (case hg => rfl); (case hn => rfl); (case hr => first | (go_simp; done) | (go_simp; rfl)); intro w52 hw; have hg : wr.grownBy w52 (some go49) := (by rw [hw]; exact HP51.2); have hp_ : Kd.R (Kd.int .i64) 3 w52 w.heap.size (fun k_ => some k_ ≠ (v135 : Value).ownBlock ∧ some k_ ≠ (v140 : Value).ownBlock) (.slice (some ⟨go49, 0, none⟩) x21_4.length co50) y158 := (by rw [hw, Ny158.out]; exact HP51.1); clear HP51; have n0_ := Aside0.mk (Kd.R_after (v := (.slice (some ⟨go49, 0, none⟩) x21_4.length co50)) (v1 := (.slice (some ⟨go49, 0, none⟩) x21_4.length co50)) (ok := (fun k_ => some k_ ≠ (v140 : Value).ownBlock)) (by (with_reducible repeat (first | apply Kd.R_alloc | apply Kd.R_drewN | apply Kd.R_drew)); exact HO_13.out) hg (.inl rfl)); have n1_ := Aside0.mk (Kd.R_after (v := (.slice (some ⟨go49, 0, none⟩) x21_4.length co50)) (v1 := (.slice (some ⟨go49, 0, none⟩) x21_4.length co50)) (ok := (fun k_ => some k_ ≠ (v135 : Value).ownBlock)) (by (with_reducible repeat (first | apply Kd.R_alloc | apply Kd.R_drewN | apply Kd.R_drew)); exact HO_15.out) hg (.inl rfl)); have n2_ := Aside0.mk (hp_); have n3_ := Aside0.mk ((by rw [hw]; exact below_set (HB.out) GB49.out : Below w.heap.size w w52)); clear HO_13; clear HO_15; clear HO_21; clear HB; have HO_13 := n0_; have HO_15 := n1_; have HO_21 := n2_; have HB := n3_; clear n0_ n1_ n2_ n3_; clear hg hw hp_)))
                                        go_roundg k4
                                        case measure => have := HK1.out; have := HJ15.out; have := HK3.out; have := HK4.out; omega
                                        case rel => exact ⟨(wrap64 (x20_4 - 1)), (y158), (wrap64 (x23_4 + 1)), (by first | rfl | (simp; done) | (simp [*]; done)), (by first | rfl | (simp; done) | (simp [*]; done)), H', ⟨by have := HK1.out; have := HJ15.out; have := HK3.out; have := HK4.out; omega⟩, ⟨by (with_reducible repeat (first | apply Kd.R_alloc | apply Kd.R_drewN | apply Kd.R_drew)); exact HO_13.out⟩, ⟨by (with_reducible repeat (first | apply Kd.R_alloc | apply Kd.R_drewN | apply Kd.R_drew)); exact HO_15.out⟩, ⟨by (with_reducible repeat (first | apply Kd.R_alloc | apply Kd.R_drewN | apply Kd.R_drew)); exact HO_21.out⟩, ⟨by repeat (first | (with_reducible first | exact HB.out | apply below_alloc | apply pw_below_drewN | apply below_drew1) | exact HB.out)⟩⟩
                                      · rw [if_neg c48] at H
                                        exact absurd H (by simp)
                                    · rw [if_neg c47] at H
                                      exact absurd H (by simp)
                                · rw [if_neg c44] at H
                                  exact absurd H (by simp)
                              · rw [if_neg c43] at H
                                have c43b0 : decide (x23_4 < (l3.length : Int)) = false := decide_eq_false c43
                                clear c43
                                by_cases c53 : 0 < (x21_4.length : Int)
                                · rw [if_pos c53] at H
                                  have c53b0 : decide (0 < (x21_4.length : Int)) = true := decide_eq_true c53
                                  have c53b1 : decide (0 < x21_4.length) = true := decide_eq_true (by omega)
                                  clear c53
                                  obtain ⟨y160, hy160⟩ : ∃ y_ : List Int, y_ = (x21_4.set (0 : Int).toNat (wrap64 ((rd x21_4 0) + 1))) := ⟨_, rfl⟩
                                  replace H : (stowagelaw12_SolveAll.l2 k4 l2 l3 (wrap64 (Int.tmod a0 120)) t133 t137 t138 x18_3 x19_3 (wrap64 (x20_4 - 1)) y160 (wrap64 (x23_4 + 1))) = some r := by first | (rw [hy160]; with_reducible exact H) | (have H2_ := (Option.bind_some _ _).symm.trans H; rw [hy160]; with_reducible exact H2_) | (have H2_ := (Option.bind_some _ _).symm.trans H; with_reducible exact H2_) | with_reducible exact H | (rw [hy160]; exact H) | exact H
                                  have Ny160 := Aside0.mk hy160
                                  clear hy160
                                  have H' := Aside0.mk H
                                  clear H
                                  obtain ⟨Ao55, co55, eo55⟩ := Kd.R_slice HO_21.out
                                  subst eo55
                                  have p159 : 0 ≤ (0 : Int) := (by omega)
                                  have q159 : 0 < (x21_4.length : Int) := of_decide_eq_true (by first | (with_reducible assumption) | assumption)
                                  obtain ⟨ad159, e159, hx159_0⟩ := Kd.at_int (Kd.R_reads' HO_21.out).2.2 0 p159 q159
                                  cases e159
                                  have qi159 : (0 < x21_4.length) = True := eq_true (by omega)
                                  (try rw [show ((0 : Int)).toNat = 0 from rfl] at hx159_0)
                                  (try rw [Addr.add_zero'] at hx159_0)
                                  replace p159 := eq_true p159
                                  replace q159 := eq_true q159
                                  have p54 : 0 ≤ (0 : Int) := (by omega)
                                  have q54 : (0 : Int) < ((x21_4.length : Int) : Int) := of_decide_eq_true (by first | (with_reducible assumption) | assumption)
                                  have qi54 : (0 < x21_4.length) = True := eq_true (by omega)
                                  obtain ⟨go54, co54, eo54, gb54, gl54, cl54, HG54⟩ := Kd.R_form HO_21.out (by omega)
                                  (first | cases eo54 | (injection eo54 with ea_ en_ ec_; (first | subst ea_ | (injection ea_ with ea_; subst ea_)); subst ec_; clear en_))
                                  have GB54 := Aside0.mk gb54
                                  have GG54 := Aside0.mk HG54
                                  clear gb54 gl54 HG54
                                  (first | simp only [add_plain] at hx159_0 | skip)
                                  obtain ⟨hx54_0, hf54_0⟩ := Kd.R_celln 0 HO_21.out (0 : Int) p54 q54
                                  (try rw [show ((0 : Int)).toNat = 0 from rfl] at hx54_0)
                                  (try simp only [Nat.reduceMul, Nat.zero_mul, Nat.zero_add, Nat.reduceAdd] at hx54_0)
                                  (try rw [show ((0 : Int)).toNat = 0 from rfl] at hf54_0)
                                  (try simp only [Nat.reduceMul, Nat.zero_mul, Nat.zero_add, Nat.reduceAdd] at hf54_0)
                                  replace p54 := eq_true p54
                                  replace q54 := eq_true q54
                                  have HP56 := Kd.R_putg HO_21.out (0 : Int) (wrap64 ((rd x21_4 0) + 1))
                                  go_wp2_with (first | ((with_reducible refine gate_store (t := 3) (p := 150) rfl ?_); (try (rw [drewN_self wr]; generalize hq_ : World.drewN wr _ = wr; have n0_ := Aside0.mk (Kd.R_at hq_ HO_13.out); have n1_ := Aside0.mk (Kd.R_at hq_ HO_15.out); have n2_ := Aside0.mk (Kd.R_at hq_ HO_21.out); have n3_ := Aside0.mk (below_at hq_ HB.out); clear hq_ HO_13 HO_15 HO_21 HB; have HO_13 := n0_; have HO_15 := n1_; have HO_21 := n2_; have HB := n3_; clear n0_ n1_ n2_ n3_; (try (have HP56 := Kd.R_putg HO_21.out (0 : Int) (wrap64 ((rd x21_4 0) + 1)))))); refine store_event (t := 3) (p := 150) (v := ?vo_w57) (w1 := (wr.setCell ⟨go54, (0 : Int).toNat, none⟩ (.int .i64 (wrap64 ((rd x21_4 0) + 1))))) ?hg ?ho ?hn ?hr ?_; (case ho => rfl); (case hg => rfl); (case hn => rfl); (case hr => first | (go_simp; done) | (go_simp; rfl)); intro w57 hw; have hg : wr.grownBy w57 (some go54) := (by rw [hw]; exact HP56.2); have hp_ : Kd.R (Kd.int .i64) 3 w57 w.heap.size (fun k_ => some k_ ≠ (v135 : Value).ownBlock ∧ some k_ ≠ (v140 : Value).ownBlock) (.slice (some ⟨go54, 0, none⟩) x21_4.length co55) y160 := (by rw [hw, Ny160.out]; exact HP56.1); clear HP56; have n0_ := Aside0.mk (Kd.R_after (v := (.slice (some ⟨go54, 0, none⟩) x21_4.length co55)) (v1 := (.slice (some ⟨go54, 0, none⟩) x21_4.length co55)) (ok := (fun k_ => some k_ ≠ (v140 : Value).ownBlock)) (by (with_reducible repeat (first | apply Kd.R_alloc | apply Kd.R_drewN | apply Kd.R_drew)); exact HO_13.out) hg (.inl rfl)); have n1_ := Aside0.mk (Kd.R_after (v := (.slice (some ⟨go54, 0, none⟩) x21_4.length co55)) (v1 := (.slice (some ⟨go54, 0, none⟩) x21_4.length co55)) (ok := (fun k_ => some k_ ≠ (v135 : Value).ownBlock)) (by (with_reducible repeat (first | apply Kd.R_alloc | apply Kd.R_drewN | apply Kd.R_drew)); exact HO_15.out) hg (.inl rfl)); have n2_ := Aside0.mk (hp_); have n3_ := Aside0.mk ((by rw [hw]; exact below_set (HB.out) GB54.out : Below w.heap.size w w57)); clear HO_13; clear HO_15; clear HO_21; clear HB; have HO_13 := n0_; have HO_15 := n1_; have HO_21 := n2_; have HB := n3_; clear n0_ n1_ n2_ n3_; clear hg hw hp_))
                                  repeat (go_quiet (first | ((with_reducible refine gate_store (t := 3) (p := 150) rfl ?_); (try (rw [drewN_self wr]; generalize hq_ : World.drewN wr _ = wr; have n0_ := Aside0.mk (Kd.R_at hq_ HO_13.out); have n1_ := Aside0.mk (Kd.R_at hq_ HO_15.out); have n2_ := Aside0.mk (Kd.R_at hq_ HO_21.out); have n3_ := Aside0.mk (below_at hq_ HB.out); clear hq_ HO_13 HO_15 HO_21 HB; have HO_13 := n0_; have HO_15 := n1_; have HO_21 := n2_; have HB := n3_; clear n0_ n1_ n2_ n3_; (try (have HP56 := Kd.R_putg HO_21.out (0 : Int) (wrap64 ((rd x21_4 0) + 1)))))); refine store_event (t := 3) (p := 150) (v := ?vo_w57) (w1 := (wr.setCell ⟨go54, (0 : Int).toNat, none⟩ (.int .i64 (wrap64 ((rd x21_4 0) + 1))))) ?hg ?ho ?hn ?hr ?_; (case ho => rfl); (case hg => rfl); (case hn => rfl); (case hr => first | (go_simp; done) | (go_simp; rfl)); intro w57 hw; have hg : wr.grownBy w57 (some go54) := (by rw [hw]; exact HP56.2); have hp_ : Kd.R (Kd.int .i64) 3 w57 w.heap.size (fun k_ => some k_ ≠ (v135 : Value).ownBlock ∧ some k_ ≠ (v140 : Value).ownBlock) (.slice (some ⟨go54, 0, none⟩) x21_4.length co55) y160 := (by rw [hw, Ny160.out]; exact HP56.1); clear HP56; have n0_ := Aside0.mk (Kd.R_after (v := (.slice (some ⟨go54, 0, none⟩) x21_4.length co55)) (v1 := (.slice (some ⟨go54, 0, none⟩) x21_4.length co55)) (ok := (fun k_ => some k_ ≠ (v140 : Value).ownBlock)) (by (with_reducible repeat (first | apply Kd.R_alloc | apply Kd.R_drewN | apply Kd.R_drew)); exact HO_13.out) hg (.inl rfl)); have n1_ := Aside0.mk (Kd.R_after (v := (.slice (some ⟨go54, 0, none⟩) x21_4.length co55)) (v1 := (.slice (some ⟨go54, 0, none⟩) x21_4.length co55)) (ok := (fun k_ => some k_ ≠ (v135 : Value).ownBlock)) (by (with_reducible repeat (first | apply Kd.R_alloc | apply Kd.R_drewN | apply Kd.R_drew)); exact HO_15.out) hg (.inl rfl)); have n2_ := Aside0.mk (hp_); have n3_ := Aside0.mk ((by rw [hw]; exact below_set (HB.out) GB54.out : Below w.heap.size w w57)); clear HO_13; clear HO_15; clear HO_21; clear HB; have HO_13 := n0_; have HO_15 := n1_; have HO_21 := n2_; have HB := n3_; clear n0_ n1_ n2_ n3_; clear hg hw hp_)); try go_wp2_with (first | ((with_reducible refine gate_store (t := 3) (p := 150) rfl ?_); (try (rw [drewN_self wr]; generalize hq_ : World.drewN wr _ = wr; have n0_ := Aside0.mk (Kd.R_at hq_ HO_13.out); have n1_ := Aside0.mk (Kd.R_at hq_ HO_15.out); have n2_ := Aside0.mk (Kd.R_at hq_ HO_21.out); have n3_ := Aside0.mk (below_at hq_ HB.out); clear hq_ HO_13 HO_15 HO_21 HB; have HO_13 := n0_; have HO_15 := n1_; have HO_21 := n2_; have HB := n3_; clear n0_ n1_ n2_ n3_; (try (have HP56 := Kd.R_putg HO_21.out (0 : Int) (wrap64 ((rd x21_4 0) + 1)))))); refine store_event (t := 3) (p := 150) (v := ?vo_w57) (w1 := (wr.setCell ⟨go54, (0 : Int).toNat, none⟩ (.int .i64 (wrap64 ((rd x21_4 0) + 1))))) ?hg ?ho ?hn ?hr ?_; (case ho => rfl); (case hg => rfl); (case hn => rfl); (case hr => first | (go_simp; done) | (go_simp; rfl)); intro w57 hw; have hg : wr.grownBy w57 (some go54) := (by rw [hw]; exact HP56.2); have hp_ : Kd.R (Kd.int .i64) 3 w57 w.heap.size (fun k_ => some k_ ≠ (v135 : Value).ownBlock ∧ some k_ ≠ (v140 : Value).ownBlock) (.slice (some ⟨go54, 0, none⟩) x21_4.length co55) y160 := (by rw [hw, Ny160.out]; exact HP56.1); clear HP56; have n0_ := Aside0.mk (Kd.R_after (v := (.slice (some ⟨go54, 0, none⟩) x21_4.length co55)) (v1 := (.slice (some ⟨go54, 0, none⟩) x21_4.length co55)) (ok := (fun k_ => some k_ ≠ (v140 : Value).ownBlock)) (by (with_reducible repeat (first | apply Kd.R_alloc | apply Kd.R_drewN | apply Kd.R_drew)); exact HO_13.out) hg (.inl rfl)); have n1_ := Aside0.mk (Kd.R_after (v := (.slice (some ⟨go54, 0, none⟩) x21_4.length co55)) (v1 := (.slice (some ⟨go54, 0, none⟩) x21_4.length co55)) (ok := (fun k_ => some k_ ≠ (v135 : Value).ownBlock)) (by (with_reducible repeat (first | apply Kd.R_alloc | apply Kd.R_drewN | apply Kd.R_drew)); exact HO_15.out) hg (.inl rfl)); have n2_ := Aside0.mk (hp_); have n3_ := Aside0.mk ((by rw [hw]; exact below_set (HB.out) GB54.out : Below w.heap.size w w57)); clear HO_13; clear HO_15; clear HO_21; clear HB; have HO_13 := n0_; have HO_15 := n1_; have HO_21 := n2_; have HB := n3_; clear n0_ n1_ n2_ n3_; clear hg hw hp_)))
                                  go_roundg k4
                                  case measure => have := HK1.out; have := HJ15.out; have := HK3.out; have := HK4.out; omega
                                  case rel => exact ⟨(wrap64 (x20_4 - 1)), (y160), (wrap64 (x23_4 + 1)), (by first | rfl | (simp; done) | (simp [*]; done)), (by first | rfl | (simp; done) | (simp [*]; done)), H', ⟨by have := HK1.out; have := HJ15.out; have := HK3.out; have := HK4.out; omega⟩, ⟨by (with_reducible repeat (first | apply Kd.R_alloc | apply Kd.R_drewN | apply Kd.R_drew)); exact HO_13.out⟩, ⟨by (with_reducible repeat (first | apply Kd.R_alloc | apply Kd.R_drewN | apply Kd.R_drew)); exact HO_15.out⟩, ⟨by (with_reducible repeat (first | apply Kd.R_alloc | apply Kd.R_drewN | apply Kd.R_drew)); exact HO_21.out⟩, ⟨by repeat (first | (with_reducible first | exact HB.out | apply below_alloc | apply pw_below_drewN | apply below_drew1) | exact HB.out)⟩⟩
                                · rw [if_neg c53] at H
                                  exact absurd H (by simp)
                            · rw [if_neg c42] at H
                              have c42b0 : decide (0 < x20_4) = false := decide_eq_false c42
                              clear c42
                              by_cases c58 : x18_3 = (wrap64 (Int.tmod a0 120))
                              · rw [if_pos c58] at H
                                have c58b0 : (x18_3 == (wrap64 (Int.tmod a0 120))) = true := beq_iff_eq.mpr c58
                                have c58b1 : (x18_3 != (wrap64 (Int.tmod a0 120))) = false := bne_eq_false_iff_eq.mpr c58
                                clear c58
                                by_cases c59 : x19_3 = (wrap64 (Int.tmod a0 120))
                                · rw [if_pos c59] at H
                                  have c59b0 : (x19_3 == (wrap64 (Int.tmod a0 120))) = true := beq_iff_eq.mpr c59
                                  have c59b1 : (x19_3 != (wrap64 (Int.tmod a0 120))) = false := bne_eq_false_iff_eq.mpr c59
                                  clear c59
                                  replace H := Option.bind_eq_some_iff.mp H
                                  obtain ⟨t161, A600, H⟩ := H
                                  replace H : (if t138 ≥ t161 then ((stowageref12_Sum.f k4 x21_4 l2).bind fun t162 => (if t138 ≥ t162 then ((stowageref12_Sum.f k4 t137 l2).bind fun t163 => (some (t138 == t163))) else (some false))) else (some false)) = some r := H
                                  have A60 := Aside0.mk A600
                                  clear A600
                                  by_cases c61 : t138 ≥ t161
                                  · rw [if_pos c61] at H
                                    have c61b0 : decide (t161 ≤ t138) = true := decide_eq_true c61
                                    clear c61
                                    replace H := Option.bind_eq_some_iff.mp H
                                    obtain ⟨t162, A620, H⟩ := H
                                    replace H : (if t138 ≥ t162 then ((stowageref12_Sum.f k4 t137 l2).bind fun t163 => (some (t138 == t163))) else (some false)) = some r := H
                                    have A62 := Aside0.mk A620
                                    clear A620
                                    by_cases c63 : t138 ≥ t162
                                    · rw [if_pos c63] at H
                                      have c63b0 : decide (t162 ≤ t138) = true := decide_eq_true c63
                                      clear c63
                                      replace H := Option.bind_eq_some_iff.mp H
                                      obtain ⟨t163, A640, H⟩ := H
                                      replace H : (some (t138 == t163)) = some r := H
                                      have A64 := Aside0.mk A640
                                      clear A640
                                      obtain rfl := Option.some.inj H
                                      obtain ⟨Ao65, co65, eo65⟩ := Kd.R_slice HO_13.out
                                      subst eo65
                                      go_wp2_with (first | (go_at_call 15; (with_reducible refine (stowageref12_Sum.calls k4 _ _ t133 _ _ l2 t161 _ ?side1 ?side2 ?side3 ?side4 A60.out).mono ?_); (case side1 => repeat (first | exact (Kd.R_reads' HO_13.out).2.2 | (with_reducible refine Kd.C_alloc ?_ _) | (with_reducible refine Kd.C_drewN ?_ _) | (with_reducible refine Kd.C_drew ?_))); (case side2 => exact (Kd.R_reads' HO_13.out).2.1); (case side3 => repeat (first | exact (Kd.C_below HR2.out HB.out) | (with_reducible refine Kd.C_alloc ?_ _) | (with_reducible refine Kd.C_drewN ?_ _) | (with_reducible refine Kd.C_drew ?_))); (case side4 => exact HC2.out); rintro e w' ⟨rfl, ⟨nd, rfl⟩⟩; (try first | exact ⟨rfl, _, World.drewN_drewN _ _ _⟩ | exact ⟨rfl, _, Eq.trans (World.drewN_drewN _ _ _) (congrArg (World.drewN _) (Nat.add_assoc _ _ _))⟩); obtain ⟨Ao66, co66, eo66⟩ := Kd.R_slice HO_21.out; subst eo66) | (go_at_call 15; (with_reducible refine (stowageref12_Sum.calls k4 _ _ x21_4 _ _ l2 t162 _ ?side1 ?side2 ?side3 ?side4 A62.out).mono ?_); (case side1 => repeat (first | exact (Kd.R_reads' HO_21.out).2.2 | (with_reducible refine Kd.C_alloc ?_ _) | (with_reducible refine Kd.C_drewN ?_ _) | (with_reducible refine Kd.C_drew ?_))); (case side2 => exact (Kd.R_reads' HO_21.out).2.1); (case side3 => repeat (first | exact (Kd.C_below HR2.out (by repeat (first | (with_reducible first | exact HB.out | apply below_alloc | apply pw_below_drewN | apply below_drew1) | exact HB.out))) | (with_reducible refine Kd.C_alloc ?_ _) | (with_reducible refine Kd.C_drewN ?_ _) | (with_reducible refine Kd.C_drew ?_))); (case side4 => exact HC2.out); rintro e w' ⟨rfl, ⟨nd, rfl⟩⟩; (try first | exact ⟨rfl, _, World.drewN_drewN _ _ _⟩ | exact ⟨rfl, _, Eq.trans (World.drewN_drewN _ _ _) (congrArg (World.drewN _) (Nat.add_assoc _ _ _))⟩); obtain ⟨Ao67, co67, eo67⟩ := Kd.R_slice HO_15.out; subst eo67) | (go_at_call 15; (with_reducible refine (stowageref12_Sum.calls k4 _ _ t137 _ _ l2 t163 _ ?side1 ?side2 ?side3 ?side4 A64.out).mono ?_); (case side1 => repeat (first | exact (Kd.R_reads' HO_15.out).2.2 | (with_reducible refine Kd.C_alloc ?_ _) | (with_reducible refine Kd.C_drewN ?_ _) | (with_reducible refine Kd.C_drew ?_))); (case side2 => exact (Kd.R_reads' HO_15.out).2.1); (case side3 => repeat (first | exact (Kd.C_below HR2.out (by repeat (first | (with_reducible first | exact HB.out | apply below_alloc | apply pw_below_drewN | apply below_drew1) | exact HB.out))) | (with_reducible refine Kd.C_alloc ?_ _) | (with_reducible refine Kd.C_drewN ?_ _) | (with_reducible refine Kd.C_drew ?_))); (case side4 => exact HC2.out); rintro e w' ⟨rfl, ⟨nd, rfl⟩⟩; (try first | exact ⟨rfl, _, World.drewN_drewN _ _ _⟩ | exact ⟨rfl, _, Eq.trans (World.drewN_drewN _ _ _) (congrArg (World.drewN _) (Nat.add_assoc _ _ _))⟩)))
                                      repeat (go_quiet (first | (go_at_call 15; (with_reducible refine (stowageref12_Sum.calls k4 _ _ t133 _ _ l2 t161 _ ?side1 ?side2 ?side3 ?side4 A60.out).mono ?_); (case side1 => repeat (first | exact (Kd.R_reads' HO_13.out).2.2 | (with_reducible refine Kd.C_alloc ?_ _) | (with_reducible refine Kd.C_drewN ?_ _) | (with_reducible refine Kd.C_drew ?_))); (case side2 => exact (Kd.R_reads' HO_13.out).2.1); (case side3 => repeat (first | exact (Kd.C_below HR2.out HB.out) | (with_reducible refine Kd.C_alloc ?_ _) | (with_reducible refine Kd.C_drewN ?_ _) | (with_reducible refine Kd.C_drew ?_))); (case side4 => exact HC2.out); rintro e w' ⟨rfl, ⟨nd, rfl⟩⟩; (try first | exact ⟨rfl, _, World.drewN_drewN _ _ _⟩ | exact ⟨rfl, _, Eq.trans (World.drewN_drewN _ _ _) (congrArg (World.drewN _) (Nat.add_assoc _ _ _))⟩); obtain ⟨Ao66, co66, eo66⟩ := Kd.R_slice HO_21.out; subst eo66) | (go_at_call 15; (with_reducible refine (stowageref12_Sum.calls k4 _ _ x21_4 _ _ l2 t162 _ ?side1 ?side2 ?side3 ?side4 A62.out).mono ?_); (case side1 => repeat (first | exact (Kd.R_reads' HO_21.out).2.2 | (with_reducible refine Kd.C_alloc ?_ _) | (with_reducible refine Kd.C_drewN ?_ _) | (with_reducible refine Kd.C_drew ?_))); (case side2 => exact (Kd.R_reads' HO_21.out).2.1); (case side3 => repeat (first | exact (Kd.C_below HR2.out (by repeat (first | (with_reducible first | exact HB.out | apply below_alloc | apply pw_below_drewN | apply below_drew1) | exact HB.out))) | (with_reducible refine Kd.C_alloc ?_ _) | (with_reducible refine Kd.C_drewN ?_ _) | (with_reducible refine Kd.C_drew ?_))); (case side4 => exact HC2.out); rintro e w' ⟨rfl, ⟨nd, rfl⟩⟩; (try first | exact ⟨rfl, _, World.drewN_drewN _ _ _⟩ | exact ⟨rfl, _, Eq.trans (World.drewN_drewN _ _ _) (congrArg (World.drewN _) (Nat.add_assoc _ _ _))⟩); obtain ⟨Ao67, co67, eo67⟩ := Kd.R_slice HO_15.out; subst eo67) | (go_at_call 15; (with_reducible refine (stowageref12_Sum.calls k4 _ _ t137 _ _ l2 t163 _ ?side1 ?side2 ?side3 ?side4 A64.out).mono ?_); (case side1 => repeat (first | exact (Kd.R_reads' HO_15.out).2.2 | (with_reducible refine Kd.C_alloc ?_ _) | (with_reducible refine Kd.C_drewN ?_ _) | (with_reducible refine Kd.C_drew ?_))); (case side2 => exact (Kd.R_reads' HO_15.out).2.1); (case side3 => repeat (first | exact (Kd.C_below HR2.out (by repeat (first | (with_reducible first | exact HB.out | apply below_alloc | apply pw_below_drewN | apply below_drew1) | exact HB.out))) | (with_reducible refine Kd.C_alloc ?_ _) | (with_reducible refine Kd.C_drewN ?_ _) | (with_reducible refine Kd.C_drew ?_))); (case side4 => exact HC2.out); rintro e w' ⟨rfl, ⟨nd, rfl⟩⟩; (try first | exact ⟨rfl, _, World.drewN_drewN _ _ _⟩ | exact ⟨rfl, _, Eq.trans (World.drewN_drewN _ _ _) (congrArg (World.drewN _) (Nat.add_assoc _ _ _))⟩))); try go_wp2_with (first | (go_at_call 15; (with_reducible refine (stowageref12_Sum.calls k4 _ _ t133 _ _ l2 t161 _ ?side1 ?side2 ?side3 ?side4 A60.out).mono ?_); (case side1 => repeat (first | exact (Kd.R_reads' HO_13.out).2.2 | (with_reducible refine Kd.C_alloc ?_ _) | (with_reducible refine Kd.C_drewN ?_ _) | (with_reducible refine Kd.C_drew ?_))); (case side2 => exact (Kd.R_reads' HO_13.out).2.1); (case side3 => repeat (first | exact (Kd.C_below HR2.out HB.out) | (with_reducible refine Kd.C_alloc ?_ _) | (with_reducible refine Kd.C_drewN ?_ _) | (with_reducible refine Kd.C_drew ?_))); (case side4 => exact HC2.out); rintro e w' ⟨rfl, ⟨nd, rfl⟩⟩; (try first | exact ⟨rfl, _, World.drewN_drewN _ _ _⟩ | exact ⟨rfl, _, Eq.trans (World.drewN_drewN _ _ _) (congrArg (World.drewN _) (Nat.add_assoc _ _ _))⟩); obtain ⟨Ao66, co66, eo66⟩ := Kd.R_slice HO_21.out; subst eo66) | (go_at_call 15; (with_reducible refine (stowageref12_Sum.calls k4 _ _ x21_4 _ _ l2 t162 _ ?side1 ?side2 ?side3 ?side4 A62.out).mono ?_); (case side1 => repeat (first | exact (Kd.R_reads' HO_21.out).2.2 | (with_reducible refine Kd.C_alloc ?_ _) | (with_reducible refine Kd.C_drewN ?_ _) | (with_reducible refine Kd.C_drew ?_))); (case side2 => exact (Kd.R_reads' HO_21.out).2.1); (case side3 => repeat (first | exact (Kd.C_below HR2.out (by repeat (first | (with_reducible first | exact HB.out | apply below_alloc | apply pw_below_drewN | apply below_drew1) | exact HB.out))) | (with_reducible refine Kd.C_alloc ?_ _) | (with_reducible refine Kd.C_drewN ?_ _) | (with_reducible refine Kd.C_drew ?_))); (case side4 => exact HC2.out); rintro e w' ⟨rfl, ⟨nd, rfl⟩⟩; (try first | exact ⟨rfl, _, World.drewN_drewN _ _ _⟩ | exact ⟨rfl, _, Eq.trans (World.drewN_drewN _ _ _) (congrArg (World.drewN _) (Nat.add_assoc _ _ _))⟩); obtain ⟨Ao67, co67, eo67⟩ := Kd.R_slice HO_15.out; subst eo67) | (go_at_call 15; (with_reducible refine (stowageref12_Sum.calls k4 _ _ t137 _ _ l2 t163 _ ?side1 ?side2 ?side3 ?side4 A64.out).mono ?_); (case side1 => repeat (first | exact (Kd.R_reads' HO_15.out).2.2 | (with_reducible refine Kd.C_alloc ?_ _) | (with_reducible refine Kd.C_drewN ?_ _) | (with_reducible refine Kd.C_drew ?_))); (case side2 => exact (Kd.R_reads' HO_15.out).2.1); (case side3 => repeat (first | exact (Kd.C_below HR2.out (by repeat (first | (with_reducible first | exact HB.out | apply below_alloc | apply pw_below_drewN | apply below_drew1) | exact HB.out))) | (with_reducible refine Kd.C_alloc ?_ _) | (with_reducible refine Kd.C_drewN ?_ _) | (with_reducible refine Kd.C_drew ?_))); (case side4 => exact HC2.out); rintro e w' ⟨rfl, ⟨nd, rfl⟩⟩; (try first | exact ⟨rfl, _, World.drewN_drewN _ _ _⟩ | exact ⟨rfl, _, Eq.trans (World.drewN_drewN _ _ _) (congrArg (World.drewN _) (Nat.add_assoc _ _ _))⟩))))
                                      go_ret
                                      exact ⟨by first | rfl | (simp [errW_none, errW_some] <;> rfl) | (simp [*, errW_none, errW_some] <;> rfl), by repeat (first | (with_reducible first | exact HB.out | apply below_alloc | apply pw_below_drewN | apply below_drew1) | exact HB.out)⟩
                                    · rw [if_neg c63] at H
                                      have c63b0 : decide (t162 ≤ t138) = false := decide_eq_false c63
                                      clear c63
                                      obtain rfl := Option.some.inj H
                                      obtain ⟨Ao68, co68, eo68⟩ := Kd.R_slice HO_13.out
                                      subst eo68
                                      go_wp2_with (first | (go_at_call 15; (with_reducible refine (stowageref12_Sum.calls k4 _ _ t133 _ _ l2 t161 _ ?side1 ?side2 ?side3 ?side4 A60.out).mono ?_); (case side1 => repeat (first | exact (Kd.R_reads' HO_13.out).2.2 | (with_reducible refine Kd.C_alloc ?_ _) | (with_reducible refine Kd.C_drewN ?_ _) | (with_reducible refine Kd.C_drew ?_))); (case side2 => exact (Kd.R_reads' HO_13.out).2.1); (case side3 => repeat (first | exact (Kd.C_below HR2.out HB.out) | (with_reducible refine Kd.C_alloc ?_ _) | (with_reducible refine Kd.C_drewN ?_ _) | (with_reducible refine Kd.C_drew ?_))); (case side4 => exact HC2.out); rintro e w' ⟨rfl, ⟨nd, rfl⟩⟩; (try first | exact ⟨rfl, _, World.drewN_drewN _ _ _⟩ | exact ⟨rfl, _, Eq.trans (World.drewN_drewN _ _ _) (congrArg (World.drewN _) (Nat.add_assoc _ _ _))⟩); obtain ⟨Ao69, co69, eo69⟩ := Kd.R_slice HO_21.out; subst eo69) | (go_at_call 15; (with_reducible refine (stowageref12_Sum.calls k4 _ _ x21_4 _ _ l2 t162 _ ?side1 ?side2 ?side3 ?side4 A62.out).mono ?_); (case side1 => repeat (first | exact (Kd.R_reads' HO_21.out).2.2 | (with_reducible refine Kd.C_alloc ?_ _) | (with_reducible refine Kd.C_drewN ?_ _) | (with_reducible refine Kd.C_drew ?_))); (case side2 => exact (Kd.R_reads' HO_21.out).2.1); (case side3 => repeat (first | exact (Kd.C_below HR2.out (by repeat (first | (with_reducible first | exact HB.out | apply below_alloc | apply pw_below_drewN | apply below_drew1) | exact HB.out))) | (with_reducible refine Kd.C_alloc ?_ _) | (with_reducible refine Kd.C_drewN ?_ _) | (with_reducible refine Kd.C_drew ?_))); (case side4 => exact HC2.out); rintro e w' ⟨rfl, ⟨nd, rfl⟩⟩; (try first | exact ⟨rfl, _, World.drewN_drewN _ _ _⟩ | exact ⟨rfl, _, Eq.trans (World.drewN_drewN _ _ _) (congrArg (World.drewN _) (Nat.add_assoc _ _ _))⟩)))
                                      repeat (go_quiet (first | (go_at_call 15; (with_reducible refine (stowageref12_Sum.calls k4 _ _ t133 _ _ l2 t161 _ ?side1 ?side2 ?side3 ?side4 A60.out).mono ?_); (case side1 => repeat (first | exact (Kd.R_reads' HO_13.out).2.2 | (with_reducible refine Kd.C_alloc ?_ _) | (with_reducible refine Kd.C_drewN ?_ _) | (with_reducible refine Kd.C_drew ?_))); (case side2 => exact (Kd.R_reads' HO_13.out).2.1); (case side3 => repeat (first | exact (Kd.C_below HR2.out HB.out) | (with_reducible refine Kd.C_alloc ?_ _) | (with_reducible refine Kd.C_drewN ?_ _) | (with_reducible refine Kd.C_drew ?_))); (case side4 => exact HC2.out); rintro e w' ⟨rfl, ⟨nd, rfl⟩⟩; (try first | exact ⟨rfl, _, World.drewN_drewN _ _ _⟩ | exact ⟨rfl, _, Eq.trans (World.drewN_drewN _ _ _) (congrArg (World.drewN _) (Nat.add_assoc _ _ _))⟩); obtain ⟨Ao69, co69, eo69⟩ := Kd.R_slice HO_21.out; subst eo69) | (go_at_call 15; (with_reducible refine (stowageref12_Sum.calls k4 _ _ x21_4 _ _ l2 t162 _ ?side1 ?side2 ?side3 ?side4 A62.out).mono ?_); (case side1 => repeat (first | exact (Kd.R_reads' HO_21.out).2.2 | (with_reducible refine Kd.C_alloc ?_ _) | (with_reducible refine Kd.C_drewN ?_ _) | (with_reducible refine Kd.C_drew ?_))); (case side2 => exact (Kd.R_reads' HO_21.out).2.1); (case side3 => repeat (first | exact (Kd.C_below HR2.out (by repeat (first | (with_reducible first | exact HB.out | apply below_alloc | apply pw_below_drewN | apply below_drew1) | exact HB.out))) | (with_reducible refine Kd.C_alloc ?_ _) | (with_reducible refine Kd.C_drewN ?_ _) | (with_reducible refine Kd.C_drew ?_))); (case side4 => exact HC2.out); rintro e w' ⟨rfl, ⟨nd, rfl⟩⟩; (try first | exact ⟨rfl, _, World.drewN_drewN _ _ _⟩ | exact ⟨rfl, _, Eq.trans (World.drewN_drewN _ _ _) (congrArg (World.drewN _) (Nat.add_assoc _ _ _))⟩))); try go_wp2_with (first | (go_at_call 15; (with_reducible refine (stowageref12_Sum.calls k4 _ _ t133 _ _ l2 t161 _ ?side1 ?side2 ?side3 ?side4 A60.out).mono ?_); (case side1 => repeat (first | exact (Kd.R_reads' HO_13.out).2.2 | (with_reducible refine Kd.C_alloc ?_ _) | (with_reducible refine Kd.C_drewN ?_ _) | (with_reducible refine Kd.C_drew ?_))); (case side2 => exact (Kd.R_reads' HO_13.out).2.1); (case side3 => repeat (first | exact (Kd.C_below HR2.out HB.out) | (with_reducible refine Kd.C_alloc ?_ _) | (with_reducible refine Kd.C_drewN ?_ _) | (with_reducible refine Kd.C_drew ?_))); (case side4 => exact HC2.out); rintro e w' ⟨rfl, ⟨nd, rfl⟩⟩; (try first | exact ⟨rfl, _, World.drewN_drewN _ _ _⟩ | exact ⟨rfl, _, Eq.trans (World.drewN_drewN _ _ _) (congrArg (World.drewN _) (Nat.add_assoc _ _ _))⟩); obtain ⟨Ao69, co69, eo69⟩ := Kd.R_slice HO_21.out; subst eo69) | (go_at_call 15; (with_reducible refine (stowageref12_Sum.calls k4 _ _ x21_4 _ _ l2 t162 _ ?side1 ?side2 ?side3 ?side4 A62.out).mono ?_); (case side1 => repeat (first | exact (Kd.R_reads' HO_21.out).2.2 | (with_reducible refine Kd.C_alloc ?_ _) | (with_reducible refine Kd.C_drewN ?_ _) | (with_reducible refine Kd.C_drew ?_))); (case side2 => exact (Kd.R_reads' HO_21.out).2.1); (case side3 => repeat (first | exact (Kd.C_below HR2.out (by repeat (first | (with_reducible first | exact HB.out | apply below_alloc | apply pw_below_drewN | apply below_drew1) | exact HB.out))) | (with_reducible refine Kd.C_alloc ?_ _) | (with_reducible refine Kd.C_drewN ?_ _) | (with_reducible refine Kd.C_drew ?_))); (case side4 => exact HC2.out); rintro e w' ⟨rfl, ⟨nd, rfl⟩⟩; (try first | exact ⟨rfl, _, World.drewN_drewN _ _ _⟩ | exact ⟨rfl, _, Eq.trans (World.drewN_drewN _ _ _) (congrArg (World.drewN _) (Nat.add_assoc _ _ _))⟩))))
                                      go_ret
                                      exact ⟨by first | rfl | (simp [errW_none, errW_some] <;> rfl) | (simp [*, errW_none, errW_some] <;> rfl), by repeat (first | (with_reducible first | exact HB.out | apply below_alloc | apply pw_below_drewN | apply below_drew1) | exact HB.out)⟩
                                  · rw [if_neg c61] at H
                                    have c61b0 : decide (t161 ≤ t138) = false := decide_eq_false c61
                                    clear c61
                                    obtain rfl := Option.some.inj H
                                    obtain ⟨Ao70, co70, eo70⟩ := Kd.R_slice HO_13.out
                                    subst eo70
                                    go_wp2_with (first | (go_at_call 15; (with_reducible refine (stowageref12_Sum.calls k4 _ _ t133 _ _ l2 t161 _ ?side1 ?side2 ?side3 ?side4 A60.out).mono ?_); (case side1 => repeat (first | exact (Kd.R_reads' HO_13.out).2.2 | (with_reducible refine Kd.C_alloc ?_ _) | (with_reducible refine Kd.C_drewN ?_ _) | (with_reducible refine Kd.C_drew ?_))); (case side2 => exact (Kd.R_reads' HO_13.out).2.1); (case side3 => repeat (first | exact (Kd.C_below HR2.out HB.out) | (with_reducible refine Kd.C_alloc ?_ _) | (with_reducible refine Kd.C_drewN ?_ _) | (with_reducible refine Kd.C_drew ?_))); (case side4 => exact HC2.out); rintro e w' ⟨rfl, ⟨nd, rfl⟩⟩; (try first | exact ⟨rfl, _, World.drewN_drewN _ _ _⟩ | exact ⟨rfl, _, Eq.trans (World.drewN_drewN _ _ _) (congrArg (World.drewN _) (Nat.add_assoc _ _ _))⟩)))
                                    repeat (go_quiet (first | (go_at_call 15; (with_reducible refine (stowageref12_Sum.calls k4 _ _ t133 _ _ l2 t161 _ ?side1 ?side2 ?side3 ?side4 A60.out).mono ?_); (case side1 => repeat (first | exact (Kd.R_reads' HO_13.out).2.2 | (with_reducible refine Kd.C_alloc ?_ _) | (with_reducible refine Kd.C_drewN ?_ _) | (with_reducible refine Kd.C_drew ?_))); (case side2 => exact (Kd.R_reads' HO_13.out).2.1); (case side3 => repeat (first | exact (Kd.C_below HR2.out HB.out) | (with_reducible refine Kd.C_alloc ?_ _) | (with_reducible refine Kd.C_drewN ?_ _) | (with_reducible refine Kd.C_drew ?_))); (case side4 => exact HC2.out); rintro e w' ⟨rfl, ⟨nd, rfl⟩⟩; (try first | exact ⟨rfl, _, World.drewN_drewN _ _ _⟩ | exact ⟨rfl, _, Eq.trans (World.drewN_drewN _ _ _) (congrArg (World.drewN _) (Nat.add_assoc _ _ _))⟩))); try go_wp2_with (first | (go_at_call 15; (with_reducible refine (stowageref12_Sum.calls k4 _ _ t133 _ _ l2 t161 _ ?side1 ?side2 ?side3 ?side4 A60.out).mono ?_); (case side1 => repeat (first | exact (Kd.R_reads' HO_13.out).2.2 | (with_reducible refine Kd.C_alloc ?_ _) | (with_reducible refine Kd.C_drewN ?_ _) | (with_reducible refine Kd.C_drew ?_))); (case side2 => exact (Kd.R_reads' HO_13.out).2.1); (case side3 => repeat (first | exact (Kd.C_below HR2.out HB.out) | (with_reducible refine Kd.C_alloc ?_ _) | (with_reducible refine Kd.C_drewN ?_ _) | (with_reducible refine Kd.C_drew ?_))); (case side4 => exact HC2.out); rintro e w' ⟨rfl, ⟨nd, rfl⟩⟩; (try first | exact ⟨rfl, _, World.drewN_drewN _ _ _⟩ | exact ⟨rfl, _, Eq.trans (World.drewN_drewN _ _ _) (congrArg (World.drewN _) (Nat.add_assoc _ _ _))⟩))))
                                    go_ret
                                    exact ⟨by first | rfl | (simp [errW_none, errW_some] <;> rfl) | (simp [*, errW_none, errW_some] <;> rfl), by repeat (first | (with_reducible first | exact HB.out | apply below_alloc | apply pw_below_drewN | apply below_drew1) | exact HB.out)⟩
                                · rw [if_neg c59] at H
                                  have c59b0 : (x19_3 == (wrap64 (Int.tmod a0 120))) = false := beq_eq_false_iff_ne.mpr c59
                                  have c59b1 : (x19_3 != (wrap64 (Int.tmod a0 120))) = true := bne_iff_ne.mpr c59
                                  obtain rfl := Option.some.inj H
                                  go_wp2
                                  repeat (go_quiet (fail); try go_wp2)
                                  go_ret
                                  exact ⟨by first | rfl | (simp [errW_none, errW_some] <;> rfl) | (simp [*, errW_none, errW_some] <;> rfl), by repeat (first | (with_reducible first | exact HB.out | apply below_alloc | apply pw_below_drewN | apply below_drew1) | exact HB.out)⟩
                              · rw [if_neg c58] at H
                                have c58b0 : (x18_3 == (wrap64 (Int.tmod a0 120))) = false := beq_eq_false_iff_ne.mpr c58
                                have c58b1 : (x18_3 != (wrap64 (Int.tmod a0 120))) = true := bne_iff_ne.mpr c58
                                obtain rfl := Option.some.inj H
                                go_wp2
                                repeat (go_quiet (fail); try go_wp2)
                                go_ret
                                exact ⟨by first | rfl | (simp [errW_none, errW_some] <;> rfl) | (simp [*, errW_none, errW_some] <;> rfl), by repeat (first | (with_reducible first | exact HB.out | apply below_alloc | apply pw_below_drewN | apply below_drew1) | exact HB.out)⟩
                · rw [if_neg c26] at H
                  exact absurd H (by simp)
              · rw [if_neg c25] at H
                have c25b0 : (t134 == 0) = false := beq_eq_false_iff_ne.mpr c25
                have c25b1 : (t134 != 0) = true := bne_iff_ne.mpr c25
                by_cases c71 : (t133.length : Int) = 0
                · rw [if_pos c71] at H
                  have c71b0 : ((t133.length : Int) == 0) = true := beq_iff_eq.mpr c71
                  have c71b1 : ((t133.length : Int) != 0) = false := bne_eq_false_iff_eq.mpr c71
                  clear c71
                  obtain rfl := Option.some.inj H
                  obtain ⟨Ao72, co72, eo72⟩ := Kd.R_slice HO_13.out
                  subst eo72
                  obtain ⟨Ao73, co73, eo73⟩ := Kd.R_slice HO_15.out
                  subst eo73
                  go_wp2
                  repeat (go_quiet (fail); try go_wp2)
                  go_ret
                  exact ⟨by first | rfl | (simp [errW_none, errW_some] <;> rfl) | (simp [*, errW_none, errW_some] <;> rfl), by repeat (first | (with_reducible first | exact HB.out | apply below_alloc | apply pw_below_drewN | apply below_drew1) | exact HB.out)⟩
                · rw [if_neg c71] at H
                  have c71b0 : ((t133.length : Int) == 0) = false := beq_eq_false_iff_ne.mpr c71
                  have c71b1 : ((t133.length : Int) != 0) = true := bne_iff_ne.mpr c71
                  have c71b2 : ¬ (t133 = []) := fun h_ => c71 (by rw [h_]; rfl)
                  obtain rfl := Option.some.inj H
                  obtain ⟨Ao74, co74, eo74⟩ := Kd.R_slice HO_13.out
                  subst eo74
                  go_wp2
                  repeat (go_quiet (fail); try go_wp2)
                  go_ret
                  exact ⟨by first | rfl | (simp [errW_none, errW_some] <;> rfl) | (simp [*, errW_none, errW_some] <;> rfl), by repeat (first | (with_reducible first | exact HB.out | apply below_alloc | apply pw_below_drewN | apply below_drew1) | exact HB.out)⟩

end Go.Proofs.Ytmkeffpgofjlnaa.Q
