/- The law CurveCorners: its walk. (The kit's print tool wrote these lines; they are laid out in texts of this claim's own.) -/
import Derived.Test.YtlgikpfjonnhmaaQ0
import Derived.Test.YtlgikpfjonnhmaaQcurveOf
import Derived.Test.YtlgikpfjonnhmaaQcurveHull
import Derived.Test.YtlgikpfjonnhmaaQstowagelaw11awake
namespace Go.Proofs.Ytlgikpfjonnhmaa.Q
open Go.RowKit Go.Proofs.YtlgikpfjonnhmaaW.PrintWords Go.Proofs.YtlgikpfjonnhmaaW.PrintLast Go.Proofs.YtlgikpfjonnhmaaW.PrintMore
attribute [local go_sem] max2_int min2_int max_two min_two max_three min_three max_four min_four   -- for this text's walks alone
set_option linter.unusedVariables false
set_option linter.unusedSimpArgs false

/-! ### stowagelaw11_CurveCorners: function 5 -/
mutual
def stowagelaw11_CurveCorners.j1 : Nat → List Int → Option (Bool)
  | 0, _ => none
  | k + 1, x3 => (curve_Of.f k x3 1).bind fun bt152 => ((curve_Hull.f k bt152.1).bind fun bt156 => ((stowagelaw11_awake.f k).bind fun t160 => (if t160 = true then (if bt152.2 = 0 then (if bt156.2 = 0 then (if (bt156.1.length : Int) = 0 then (stowagelaw11_CurveCorners.j2 k bt152.1 bt156.1 true) else (if 0 < (bt156.1.length : Int) then (if (rd bt156.1 0) = 0 then (if 0 ≤ (wrap64 ((bt156.1.length : Int) - 1)) then (if (wrap64 ((bt156.1.length : Int) - 1)) < (bt156.1.length : Int) then (stowagelaw11_CurveCorners.j2 k bt152.1 bt156.1 ((rd bt156.1 (wrap64 ((bt156.1.length : Int) - 1))) != (x3.length : Int))) else (none)) else (none)) else (stowagelaw11_CurveCorners.j2 k bt152.1 bt156.1 true)) else (none))) else (stowagelaw11_CurveCorners.j2 k bt152.1 bt156.1 true)) else (stowagelaw11_CurveCorners.j2 k bt152.1 bt156.1 true)) else (stowagelaw11_CurveCorners.j2 k bt152.1 bt156.1 true))))
def stowagelaw11_CurveCorners.j2 : Nat → List Int → List Int → Bool → Option (Bool)
  | 0, _, _, _ => none
  | k + 1, x5, x7, x73 => if x73 = true then (some false) else (stowagelaw11_CurveCorners.l1 k x5 x7 1)
def stowagelaw11_CurveCorners.l1 : Nat → List Int → List Int → Int → Option (Bool)
  | 0, _, _, _ => none
  | k + 1, x5, x7, x9 => if x9 < (x7.length : Int) then (if 0 ≤ (wrap64 (x9 - 1)) then (if (wrap64 (x9 - 1)) < (x7.length : Int) then (if 0 ≤ x9 then (if (rd x7 (wrap64 (x9 - 1))) ≥ (rd x7 x9) then (some false) else (stowagelaw11_CurveCorners.l2 k x5 x7 x9 (rd x7 (wrap64 (x9 - 1))) (rd x7 x9) (rd x7 (wrap64 (x9 - 1))))) else (none)) else (none)) else (none)) else (some true)
def stowagelaw11_CurveCorners.l2 : Nat → List Int → List Int → Int → Int → Int → Int → Option (Bool)
  | 0, _, _, _, _, _, _ => none
  | k + 1, x5, x7, x9, x10, x11, x12 => if x12 ≤ x11 then (if 0 ≤ x12 then (if x12 < (x5.length : Int) then (if 0 ≤ x10 then (if x10 < (x5.length : Int) then (if 0 ≤ x11 then (if x11 < (x5.length : Int) then (if (wrap64 ((wrap64 ((rd x5 x12) - (rd x5 x10))) * (wrap64 (x11 - x10)))) > (wrap64 ((wrap64 ((rd x5 x11) - (rd x5 x10))) * (wrap64 (x12 - x10)))) then (some false) else (stowagelaw11_CurveCorners.l2 k x5 x7 x9 x10 x11 (wrap64 (x12 + 1)))) else (none)) else (none)) else (none)) else (none)) else (none)) else (none)) else (if x9 > 1 then (if 0 ≤ x10 then (if x10 < (x5.length : Int) then (if 0 ≤ (wrap64 (x9 - 2)) then (if (wrap64 (x9 - 2)) < (x7.length : Int) then (if 0 ≤ (rd x7 (wrap64 (x9 - 2))) then (if (rd x7 (wrap64 (x9 - 2))) < (x5.length : Int) then (if 0 ≤ x11 then (if x11 < (x5.length : Int) then (if (wrap64 ((wrap64 ((rd x5 x10) - (rd x5 (rd x7 (wrap64 (x9 - 2)))))) * (wrap64 (x11 - x10)))) ≤ (wrap64 ((wrap64 ((rd x5 x11) - (rd x5 x10))) * (wrap64 (x10 - (rd x7 (wrap64 (x9 - 2))))))) then (some false) else (stowagelaw11_CurveCorners.l1 k x5 x7 (wrap64 (x9 + 1)))) else (none)) else (none)) else (none)) else (none)) else (none)) else (none)) else (none)) else (none)) else (stowagelaw11_CurveCorners.l1 k x5 x7 (wrap64 (x9 + 1))))
def stowagelaw11_CurveCorners.l0 : Nat → List Int → List Int → Int → Option (Bool)
  | 0, _, _, _ => none
  | k + 1, x0, x3, x4 => if x4 < (x0.length : Int) then (if x4 < 300 then (if 0 ≤ x4 then (if x3.length < 17592186044416 then (stowagelaw11_CurveCorners.l0 k x0 (x3 ++ [wrap64 (rd x0 x4)]) (wrap64 (x4 + 1))) else (none)) else (none)) else (stowagelaw11_CurveCorners.j1 k x3)) else (stowagelaw11_CurveCorners.j1 k x3)
end
def stowagelaw11_CurveCorners.f (k : Nat) (l0 : List Int) : Option (Bool) := stowagelaw11_CurveCorners.l0 k l0 (([] : List Int)) 0
theorem stowagelaw11_CurveCorners.mono_l : ∀ k, (∀ y0, LeO (stowagelaw11_CurveCorners.j1 k y0) (stowagelaw11_CurveCorners.j1 (k + 1) y0)) ∧ (∀ y0 y1 y2, LeO (stowagelaw11_CurveCorners.j2 k y0 y1 y2) (stowagelaw11_CurveCorners.j2 (k + 1) y0 y1 y2)) ∧ (∀ y0 y1 y2, LeO (stowagelaw11_CurveCorners.l1 k y0 y1 y2) (stowagelaw11_CurveCorners.l1 (k + 1) y0 y1 y2)) ∧ (∀ y0 y1 y2 y3 y4 y5, LeO (stowagelaw11_CurveCorners.l2 k y0 y1 y2 y3 y4 y5) (stowagelaw11_CurveCorners.l2 (k + 1) y0 y1 y2 y3 y4 y5)) ∧ (∀ y0 y1 y2, LeO (stowagelaw11_CurveCorners.l0 k y0 y1 y2) (stowagelaw11_CurveCorners.l0 (k + 1) y0 y1 y2))
  | 0 => ⟨fun _ r h => by simp [stowagelaw11_CurveCorners.j1] at h, fun _ _ _ r h => by simp [stowagelaw11_CurveCorners.j2] at h, fun _ _ _ r h => by simp [stowagelaw11_CurveCorners.l1] at h, fun _ _ _ _ _ _ r h => by simp [stowagelaw11_CurveCorners.l2] at h, fun _ _ _ r h => by simp [stowagelaw11_CurveCorners.l0] at h⟩
  | k + 1 => by
    obtain ⟨ih0, ih1, ih2, ih3, ih4⟩ := stowagelaw11_CurveCorners.mono_l k
    refine ⟨?_, ?_, ?_, ?_, ?_⟩
    · intro y0
      unfold stowagelaw11_CurveCorners.j1
      repeat' first
      | (with_reducible exact ih0 _)
      | (with_reducible exact ih1 _ _ _)
      | (with_reducible exact ih2 _ _ _)
      | (with_reducible exact ih3 _ _ _ _ _ _)
      | (with_reducible exact ih4 _ _ _)
      | (with_reducible exact curve_Hull.mono _ _)
      | (with_reducible exact curve_Of.mono _ _ _)
      | (with_reducible exact stowagelaw11_awake.mono _)
      | (with_reducible exact LeO.refl _)
      | (with_reducible exact LeO.none _)
      | (with_reducible refine LeO.ite ?_ ?_)
      | (with_reducible refine LeO.bind ?_ (fun _ => ?_))
      | exact ih0 _
      | exact ih1 _ _ _
      | exact ih2 _ _ _
      | exact ih3 _ _ _ _ _ _
      | exact ih4 _ _ _
      | exact curve_Hull.mono _ _
      | exact curve_Of.mono _ _ _
      | exact stowagelaw11_awake.mono _
      | exact LeO.none _
      | refine LeO.ite ?_ ?_
      | refine LeO.bind ?_ (fun _ => ?_)
    · intro y0 y1 y2
      unfold stowagelaw11_CurveCorners.j2
      repeat' first
      | (with_reducible exact ih0 _)
      | (with_reducible exact ih1 _ _ _)
      | (with_reducible exact ih2 _ _ _)
      | (with_reducible exact ih3 _ _ _ _ _ _)
      | (with_reducible exact ih4 _ _ _)
      | (with_reducible exact curve_Hull.mono _ _)
      | (with_reducible exact curve_Of.mono _ _ _)
      | (with_reducible exact stowagelaw11_awake.mono _)
      | (with_reducible exact LeO.refl _)
      | (with_reducible exact LeO.none _)
      | (with_reducible refine LeO.ite ?_ ?_)
      | (with_reducible refine LeO.bind ?_ (fun _ => ?_))
      | exact ih0 _
      | exact ih1 _ _ _
      | exact ih2 _ _ _
      | exact ih3 _ _ _ _ _ _
      | exact ih4 _ _ _
      | exact curve_Hull.mono _ _
      | exact curve_Of.mono _ _ _
      | exact stowagelaw11_awake.mono _
      | exact LeO.none _
      | refine LeO.ite ?_ ?_
      | refine LeO.bind ?_ (fun _ => ?_)
    · intro y0 y1 y2
      unfold stowagelaw11_CurveCorners.l1
      repeat' first
      | (with_reducible exact ih0 _)
      | (with_reducible exact ih1 _ _ _)
      | (with_reducible exact ih2 _ _ _)
      | (with_reducible exact ih3 _ _ _ _ _ _)
      | (with_reducible exact ih4 _ _ _)
      | (with_reducible exact curve_Hull.mono _ _)
      | (with_reducible exact curve_Of.mono _ _ _)
      | (with_reducible exact stowagelaw11_awake.mono _)
      | (with_reducible exact LeO.refl _)
      | (with_reducible exact LeO.none _)
      | (with_reducible refine LeO.ite ?_ ?_)
      | (with_reducible refine LeO.bind ?_ (fun _ => ?_))
      | exact ih0 _
      | exact ih1 _ _ _
      | exact ih2 _ _ _
      | exact ih3 _ _ _ _ _ _
      | exact ih4 _ _ _
      | exact curve_Hull.mono _ _
      | exact curve_Of.mono _ _ _
      | exact stowagelaw11_awake.mono _
      | exact LeO.none _
      | refine LeO.ite ?_ ?_
      | refine LeO.bind ?_ (fun _ => ?_)
    · intro y0 y1 y2 y3 y4 y5
      unfold stowagelaw11_CurveCorners.l2
      repeat' first
      | (with_reducible exact ih0 _)
      | (with_reducible exact ih1 _ _ _)
      | (with_reducible exact ih2 _ _ _)
      | (with_reducible exact ih3 _ _ _ _ _ _)
      | (with_reducible exact ih4 _ _ _)
      | (with_reducible exact curve_Hull.mono _ _)
      | (with_reducible exact curve_Of.mono _ _ _)
      | (with_reducible exact stowagelaw11_awake.mono _)
      | (with_reducible exact LeO.refl _)
      | (with_reducible exact LeO.none _)
      | (with_reducible refine LeO.ite ?_ ?_)
      | (with_reducible refine LeO.bind ?_ (fun _ => ?_))
      | exact ih0 _
      | exact ih1 _ _ _
      | exact ih2 _ _ _
      | exact ih3 _ _ _ _ _ _
      | exact ih4 _ _ _
      | exact curve_Hull.mono _ _
      | exact curve_Of.mono _ _ _
      | exact stowagelaw11_awake.mono _
      | exact LeO.none _
      | refine LeO.ite ?_ ?_
      | refine LeO.bind ?_ (fun _ => ?_)
    · intro y0 y1 y2
      unfold stowagelaw11_CurveCorners.l0
      repeat' first
      | (with_reducible exact ih0 _)
      | (with_reducible exact ih1 _ _ _)
      | (with_reducible exact ih2 _ _ _)
      | (with_reducible exact ih3 _ _ _ _ _ _)
      | (with_reducible exact ih4 _ _ _)
      | (with_reducible exact curve_Hull.mono _ _)
      | (with_reducible exact curve_Of.mono _ _ _)
      | (with_reducible exact stowagelaw11_awake.mono _)
      | (with_reducible exact LeO.refl _)
      | (with_reducible exact LeO.none _)
      | (with_reducible refine LeO.ite ?_ ?_)
      | (with_reducible refine LeO.bind ?_ (fun _ => ?_))
      | exact ih0 _
      | exact ih1 _ _ _
      | exact ih2 _ _ _
      | exact ih3 _ _ _ _ _ _
      | exact ih4 _ _ _
      | exact curve_Hull.mono _ _
      | exact curve_Of.mono _ _ _
      | exact stowagelaw11_awake.mono _
      | exact LeO.none _
      | refine LeO.ite ?_ ?_
      | refine LeO.bind ?_ (fun _ => ?_)
theorem stowagelaw11_CurveCorners.mono : ∀ a0 k, LeO (stowagelaw11_CurveCorners.f k a0) (stowagelaw11_CurveCorners.f (k + 1) a0) := by
  intro a0 k
  obtain ⟨ih0, ih1, ih2, ih3, ih4⟩ := stowagelaw11_CurveCorners.mono_l k
  unfold stowagelaw11_CurveCorners.f
  repeat' first
      | (with_reducible exact ih0 _)
      | (with_reducible exact ih1 _ _ _)
      | (with_reducible exact ih2 _ _ _)
      | (with_reducible exact ih3 _ _ _ _ _ _)
      | (with_reducible exact ih4 _ _ _)
      | (with_reducible exact curve_Hull.mono _ _)
      | (with_reducible exact curve_Of.mono _ _ _)
      | (with_reducible exact stowagelaw11_awake.mono _)
      | (with_reducible exact LeO.refl _)
      | (with_reducible exact LeO.none _)
      | (with_reducible refine LeO.ite ?_ ?_)
      | (with_reducible refine LeO.bind ?_ (fun _ => ?_))
      | exact ih0 _
      | exact ih1 _ _ _
      | exact ih2 _ _ _
      | exact ih3 _ _ _ _ _ _
      | exact ih4 _ _ _
      | exact curve_Hull.mono _ _
      | exact curve_Of.mono _ _ _
      | exact stowagelaw11_awake.mono _
      | exact LeO.none _
      | refine LeO.ite ?_ ?_
      | refine LeO.bind ?_ (fun _ => ?_)
set_option maxHeartbeats 8000000 in
set_option maxRecDepth 100000 in
theorem stowagelaw11_CurveCorners.calls (k : Nat) (A0 : Option Addr) (c0 : Nat) (l0 : List Int) (r : Bool) (w : World) (hr0 : Kd.C (Kd.int .u16) w A0 l0.length l0) (hc0 : l0.length ≤ c0) (h : stowagelaw11_CurveCorners.f k l0 = some r) :
    Calls Try.prog 5 #[.slice A0 l0.length c0] w fun e w' => e = .returned (.bool r) ∧ Below w.heap.size w w' := by
  have HR0 := Aside0.mk hr0
  have HC0 := Aside0.mk hc0
  clear hr0 hc0
  have HB := Aside0.mk (Below.refl w.heap.size w)
  have H : (stowagelaw11_CurveCorners.l0 k l0 (([] : List Int)) 0) = some r := h
  clear h
  obtain ⟨y145, hy145⟩ : ∃ y_ : List Int, y_ = (([] : List Int)) := ⟨_, rfl⟩
  replace H : (stowagelaw11_CurveCorners.l0 k l0 y145 0) = some r := by first | (rw [hy145]; with_reducible exact H) | (have H2_ := (Option.bind_some _ _).symm.trans H; rw [hy145]; with_reducible exact H2_) | (have H2_ := (Option.bind_some _ _).symm.trans H; with_reducible exact H2_) | with_reducible exact H | (rw [hy145]; exact H) | exact H
  have Ny145 := Aside0.mk hy145
  clear hy145
  have HC2 := Aside0.mk H
  clear H
  go_enter Try.func5, Try.ntmps5
  go_upto_block 0 with (first | ((with_reducible refine gate_dst (N := 13) rfl ?_); (try (refine gate_guard (by rfl) ?_; dsimp only)); refine Kd.R_lit (Kd.int .i64) _ 3 ?hg (N := 13) ?hd (xs := ([] : List Int)) (inner := []) (ok := fun _ => True) (okp := fun _ => True) ?hr ?hp (fun _ hk => hk) trivial (Below.refl _ _) (Nat.le_refl _) (by simp) ?_; (case hd => rfl); (case hg => rfl); (case hr => first | (go_simp; done) | (go_simp; rfl)); (case hp => exact (Reps.none _ _)); intro v146 w3 ho4 hb hg_ hnew_; clear hg_ hnew_; (first | rw [← Ny145.out] at ho4 | (simp only [Int.reduceToNat] at ho4; rw [← Ny145.out] at ho4)); have n0_ := Aside0.mk (Kd.R_lower ho4 (below_size (by repeat (first | (with_reducible first | exact HB.out | apply below_alloc | apply pw_below_drewN | apply below_drew1) | exact HB.out)))); have n1_ := Aside0.mk (below_step (by repeat (first | (with_reducible first | exact HB.out | apply below_alloc | apply pw_below_drewN | apply below_drew1) | exact HB.out)) hb); clear HB; have HO147 := n0_; have HB := n1_; clear n0_ n1_; clear hb ho4))
  repeat (go_quiet (first | ((with_reducible refine gate_dst (N := 13) rfl ?_); (try (refine gate_guard (by rfl) ?_; dsimp only)); refine Kd.R_lit (Kd.int .i64) _ 3 ?hg (N := 13) ?hd (xs := ([] : List Int)) (inner := []) (ok := fun _ => True) (okp := fun _ => True) ?hr ?hp (fun _ hk => hk) trivial (Below.refl _ _) (Nat.le_refl _) (by simp) ?_; (case hd => rfl); (case hg => rfl); (case hr => first | (go_simp; done) | (go_simp; rfl)); (case hp => exact (Reps.none _ _)); intro v146 w3 ho4 hb hg_ hnew_; clear hg_ hnew_; (first | rw [← Ny145.out] at ho4 | (simp only [Int.reduceToNat] at ho4; rw [← Ny145.out] at ho4)); have n0_ := Aside0.mk (Kd.R_lower ho4 (below_size (by repeat (first | (with_reducible first | exact HB.out | apply below_alloc | apply pw_below_drewN | apply below_drew1) | exact HB.out)))); have n1_ := Aside0.mk (below_step (by repeat (first | (with_reducible first | exact HB.out | apply below_alloc | apply pw_below_drewN | apply below_drew1) | exact HB.out)) hb); clear HB; have HO147 := n0_; have HB := n1_; clear n0_ n1_; clear hb ho4)); go_upto_block 0 with (first | ((with_reducible refine gate_dst (N := 13) rfl ?_); (try (refine gate_guard (by rfl) ?_; dsimp only)); refine Kd.R_lit (Kd.int .i64) _ 3 ?hg (N := 13) ?hd (xs := ([] : List Int)) (inner := []) (ok := fun _ => True) (okp := fun _ => True) ?hr ?hp (fun _ hk => hk) trivial (Below.refl _ _) (Nat.le_refl _) (by simp) ?_; (case hd => rfl); (case hg => rfl); (case hr => first | (go_simp; done) | (go_simp; rfl)); (case hp => exact (Reps.none _ _)); intro v146 w3 ho4 hb hg_ hnew_; clear hg_ hnew_; (first | rw [← Ny145.out] at ho4 | (simp only [Int.reduceToNat] at ho4; rw [← Ny145.out] at ho4)); have n0_ := Aside0.mk (Kd.R_lower ho4 (below_size (by repeat (first | (with_reducible first | exact HB.out | apply below_alloc | apply pw_below_drewN | apply below_drew1) | exact HB.out)))); have n1_ := Aside0.mk (below_step (by repeat (first | (with_reducible first | exact HB.out | apply below_alloc | apply pw_below_drewN | apply below_drew1) | exact HB.out)) hb); clear HB; have HO147 := n0_; have HB := n1_; clear n0_ n1_; clear hb ho4)))
  (try simp only [Act.put, List.setIfInBounds_toArray, List.set_cons_zero, List.set_cons_succ])
  go_cut [3] (fun v3 wc => ∃ (kq : Nat) (x3_1 : List Int), Aside0 (stowagelaw11_CurveCorners.j1 kq x3_1 = some r) ∧ Aside0 (kq ≤ k) ∧ Aside0 (Kd.R (Kd.int .i64) 3 wc w.heap.size (fun _ => True) v3 x3_1) ∧ Aside0 (Below w.heap.size w wc))
  case first =>
    have H := HC2.out
    clear HC2
    have H' := Aside0.mk H
    clear H
    go_wp2
    repeat (go_quiet (fail); try go_wp2)
    go_loopg [3, 4] k (fun kq v3 v4 w' => ∃ (x3_1 : List Int) (x4_1 : Int), v4 = .int .i64 x4_1 ∧ Aside0 (stowagelaw11_CurveCorners.l0 kq l0 x3_1 x4_1 = some r) ∧ Aside0 (kq ≤ k) ∧ Aside0 (Kd.R (Kd.int .i64) 3 w' w.heap.size (fun _ => True) v3 x3_1) ∧ Aside0 (Below w.heap.size w w'))
    case atStart => exact ⟨(y145), (0), (by first | rfl | (simp; done) | (simp [*]; done)), H', ⟨Nat.le_refl _⟩, ⟨by (with_reducible repeat (first | apply Kd.R_alloc | apply Kd.R_drewN | apply Kd.R_drew)); exact HO147.out⟩, ⟨by repeat (first | (with_reducible first | exact HB.out | apply below_alloc | apply pw_below_drewN | apply below_drew1) | exact HB.out)⟩⟩
    case round =>
      clear H'
      try clear p2
      obtain ⟨x3_1, x4_1, rfl, HA, HK1, HO_3, HB⟩ := hrel
      cases gk with
      | zero => exact absurd HA.out (by simp [stowagelaw11_CurveCorners.l0])
      | succ k1 =>
        have H := HA.out
        clear HA
        simp only [stowagelaw11_CurveCorners.l0] at H
        by_cases c5 : x4_1 < (l0.length : Int)
        · rw [if_pos c5] at H
          have c5b0 : decide (x4_1 < (l0.length : Int)) = true := decide_eq_true c5
          clear c5
          (first | rw [c5b0] | (simp only [i64_w, i32_w]; rw [c5b0]) | skip)
          by_cases c6 : x4_1 < 300
          · rw [if_pos c6] at H
            have c6b0 : decide (x4_1 < 300) = true := decide_eq_true c6
            clear c6
            by_cases c7 : 0 ≤ x4_1
            · rw [if_pos c7] at H
              have c7b0 : decide (0 ≤ x4_1) = true := decide_eq_true c7
              clear c7
              by_cases c8 : x3_1.length < 17592186044416
              · rw [if_pos c8] at H
                have LMc8 := Aside0.mk c8
                clear c8
                obtain ⟨y149, hy149⟩ : ∃ y_ : List Int, y_ = (x3_1 ++ [wrap64 (rd l0 x4_1)]) := ⟨_, rfl⟩
                replace H : (stowagelaw11_CurveCorners.l0 k1 l0 y149 (wrap64 (x4_1 + 1))) = some r := by first | (rw [hy149]; with_reducible exact H) | (have H2_ := (Option.bind_some _ _).symm.trans H; rw [hy149]; with_reducible exact H2_) | (have H2_ := (Option.bind_some _ _).symm.trans H; with_reducible exact H2_) | with_reducible exact H | (rw [hy149]; exact H) | exact H
                have Ny149 := Aside0.mk hy149
                clear hy149
                have H' := Aside0.mk H
                clear H
                have p148 : 0 ≤ (x4_1 : Int) := of_decide_eq_true (by first | (with_reducible assumption) | assumption)
                have q148 : x4_1 < (l0.length : Int) := of_decide_eq_true (by first | (with_reducible assumption) | assumption)
                obtain ⟨ad148, e148, hx148_0⟩ := Kd.at_int HR0.out x4_1 p148 q148
                cases e148
                replace hx148_0 := (HB.out.cell (World.block_lt_of_cell? w _ hx148_0)).trans hx148_0
                replace p148 := eq_true p148
                replace q148 := eq_true q148
                go_wp2_with (first | ((with_reducible refine gate_builtin (b := .append) (xs := #[.tmp 24, .tmp 30]) rfl ?_); (try (refine gate_guard (by rfl) ?_; dsimp only)); at_builtin; refine Kd.R_append (Kd.int .i64) (w0 := w) w.heap.size rfl (.tmp 24) (.tmp 30) 22 3 (.int .i64 0) 8 rfl Try.underlying22 info3 rfl (by decide) (by omega) u3 x3_1 (wrap64 (rd l0 x4_1)) [.int .i64 (wrap64 (rd l0 x4_1))] (fun _ => True) (fun _ => False) rfl rfl ?aP (fun _ hk => hk.elim) ?aF ?aO ?aB ?aS ?aL ?_; (case aP => exact rfl); (case aB => exact (by repeat (first | (with_reducible first | exact HB.out | apply below_alloc | apply pw_below_drewN | apply below_drew1) | exact HB.out))); (case aF => exact (fun _ _ => trivial)); (case aO => exact (by (with_reducible repeat (first | apply Kd.R_alloc | apply Kd.R_drewN | apply Kd.R_drew)); exact HO_3.out)); (case aS => exact (below_size (by repeat (first | (with_reducible first | exact HB.out | apply below_alloc | apply pw_below_drewN | apply below_drew1) | exact HB.out)))); (case aL => have := LMc8.out; omega); intro v150 w9 ho hb hg hat; rw [← Ny149.out] at ho; have n0_ := Aside0.mk (hb); have n1_ := Aside0.mk (ho); clear HB; clear HO_3; have HB := n0_; have HO151 := n1_; clear n0_ n1_; clear ho hb hg hat))
                repeat (go_quiet (first | ((with_reducible refine gate_builtin (b := .append) (xs := #[.tmp 24, .tmp 30]) rfl ?_); (try (refine gate_guard (by rfl) ?_; dsimp only)); at_builtin; refine Kd.R_append (Kd.int .i64) (w0 := w) w.heap.size rfl (.tmp 24) (.tmp 30) 22 3 (.int .i64 0) 8 rfl Try.underlying22 info3 rfl (by decide) (by omega) u3 x3_1 (wrap64 (rd l0 x4_1)) [.int .i64 (wrap64 (rd l0 x4_1))] (fun _ => True) (fun _ => False) rfl rfl ?aP (fun _ hk => hk.elim) ?aF ?aO ?aB ?aS ?aL ?_; (case aP => exact rfl); (case aB => exact (by repeat (first | (with_reducible first | exact HB.out | apply below_alloc | apply pw_below_drewN | apply below_drew1) | exact HB.out))); (case aF => exact (fun _ _ => trivial)); (case aO => exact (by (with_reducible repeat (first | apply Kd.R_alloc | apply Kd.R_drewN | apply Kd.R_drew)); exact HO_3.out)); (case aS => exact (below_size (by repeat (first | (with_reducible first | exact HB.out | apply below_alloc | apply pw_below_drewN | apply below_drew1) | exact HB.out)))); (case aL => have := LMc8.out; omega); intro v150 w9 ho hb hg hat; rw [← Ny149.out] at ho; have n0_ := Aside0.mk (hb); have n1_ := Aside0.mk (ho); clear HB; clear HO_3; have HB := n0_; have HO151 := n1_; clear n0_ n1_; clear ho hb hg hat)); try go_wp2_with (first | ((with_reducible refine gate_builtin (b := .append) (xs := #[.tmp 24, .tmp 30]) rfl ?_); (try (refine gate_guard (by rfl) ?_; dsimp only)); at_builtin; refine Kd.R_append (Kd.int .i64) (w0 := w) w.heap.size rfl (.tmp 24) (.tmp 30) 22 3 (.int .i64 0) 8 rfl Try.underlying22 info3 rfl (by decide) (by omega) u3 x3_1 (wrap64 (rd l0 x4_1)) [.int .i64 (wrap64 (rd l0 x4_1))] (fun _ => True) (fun _ => False) rfl rfl ?aP (fun _ hk => hk.elim) ?aF ?aO ?aB ?aS ?aL ?_; (case aP => exact rfl); (case aB => exact (by repeat (first | (with_reducible first | exact HB.out | apply below_alloc | apply pw_below_drewN | apply below_drew1) | exact HB.out))); (case aF => exact (fun _ _ => trivial)); (case aO => exact (by (with_reducible repeat (first | apply Kd.R_alloc | apply Kd.R_drewN | apply Kd.R_drew)); exact HO_3.out)); (case aS => exact (below_size (by repeat (first | (with_reducible first | exact HB.out | apply below_alloc | apply pw_below_drewN | apply below_drew1) | exact HB.out)))); (case aL => have := LMc8.out; omega); intro v150 w9 ho hb hg hat; rw [← Ny149.out] at ho; have n0_ := Aside0.mk (hb); have n1_ := Aside0.mk (ho); clear HB; clear HO_3; have HB := n0_; have HO151 := n1_; clear n0_ n1_; clear ho hb hg hat)))
                go_roundg k1
                case measure => have := HK1.out; omega
                case rel => exact ⟨(y149), (wrap64 (x4_1 + 1)), (by first | rfl | (simp; done) | (simp [*]; done)), H', ⟨by have := HK1.out; omega⟩, ⟨by (with_reducible repeat (first | apply Kd.R_alloc | apply Kd.R_drewN | apply Kd.R_drew)); exact HO151.out⟩, ⟨by repeat (first | (with_reducible first | exact HB.out | apply below_alloc | apply pw_below_drewN | apply below_drew1) | exact HB.out)⟩⟩
              · rw [if_neg c8] at H
                exact absurd H (by simp)
            · rw [if_neg c7] at H
              exact absurd H (by simp)
          · rw [if_neg c6] at H
            have c6b0 : decide (x4_1 < 300) = false := decide_eq_false c6
            clear c6
            have H' := Aside0.mk H
            clear H
            go_wp2
            repeat (go_quiet (fail); try go_wp2)
            go_meet
            case rel => exact ⟨_, (x3_1), H', ⟨by have := HK1.out; first | omega | exact Nat.le_refl _⟩, ⟨by (with_reducible repeat (first | apply Kd.R_alloc | apply Kd.R_drewN | apply Kd.R_drew)); exact HO_3.out⟩, ⟨by repeat (first | (with_reducible first | exact HB.out | apply below_alloc | apply pw_below_drewN | apply below_drew1) | exact HB.out)⟩⟩
        · rw [if_neg c5] at H
          have c5b0 : decide (x4_1 < (l0.length : Int)) = false := decide_eq_false c5
          clear c5
          (first | rw [c5b0] | (simp only [i64_w, i32_w]; rw [c5b0]) | skip)
          have H' := Aside0.mk H
          clear H
          go_wp2
          repeat (go_quiet (fail); try go_wp2)
          go_meet
          case rel => exact ⟨_, (x3_1), H', ⟨by have := HK1.out; first | omega | exact Nat.le_refl _⟩, ⟨by (with_reducible repeat (first | apply Kd.R_alloc | apply Kd.R_drewN | apply Kd.R_drew)); exact HO_3.out⟩, ⟨by repeat (first | (with_reducible first | exact HB.out | apply below_alloc | apply pw_below_drewN | apply below_drew1) | exact HB.out)⟩⟩
  case rest =>
    clear HC2
    try clear p1
    try clear q1
    try clear hx1
    try clear p2
    try clear c5
    try clear c5b0
    try clear c6
    try clear c6b0
    try clear p6
    try clear c7
    try clear c7b0
    try clear c8
    try clear hx148_0
    try clear p148
    try clear p2
    try clear q148
    obtain ⟨kq, x3_1, HA, HJ1, HO_3, HB⟩ := hcut
    cases kq with
    | zero => exact absurd HA.out (by simp [stowagelaw11_CurveCorners.j1])
    | succ kj1 =>
      have H := HA.out
      clear HA
      simp only [stowagelaw11_CurveCorners.j1] at H
      replace H := Option.bind_eq_some_iff.mp H
      obtain ⟨⟨t152, t153⟩, A100, H⟩ := H
      replace H : ((curve_Hull.f kj1 t152).bind fun bt156 => ((stowagelaw11_awake.f kj1).bind fun t160 => (if t160 = true then (if t153 = 0 then (if bt156.2 = 0 then (if (bt156.1.length : Int) = 0 then (stowagelaw11_CurveCorners.j2 kj1 t152 bt156.1 true) else (if 0 < (bt156.1.length : Int) then (if (rd bt156.1 0) = 0 then (if 0 ≤ (wrap64 ((bt156.1.length : Int) - 1)) then (if (wrap64 ((bt156.1.length : Int) - 1)) < (bt156.1.length : Int) then (stowagelaw11_CurveCorners.j2 kj1 t152 bt156.1 ((rd bt156.1 (wrap64 ((bt156.1.length : Int) - 1))) != (x3_1.length : Int))) else (none)) else (none)) else (stowagelaw11_CurveCorners.j2 kj1 t152 bt156.1 true)) else (none))) else (stowagelaw11_CurveCorners.j2 kj1 t152 bt156.1 true)) else (stowagelaw11_CurveCorners.j2 kj1 t152 bt156.1 true)) else (stowagelaw11_CurveCorners.j2 kj1 t152 bt156.1 true)))) = some r := H
      have A10 := Aside0.mk A100
      clear A100
      replace H := Option.bind_eq_some_iff.mp H
      obtain ⟨⟨t156, t157⟩, A110, H⟩ := H
      replace H : ((stowagelaw11_awake.f kj1).bind fun t160 => (if t160 = true then (if t153 = 0 then (if t157 = 0 then (if (t156.length : Int) = 0 then (stowagelaw11_CurveCorners.j2 kj1 t152 t156 true) else (if 0 < (t156.length : Int) then (if (rd t156 0) = 0 then (if 0 ≤ (wrap64 ((t156.length : Int) - 1)) then (if (wrap64 ((t156.length : Int) - 1)) < (t156.length : Int) then (stowagelaw11_CurveCorners.j2 kj1 t152 t156 ((rd t156 (wrap64 ((t156.length : Int) - 1))) != (x3_1.length : Int))) else (none)) else (none)) else (stowagelaw11_CurveCorners.j2 kj1 t152 t156 true)) else (none))) else (stowagelaw11_CurveCorners.j2 kj1 t152 t156 true)) else (stowagelaw11_CurveCorners.j2 kj1 t152 t156 true)) else (stowagelaw11_CurveCorners.j2 kj1 t152 t156 true))) = some r := H
      have A11 := Aside0.mk A110
      clear A110
      have HC12 := Aside0.mk H
      clear H
      obtain ⟨Ao13, co13, eo13⟩ := Kd.R_slice HO_3.out
      subst eo13
      go_upto_region 8 with (first | (go_at_call 10; (with_reducible refine (curve_Of.calls kj1 _ _ x3_1 1 t152 t153 _ ?side1 ?side2 A10.out).mono ?_); (case side1 => repeat (first | exact (Kd.R_reads' HO_3.out).2.2 | (with_reducible refine Kd.C_alloc ?_ _) | (with_reducible refine Kd.C_drewN ?_ _) | (with_reducible refine Kd.C_drew ?_))); (case side2 => exact (Kd.R_reads' HO_3.out).2.1); rintro e w14 ⟨v154, rfl, ho0, hb⟩; have n0_ := Aside0.mk (Kd.R_elder' (by (with_reducible repeat (first | apply Kd.R_alloc | apply Kd.R_drewN | apply Kd.R_drew)); exact HO_3.out) (Kd.R_base ho0) hb); have n1_ := Aside0.mk (Kd.R_lower (Kd.R_new' ho0 (Kd.R_lt (by (with_reducible repeat (first | apply Kd.R_alloc | apply Kd.R_drewN | apply Kd.R_drew)); exact HO_3.out))) (below_size (by repeat (first | (with_reducible first | exact HB.out | apply below_alloc | apply pw_below_drewN | apply below_drew1) | exact HB.out)))); have n2_ := Aside0.mk (below_step (by repeat (first | (with_reducible first | exact HB.out | apply below_alloc | apply pw_below_drewN | apply below_drew1) | exact HB.out)) hb); clear HO_3; clear HB; have HO_3 := n0_; have HO155 := n1_; have HB := n2_; clear n0_ n1_ n2_; (try clear hb); (try clear hb2); (try clear hk); (try clear hi); (try clear ho0); obtain ⟨Ao15, co15, eo15⟩ := Kd.R_slice HO155.out; subst eo15) | (go_at_call 15; (with_reducible refine (curve_Hull.calls kj1 _ _ t152 t156 t157 _ ?side1 ?side2 A11.out).mono ?_); (case side1 => repeat (first | exact (Kd.R_reads' HO155.out).2.2 | (with_reducible refine Kd.C_alloc ?_ _) | (with_reducible refine Kd.C_drewN ?_ _) | (with_reducible refine Kd.C_drew ?_))); (case side2 => exact (Kd.R_reads' HO155.out).2.1); rintro e w16 ⟨v158, rfl, ho0, hb⟩; have n0_ := Aside0.mk (Kd.R_elder' (by (with_reducible repeat (first | apply Kd.R_alloc | apply Kd.R_drewN | apply Kd.R_drew)); exact HO_3.out) (Kd.R_base ho0) hb); have n1_ := Aside0.mk (Kd.R_elder' (by (with_reducible repeat (first | apply Kd.R_alloc | apply Kd.R_drewN | apply Kd.R_drew)); exact HO155.out) (Kd.R_base ho0) hb); have n2_ := Aside0.mk (Kd.R_lower (Kd.R_new' (Kd.R_new' ho0 (Kd.R_lt (by (with_reducible repeat (first | apply Kd.R_alloc | apply Kd.R_drewN | apply Kd.R_drew)); exact HO_3.out))) (Kd.R_lt (by (with_reducible repeat (first | apply Kd.R_alloc | apply Kd.R_drewN | apply Kd.R_drew)); exact HO155.out))) (below_size (by repeat (first | (with_reducible first | exact HB.out | apply below_alloc | apply pw_below_drewN | apply below_drew1) | exact HB.out)))); have n3_ := Aside0.mk (below_step (by repeat (first | (with_reducible first | exact HB.out | apply below_alloc | apply pw_below_drewN | apply below_drew1) | exact HB.out)) hb); clear HO_3; clear HO155; clear HB; have HO_3 := n0_; have HO155 := n1_; have HO159 := n2_; have HB := n3_; clear n0_ n1_ n2_ n3_; (try clear hb); (try clear hb2); (try clear hk); (try clear hi); (try clear ho0)))
      repeat (go_quiet (first | (go_at_call 10; (with_reducible refine (curve_Of.calls kj1 _ _ x3_1 1 t152 t153 _ ?side1 ?side2 A10.out).mono ?_); (case side1 => repeat (first | exact (Kd.R_reads' HO_3.out).2.2 | (with_reducible refine Kd.C_alloc ?_ _) | (with_reducible refine Kd.C_drewN ?_ _) | (with_reducible refine Kd.C_drew ?_))); (case side2 => exact (Kd.R_reads' HO_3.out).2.1); rintro e w14 ⟨v154, rfl, ho0, hb⟩; have n0_ := Aside0.mk (Kd.R_elder' (by (with_reducible repeat (first | apply Kd.R_alloc | apply Kd.R_drewN | apply Kd.R_drew)); exact HO_3.out) (Kd.R_base ho0) hb); have n1_ := Aside0.mk (Kd.R_lower (Kd.R_new' ho0 (Kd.R_lt (by (with_reducible repeat (first | apply Kd.R_alloc | apply Kd.R_drewN | apply Kd.R_drew)); exact HO_3.out))) (below_size (by repeat (first | (with_reducible first | exact HB.out | apply below_alloc | apply pw_below_drewN | apply below_drew1) | exact HB.out)))); have n2_ := Aside0.mk (below_step (by repeat (first | (with_reducible first | exact HB.out | apply below_alloc | apply pw_below_drewN | apply below_drew1) | exact HB.out)) hb); clear HO_3; clear HB; have HO_3 := n0_; have HO155 := n1_; have HB := n2_; clear n0_ n1_ n2_; (try clear hb); (try clear hb2); (try clear hk); (try clear hi); (try clear ho0); obtain ⟨Ao15, co15, eo15⟩ := Kd.R_slice HO155.out; subst eo15) | (go_at_call 15; (with_reducible refine (curve_Hull.calls kj1 _ _ t152 t156 t157 _ ?side1 ?side2 A11.out).mono ?_); (case side1 => repeat (first | exact (Kd.R_reads' HO155.out).2.2 | (with_reducible refine Kd.C_alloc ?_ _) | (with_reducible refine Kd.C_drewN ?_ _) | (with_reducible refine Kd.C_drew ?_))); (case side2 => exact (Kd.R_reads' HO155.out).2.1); rintro e w16 ⟨v158, rfl, ho0, hb⟩; have n0_ := Aside0.mk (Kd.R_elder' (by (with_reducible repeat (first | apply Kd.R_alloc | apply Kd.R_drewN | apply Kd.R_drew)); exact HO_3.out) (Kd.R_base ho0) hb); have n1_ := Aside0.mk (Kd.R_elder' (by (with_reducible repeat (first | apply Kd.R_alloc | apply Kd.R_drewN | apply Kd.R_drew)); exact HO155.out) (Kd.R_base ho0) hb); have n2_ := Aside0.mk (Kd.R_lower (Kd.R_new' (Kd.R_new' ho0 (Kd.R_lt (by (with_reducible repeat (first | apply Kd.R_alloc | apply Kd.R_drewN | apply Kd.R_drew)); exact HO_3.out))) (Kd.R_lt (by (with_reducible repeat (first | apply Kd.R_alloc | apply Kd.R_drewN | apply Kd.R_drew)); exact HO155.out))) (below_size (by repeat (first | (with_reducible first | exact HB.out | apply below_alloc | apply pw_below_drewN | apply below_drew1) | exact HB.out)))); have n3_ := Aside0.mk (below_step (by repeat (first | (with_reducible first | exact HB.out | apply below_alloc | apply pw_below_drewN | apply below_drew1) | exact HB.out)) hb); clear HO_3; clear HO155; clear HB; have HO_3 := n0_; have HO155 := n1_; have HO159 := n2_; have HB := n3_; clear n0_ n1_ n2_ n3_; (try clear hb); (try clear hb2); (try clear hk); (try clear hi); (try clear ho0))); go_upto_region 8 with (first | (go_at_call 10; (with_reducible refine (curve_Of.calls kj1 _ _ x3_1 1 t152 t153 _ ?side1 ?side2 A10.out).mono ?_); (case side1 => repeat (first | exact (Kd.R_reads' HO_3.out).2.2 | (with_reducible refine Kd.C_alloc ?_ _) | (with_reducible refine Kd.C_drewN ?_ _) | (with_reducible refine Kd.C_drew ?_))); (case side2 => exact (Kd.R_reads' HO_3.out).2.1); rintro e w14 ⟨v154, rfl, ho0, hb⟩; have n0_ := Aside0.mk (Kd.R_elder' (by (with_reducible repeat (first | apply Kd.R_alloc | apply Kd.R_drewN | apply Kd.R_drew)); exact HO_3.out) (Kd.R_base ho0) hb); have n1_ := Aside0.mk (Kd.R_lower (Kd.R_new' ho0 (Kd.R_lt (by (with_reducible repeat (first | apply Kd.R_alloc | apply Kd.R_drewN | apply Kd.R_drew)); exact HO_3.out))) (below_size (by repeat (first | (with_reducible first | exact HB.out | apply below_alloc | apply pw_below_drewN | apply below_drew1) | exact HB.out)))); have n2_ := Aside0.mk (below_step (by repeat (first | (with_reducible first | exact HB.out | apply below_alloc | apply pw_below_drewN | apply below_drew1) | exact HB.out)) hb); clear HO_3; clear HB; have HO_3 := n0_; have HO155 := n1_; have HB := n2_; clear n0_ n1_ n2_; (try clear hb); (try clear hb2); (try clear hk); (try clear hi); (try clear ho0); obtain ⟨Ao15, co15, eo15⟩ := Kd.R_slice HO155.out; subst eo15) | (go_at_call 15; (with_reducible refine (curve_Hull.calls kj1 _ _ t152 t156 t157 _ ?side1 ?side2 A11.out).mono ?_); (case side1 => repeat (first | exact (Kd.R_reads' HO155.out).2.2 | (with_reducible refine Kd.C_alloc ?_ _) | (with_reducible refine Kd.C_drewN ?_ _) | (with_reducible refine Kd.C_drew ?_))); (case side2 => exact (Kd.R_reads' HO155.out).2.1); rintro e w16 ⟨v158, rfl, ho0, hb⟩; have n0_ := Aside0.mk (Kd.R_elder' (by (with_reducible repeat (first | apply Kd.R_alloc | apply Kd.R_drewN | apply Kd.R_drew)); exact HO_3.out) (Kd.R_base ho0) hb); have n1_ := Aside0.mk (Kd.R_elder' (by (with_reducible repeat (first | apply Kd.R_alloc | apply Kd.R_drewN | apply Kd.R_drew)); exact HO155.out) (Kd.R_base ho0) hb); have n2_ := Aside0.mk (Kd.R_lower (Kd.R_new' (Kd.R_new' ho0 (Kd.R_lt (by (with_reducible repeat (first | apply Kd.R_alloc | apply Kd.R_drewN | apply Kd.R_drew)); exact HO_3.out))) (Kd.R_lt (by (with_reducible repeat (first | apply Kd.R_alloc | apply Kd.R_drewN | apply Kd.R_drew)); exact HO155.out))) (below_size (by repeat (first | (with_reducible first | exact HB.out | apply below_alloc | apply pw_below_drewN | apply below_drew1) | exact HB.out)))); have n3_ := Aside0.mk (below_step (by repeat (first | (with_reducible first | exact HB.out | apply below_alloc | apply pw_below_drewN | apply below_drew1) | exact HB.out)) hb); clear HO_3; clear HO155; clear HB; have HO_3 := n0_; have HO155 := n1_; have HO159 := n2_; have HB := n3_; clear n0_ n1_ n2_ n3_; (try clear hb); (try clear hb2); (try clear hk); (try clear hi); (try clear ho0))))
      (try simp only [Act.put, List.setIfInBounds_toArray, List.set_cons_zero, List.set_cons_succ])
      go_cut [73] (fun v73 wc => ∃ (kq : Nat) (x73_11 : Bool), v73 = .bool x73_11 ∧ Aside0 (stowagelaw11_CurveCorners.j2 kq t152 t156 x73_11 = some r) ∧ Aside0 (kq ≤ kj1) ∧ Aside0 (Kd.R (Kd.int .i64) 3 wc w.heap.size (fun k_ => some k_ ≠ (v158 : Value).ownBlock) (.slice Ao15 t152.length co15) t152) ∧ Aside0 (Kd.R (Kd.int .i64) 3 wc w.heap.size (fun k_ => some k_ ≠ ((.slice Ao15 t152.length co15) : Value).ownBlock) v158 t156) ∧ Aside0 (Below w.heap.size w wc))
      case first =>
        have H := HC12.out
        clear HC12
        replace H := Option.bind_eq_some_iff.mp H
        obtain ⟨t160, A170, H⟩ := H
        replace H : (if t160 = true then (if t153 = 0 then (if t157 = 0 then (if (t156.length : Int) = 0 then (stowagelaw11_CurveCorners.j2 kj1 t152 t156 true) else (if 0 < (t156.length : Int) then (if (rd t156 0) = 0 then (if 0 ≤ (wrap64 ((t156.length : Int) - 1)) then (if (wrap64 ((t156.length : Int) - 1)) < (t156.length : Int) then (stowagelaw11_CurveCorners.j2 kj1 t152 t156 ((rd t156 (wrap64 ((t156.length : Int) - 1))) != (x3_1.length : Int))) else (none)) else (none)) else (stowagelaw11_CurveCorners.j2 kj1 t152 t156 true)) else (none))) else (stowagelaw11_CurveCorners.j2 kj1 t152 t156 true)) else (stowagelaw11_CurveCorners.j2 kj1 t152 t156 true)) else (stowagelaw11_CurveCorners.j2 kj1 t152 t156 true)) = some r := H
        have A17 := Aside0.mk A170
        clear A170
        by_cases c18 : t160 = true
        · subst c18
          have H1 : (if t153 = 0 then (if t157 = 0 then (if (t156.length : Int) = 0 then (stowagelaw11_CurveCorners.j2 kj1 t152 t156 true) else (if 0 < (t156.length : Int) then (if (rd t156 0) = 0 then (if 0 ≤ (wrap64 ((t156.length : Int) - 1)) then (if (wrap64 ((t156.length : Int) - 1)) < (t156.length : Int) then (stowagelaw11_CurveCorners.j2 kj1 t152 t156 ((rd t156 (wrap64 ((t156.length : Int) - 1))) != (x3_1.length : Int))) else (none)) else (none)) else (stowagelaw11_CurveCorners.j2 kj1 t152 t156 true)) else (none))) else (stowagelaw11_CurveCorners.j2 kj1 t152 t156 true)) else (stowagelaw11_CurveCorners.j2 kj1 t152 t156 true)) = some r := by rw [if_pos rfl] at H; exact H
          clear H
          have H := H1
          clear H1
          by_cases c19 : t153 = 0
          · rw [if_pos c19] at H
            have c19b0 : (t153 == 0) = true := beq_iff_eq.mpr c19
            have c19b1 : (t153 != 0) = false := bne_eq_false_iff_eq.mpr c19
            clear c19
            (first | rw [c19b0] | (simp only [i64_w, i32_w]; rw [c19b0]) | skip)
            by_cases c20 : t157 = 0
            · rw [if_pos c20] at H
              have c20b0 : (t157 == 0) = true := beq_iff_eq.mpr c20
              have c20b1 : (t157 != 0) = false := bne_eq_false_iff_eq.mpr c20
              clear c20
              by_cases c21 : (t156.length : Int) = 0
              · rw [if_pos c21] at H
                have c21b0 : ((t156.length : Int) == 0) = true := beq_iff_eq.mpr c21
                have c21b1 : ((t156.length : Int) != 0) = false := bne_eq_false_iff_eq.mpr c21
                clear c21
                have H' := Aside0.mk H
                clear H
                go_wp2_with (first | (go_at_call 12; (with_reducible refine (stowagelaw11_awake.calls kj1  true _ A17.out).mono ?_); rintro e w22 ⟨rfl, hb⟩; have n0_ := Aside0.mk (Kd.R_below (by (with_reducible repeat (first | apply Kd.R_alloc | apply Kd.R_drewN | apply Kd.R_drew)); exact HO_3.out) hb); have n1_ := Aside0.mk (Kd.R_below (by (with_reducible repeat (first | apply Kd.R_alloc | apply Kd.R_drewN | apply Kd.R_drew)); exact HO155.out) hb); have n2_ := Aside0.mk (Kd.R_below (by (with_reducible repeat (first | apply Kd.R_alloc | apply Kd.R_drewN | apply Kd.R_drew)); exact HO159.out) hb); have n3_ := Aside0.mk (below_step (by repeat (first | (with_reducible first | exact HB.out | apply below_alloc | apply pw_below_drewN | apply below_drew1) | exact HB.out)) hb); clear HO_3; clear HO155; clear HO159; clear HB; have HO_3 := n0_; have HO155 := n1_; have HO159 := n2_; have HB := n3_; clear n0_ n1_ n2_ n3_; (try clear hb); (try clear hb2); (try clear hk); (try clear hi); obtain ⟨Ao23, co23, eo23⟩ := Kd.R_slice HO159.out; subst eo23))
                repeat (go_quiet (first | (go_at_call 12; (with_reducible refine (stowagelaw11_awake.calls kj1  true _ A17.out).mono ?_); rintro e w22 ⟨rfl, hb⟩; have n0_ := Aside0.mk (Kd.R_below (by (with_reducible repeat (first | apply Kd.R_alloc | apply Kd.R_drewN | apply Kd.R_drew)); exact HO_3.out) hb); have n1_ := Aside0.mk (Kd.R_below (by (with_reducible repeat (first | apply Kd.R_alloc | apply Kd.R_drewN | apply Kd.R_drew)); exact HO155.out) hb); have n2_ := Aside0.mk (Kd.R_below (by (with_reducible repeat (first | apply Kd.R_alloc | apply Kd.R_drewN | apply Kd.R_drew)); exact HO159.out) hb); have n3_ := Aside0.mk (below_step (by repeat (first | (with_reducible first | exact HB.out | apply below_alloc | apply pw_below_drewN | apply below_drew1) | exact HB.out)) hb); clear HO_3; clear HO155; clear HO159; clear HB; have HO_3 := n0_; have HO155 := n1_; have HO159 := n2_; have HB := n3_; clear n0_ n1_ n2_ n3_; (try clear hb); (try clear hb2); (try clear hk); (try clear hi); obtain ⟨Ao23, co23, eo23⟩ := Kd.R_slice HO159.out; subst eo23)); try go_wp2_with (first | (go_at_call 12; (with_reducible refine (stowagelaw11_awake.calls kj1  true _ A17.out).mono ?_); rintro e w22 ⟨rfl, hb⟩; have n0_ := Aside0.mk (Kd.R_below (by (with_reducible repeat (first | apply Kd.R_alloc | apply Kd.R_drewN | apply Kd.R_drew)); exact HO_3.out) hb); have n1_ := Aside0.mk (Kd.R_below (by (with_reducible repeat (first | apply Kd.R_alloc | apply Kd.R_drewN | apply Kd.R_drew)); exact HO155.out) hb); have n2_ := Aside0.mk (Kd.R_below (by (with_reducible repeat (first | apply Kd.R_alloc | apply Kd.R_drewN | apply Kd.R_drew)); exact HO159.out) hb); have n3_ := Aside0.mk (below_step (by repeat (first | (with_reducible first | exact HB.out | apply below_alloc | apply pw_below_drewN | apply below_drew1) | exact HB.out)) hb); clear HO_3; clear HO155; clear HO159; clear HB; have HO_3 := n0_; have HO155 := n1_; have HO159 := n2_; have HB := n3_; clear n0_ n1_ n2_ n3_; (try clear hb); (try clear hb2); (try clear hk); (try clear hi); obtain ⟨Ao23, co23, eo23⟩ := Kd.R_slice HO159.out; subst eo23)))
                go_meet
                case rel => exact ⟨_, (true), (by first | rfl | (simp; done) | (simp [*]; done)), H', ⟨by have := HJ1.out; first | omega | exact Nat.le_refl _⟩, ⟨by (with_reducible repeat (first | apply Kd.R_alloc | apply Kd.R_drewN | apply Kd.R_drew)); exact Kd.R_mono HO155.out (fun _ hk => hk.2)⟩, ⟨by (with_reducible repeat (first | apply Kd.R_alloc | apply Kd.R_drewN | apply Kd.R_drew)); exact Kd.R_mono HO159.out (fun _ hk => hk.2)⟩, ⟨by repeat (first | (with_reducible first | exact HB.out | apply below_alloc | apply pw_below_drewN | apply below_drew1) | exact HB.out)⟩⟩
              · rw [if_neg c21] at H
                have c21b0 : ((t156.length : Int) == 0) = false := beq_eq_false_iff_ne.mpr c21
                have c21b1 : ((t156.length : Int) != 0) = true := bne_iff_ne.mpr c21
                have c21b2 : ¬ (t156 = []) := fun h_ => c21 (by rw [h_]; rfl)
                by_cases c24 : 0 < (t156.length : Int)
                · rw [if_pos c24] at H
                  have c24b0 : decide (0 < (t156.length : Int)) = true := decide_eq_true c24
                  have c24b1 : decide (0 < t156.length) = true := decide_eq_true (by omega)
                  clear c24
                  by_cases c25 : (rd t156 0) = 0
                  · rw [if_pos c25] at H
                    have c25b0 : ((rd t156 0) == 0) = true := beq_iff_eq.mpr c25
                    have c25b1 : ((rd t156 0) != 0) = false := bne_eq_false_iff_eq.mpr c25
                    clear c25
                    obtain ⟨ji26, hji26⟩ : ∃ j_ : Int, (wrap64 ((t156.length : Int) - 1)) = j_ := ⟨_, rfl⟩
                    replace H : (if 0 ≤ (ji26) then (if (ji26) < (t156.length : Int) then (stowagelaw11_CurveCorners.j2 kj1 t152 t156 ((rd t156 (ji26)) != (x3_1.length : Int))) else (none)) else (none)) = some r := by first | (rw [hji26] at H; exact H) | (simp only [hji26] at H ⊢; exact H)
                    (try rw [hji26] at A17)
                    have hji26w : (IntKind.i64.wrap ((t156.length : Int) - 1)) = ji26 := (i64_w _).trans hji26
                    by_cases c27 : 0 ≤ (ji26)
                    · rw [if_pos c27] at H
                      have c27b0 : decide (0 ≤ (ji26)) = true := decide_eq_true c27
                      clear c27
                      by_cases c28 : (ji26) < (t156.length : Int)
                      · rw [if_pos c28] at H
                        have c28b0 : decide ((ji26) < (t156.length : Int)) = true := decide_eq_true c28
                        clear c28
                        have H' := Aside0.mk H
                        clear H
                        go_wp2_with (first | (go_at_call 12; (with_reducible refine (stowagelaw11_awake.calls kj1  true _ A17.out).mono ?_); rintro e w29 ⟨rfl, hb⟩; have n0_ := Aside0.mk (Kd.R_below (by (with_reducible repeat (first | apply Kd.R_alloc | apply Kd.R_drewN | apply Kd.R_drew)); exact HO_3.out) hb); have n1_ := Aside0.mk (Kd.R_below (by (with_reducible repeat (first | apply Kd.R_alloc | apply Kd.R_drewN | apply Kd.R_drew)); exact HO155.out) hb); have n2_ := Aside0.mk (Kd.R_below (by (with_reducible repeat (first | apply Kd.R_alloc | apply Kd.R_drewN | apply Kd.R_drew)); exact HO159.out) hb); have n3_ := Aside0.mk (below_step (by repeat (first | (with_reducible first | exact HB.out | apply below_alloc | apply pw_below_drewN | apply below_drew1) | exact HB.out)) hb); clear HO_3; clear HO155; clear HO159; clear HB; have HO_3 := n0_; have HO155 := n1_; have HO159 := n2_; have HB := n3_; clear n0_ n1_ n2_ n3_; (try clear hb); (try clear hb2); (try clear hk); (try clear hi); obtain ⟨Ao30, co30, eo30⟩ := Kd.R_slice HO159.out; subst eo30; have p161 : 0 ≤ (0 : Int) := (by omega); have q161 : 0 < (t156.length : Int) := of_decide_eq_true (by first | (with_reducible assumption) | assumption); obtain ⟨ad161, e161, hx161_0⟩ := Kd.at_int (Kd.R_reads' HO159.out).2.2 0 p161 q161; cases e161; have qi161 : (0 < t156.length) = True := eq_true (by omega); (try rw [show ((0 : Int)).toNat = 0 from rfl] at hx161_0); (try rw [Addr.add_zero'] at hx161_0); replace p161 := eq_true p161; replace q161 := eq_true q161; have p162 : 0 ≤ ((ji26) : Int) := of_decide_eq_true (by first | (with_reducible assumption) | assumption); have q162 : (ji26) < (t156.length : Int) := of_decide_eq_true (by first | (with_reducible assumption) | assumption); obtain ⟨ad162, e162, hx162_0⟩ := Kd.at_int (Kd.R_reads' HO159.out).2.2 (ji26) p162 q162; obtain rfl : ad161 = ad162 := (by injection e162); replace p162 := eq_true p162; replace q162 := eq_true q162))
                        repeat (go_quiet (first | (go_at_call 12; (with_reducible refine (stowagelaw11_awake.calls kj1  true _ A17.out).mono ?_); rintro e w29 ⟨rfl, hb⟩; have n0_ := Aside0.mk (Kd.R_below (by (with_reducible repeat (first | apply Kd.R_alloc | apply Kd.R_drewN | apply Kd.R_drew)); exact HO_3.out) hb); have n1_ := Aside0.mk (Kd.R_below (by (with_reducible repeat (first | apply Kd.R_alloc | apply Kd.R_drewN | apply Kd.R_drew)); exact HO155.out) hb); have n2_ := Aside0.mk (Kd.R_below (by (with_reducible repeat (first | apply Kd.R_alloc | apply Kd.R_drewN | apply Kd.R_drew)); exact HO159.out) hb); have n3_ := Aside0.mk (below_step (by repeat (first | (with_reducible first | exact HB.out | apply below_alloc | apply pw_below_drewN | apply below_drew1) | exact HB.out)) hb); clear HO_3; clear HO155; clear HO159; clear HB; have HO_3 := n0_; have HO155 := n1_; have HO159 := n2_; have HB := n3_; clear n0_ n1_ n2_ n3_; (try clear hb); (try clear hb2); (try clear hk); (try clear hi); obtain ⟨Ao30, co30, eo30⟩ := Kd.R_slice HO159.out; subst eo30; have p161 : 0 ≤ (0 : Int) := (by omega); have q161 : 0 < (t156.length : Int) := of_decide_eq_true (by first | (with_reducible assumption) | assumption); obtain ⟨ad161, e161, hx161_0⟩ := Kd.at_int (Kd.R_reads' HO159.out).2.2 0 p161 q161; cases e161; have qi161 : (0 < t156.length) = True := eq_true (by omega); (try rw [show ((0 : Int)).toNat = 0 from rfl] at hx161_0); (try rw [Addr.add_zero'] at hx161_0); replace p161 := eq_true p161; replace q161 := eq_true q161; have p162 : 0 ≤ ((ji26) : Int) := of_decide_eq_true (by first | (with_reducible assumption) | assumption); have q162 : (ji26) < (t156.length : Int) := of_decide_eq_true (by first | (with_reducible assumption) | assumption); obtain ⟨ad162, e162, hx162_0⟩ := Kd.at_int (Kd.R_reads' HO159.out).2.2 (ji26) p162 q162; obtain rfl : ad161 = ad162 := (by injection e162); replace p162 := eq_true p162; replace q162 := eq_true q162)); try go_wp2_with (first | (go_at_call 12; (with_reducible refine (stowagelaw11_awake.calls kj1  true _ A17.out).mono ?_); rintro e w29 ⟨rfl, hb⟩; have n0_ := Aside0.mk (Kd.R_below (by (with_reducible repeat (first | apply Kd.R_alloc | apply Kd.R_drewN | apply Kd.R_drew)); exact HO_3.out) hb); have n1_ := Aside0.mk (Kd.R_below (by (with_reducible repeat (first | apply Kd.R_alloc | apply Kd.R_drewN | apply Kd.R_drew)); exact HO155.out) hb); have n2_ := Aside0.mk (Kd.R_below (by (with_reducible repeat (first | apply Kd.R_alloc | apply Kd.R_drewN | apply Kd.R_drew)); exact HO159.out) hb); have n3_ := Aside0.mk (below_step (by repeat (first | (with_reducible first | exact HB.out | apply below_alloc | apply pw_below_drewN | apply below_drew1) | exact HB.out)) hb); clear HO_3; clear HO155; clear HO159; clear HB; have HO_3 := n0_; have HO155 := n1_; have HO159 := n2_; have HB := n3_; clear n0_ n1_ n2_ n3_; (try clear hb); (try clear hb2); (try clear hk); (try clear hi); obtain ⟨Ao30, co30, eo30⟩ := Kd.R_slice HO159.out; subst eo30; have p161 : 0 ≤ (0 : Int) := (by omega); have q161 : 0 < (t156.length : Int) := of_decide_eq_true (by first | (with_reducible assumption) | assumption); obtain ⟨ad161, e161, hx161_0⟩ := Kd.at_int (Kd.R_reads' HO159.out).2.2 0 p161 q161; cases e161; have qi161 : (0 < t156.length) = True := eq_true (by omega); (try rw [show ((0 : Int)).toNat = 0 from rfl] at hx161_0); (try rw [Addr.add_zero'] at hx161_0); replace p161 := eq_true p161; replace q161 := eq_true q161; have p162 : 0 ≤ ((ji26) : Int) := of_decide_eq_true (by first | (with_reducible assumption) | assumption); have q162 : (ji26) < (t156.length : Int) := of_decide_eq_true (by first | (with_reducible assumption) | assumption); obtain ⟨ad162, e162, hx162_0⟩ := Kd.at_int (Kd.R_reads' HO159.out).2.2 (ji26) p162 q162; obtain rfl : ad161 = ad162 := (by injection e162); replace p162 := eq_true p162; replace q162 := eq_true q162)))
                        go_meet
                        case rel => exact ⟨_, (((rd t156 (ji26)) != (x3_1.length : Int))), (by first | rfl | (simp; done) | (simp only [← hji26] <;> (first | rfl | simp)) | (simp [*]; done)), H', ⟨by have := HJ1.out; first | omega | exact Nat.le_refl _⟩, ⟨by (with_reducible repeat (first | apply Kd.R_alloc | apply Kd.R_drewN | apply Kd.R_drew)); exact Kd.R_mono HO155.out (fun _ hk => hk.2)⟩, ⟨by (with_reducible repeat (first | apply Kd.R_alloc | apply Kd.R_drewN | apply Kd.R_drew)); exact Kd.R_mono HO159.out (fun _ hk => hk.2)⟩, ⟨by repeat (first | (with_reducible first | exact HB.out | apply below_alloc | apply pw_below_drewN | apply below_drew1) | exact HB.out)⟩⟩
                      · rw [if_neg c28] at H
                        exact absurd H (by simp)
                    · rw [if_neg c27] at H
                      exact absurd H (by simp)
                  · rw [if_neg c25] at H
                    have c25b0 : ((rd t156 0) == 0) = false := beq_eq_false_iff_ne.mpr c25
                    have c25b1 : ((rd t156 0) != 0) = true := bne_iff_ne.mpr c25
                    have H' := Aside0.mk H
                    clear H
                    go_wp2_with (first | (go_at_call 12; (with_reducible refine (stowagelaw11_awake.calls kj1  true _ A17.out).mono ?_); rintro e w31 ⟨rfl, hb⟩; have n0_ := Aside0.mk (Kd.R_below (by (with_reducible repeat (first | apply Kd.R_alloc | apply Kd.R_drewN | apply Kd.R_drew)); exact HO_3.out) hb); have n1_ := Aside0.mk (Kd.R_below (by (with_reducible repeat (first | apply Kd.R_alloc | apply Kd.R_drewN | apply Kd.R_drew)); exact HO155.out) hb); have n2_ := Aside0.mk (Kd.R_below (by (with_reducible repeat (first | apply Kd.R_alloc | apply Kd.R_drewN | apply Kd.R_drew)); exact HO159.out) hb); have n3_ := Aside0.mk (below_step (by repeat (first | (with_reducible first | exact HB.out | apply below_alloc | apply pw_below_drewN | apply below_drew1) | exact HB.out)) hb); clear HO_3; clear HO155; clear HO159; clear HB; have HO_3 := n0_; have HO155 := n1_; have HO159 := n2_; have HB := n3_; clear n0_ n1_ n2_ n3_; (try clear hb); (try clear hb2); (try clear hk); (try clear hi); obtain ⟨Ao32, co32, eo32⟩ := Kd.R_slice HO159.out; subst eo32; have p161 : 0 ≤ (0 : Int) := (by omega); have q161 : 0 < (t156.length : Int) := of_decide_eq_true (by first | (with_reducible assumption) | assumption); obtain ⟨ad161, e161, hx161_0⟩ := Kd.at_int (Kd.R_reads' HO159.out).2.2 0 p161 q161; cases e161; have qi161 : (0 < t156.length) = True := eq_true (by omega); (try rw [show ((0 : Int)).toNat = 0 from rfl] at hx161_0); (try rw [Addr.add_zero'] at hx161_0); replace p161 := eq_true p161; replace q161 := eq_true q161))
                    repeat (go_quiet (first | (go_at_call 12; (with_reducible refine (stowagelaw11_awake.calls kj1  true _ A17.out).mono ?_); rintro e w31 ⟨rfl, hb⟩; have n0_ := Aside0.mk (Kd.R_below (by (with_reducible repeat (first | apply Kd.R_alloc | apply Kd.R_drewN | apply Kd.R_drew)); exact HO_3.out) hb); have n1_ := Aside0.mk (Kd.R_below (by (with_reducible repeat (first | apply Kd.R_alloc | apply Kd.R_drewN | apply Kd.R_drew)); exact HO155.out) hb); have n2_ := Aside0.mk (Kd.R_below (by (with_reducible repeat (first | apply Kd.R_alloc | apply Kd.R_drewN | apply Kd.R_drew)); exact HO159.out) hb); have n3_ := Aside0.mk (below_step (by repeat (first | (with_reducible first | exact HB.out | apply below_alloc | apply pw_below_drewN | apply below_drew1) | exact HB.out)) hb); clear HO_3; clear HO155; clear HO159; clear HB; have HO_3 := n0_; have HO155 := n1_; have HO159 := n2_; have HB := n3_; clear n0_ n1_ n2_ n3_; (try clear hb); (try clear hb2); (try clear hk); (try clear hi); obtain ⟨Ao32, co32, eo32⟩ := Kd.R_slice HO159.out; subst eo32; have p161 : 0 ≤ (0 : Int) := (by omega); have q161 : 0 < (t156.length : Int) := of_decide_eq_true (by first | (with_reducible assumption) | assumption); obtain ⟨ad161, e161, hx161_0⟩ := Kd.at_int (Kd.R_reads' HO159.out).2.2 0 p161 q161; cases e161; have qi161 : (0 < t156.length) = True := eq_true (by omega); (try rw [show ((0 : Int)).toNat = 0 from rfl] at hx161_0); (try rw [Addr.add_zero'] at hx161_0); replace p161 := eq_true p161; replace q161 := eq_true q161)); try go_wp2_with (first | (go_at_call 12; (with_reducible refine (stowagelaw11_awake.calls kj1  true _ A17.out).mono ?_); rintro e w31 ⟨rfl, hb⟩; have n0_ := Aside0.mk (Kd.R_below (by (with_reducible repeat (first | apply Kd.R_alloc | apply Kd.R_drewN | apply Kd.R_drew)); exact HO_3.out) hb); have n1_ := Aside0.mk (Kd.R_below (by (with_reducible repeat (first | apply Kd.R_alloc | apply Kd.R_drewN | apply Kd.R_drew)); exact HO155.out) hb); have n2_ := Aside0.mk (Kd.R_below (by (with_reducible repeat (first | apply Kd.R_alloc | apply Kd.R_drewN | apply Kd.R_drew)); exact HO159.out) hb); have n3_ := Aside0.mk (below_step (by repeat (first | (with_reducible first | exact HB.out | apply below_alloc | apply pw_below_drewN | apply below_drew1) | exact HB.out)) hb); clear HO_3; clear HO155; clear HO159; clear HB; have HO_3 := n0_; have HO155 := n1_; have HO159 := n2_; have HB := n3_; clear n0_ n1_ n2_ n3_; (try clear hb); (try clear hb2); (try clear hk); (try clear hi); obtain ⟨Ao32, co32, eo32⟩ := Kd.R_slice HO159.out; subst eo32; have p161 : 0 ≤ (0 : Int) := (by omega); have q161 : 0 < (t156.length : Int) := of_decide_eq_true (by first | (with_reducible assumption) | assumption); obtain ⟨ad161, e161, hx161_0⟩ := Kd.at_int (Kd.R_reads' HO159.out).2.2 0 p161 q161; cases e161; have qi161 : (0 < t156.length) = True := eq_true (by omega); (try rw [show ((0 : Int)).toNat = 0 from rfl] at hx161_0); (try rw [Addr.add_zero'] at hx161_0); replace p161 := eq_true p161; replace q161 := eq_true q161)))
                    go_meet
                    case rel => exact ⟨_, (true), (by first | rfl | (simp; done) | (simp [*]; done)), H', ⟨by have := HJ1.out; first | omega | exact Nat.le_refl _⟩, ⟨by (with_reducible repeat (first | apply Kd.R_alloc | apply Kd.R_drewN | apply Kd.R_drew)); exact Kd.R_mono HO155.out (fun _ hk => hk.2)⟩, ⟨by (with_reducible repeat (first | apply Kd.R_alloc | apply Kd.R_drewN | apply Kd.R_drew)); exact Kd.R_mono HO159.out (fun _ hk => hk.2)⟩, ⟨by repeat (first | (with_reducible first | exact HB.out | apply below_alloc | apply pw_below_drewN | apply below_drew1) | exact HB.out)⟩⟩
                · rw [if_neg c24] at H
                  exact absurd H (by simp)
            · rw [if_neg c20] at H
              have c20b0 : (t157 == 0) = false := beq_eq_false_iff_ne.mpr c20
              have c20b1 : (t157 != 0) = true := bne_iff_ne.mpr c20
              have H' := Aside0.mk H
              clear H
              go_wp2_with (first | (go_at_call 12; (with_reducible refine (stowagelaw11_awake.calls kj1  true _ A17.out).mono ?_); rintro e w33 ⟨rfl, hb⟩; have n0_ := Aside0.mk (Kd.R_below (by (with_reducible repeat (first | apply Kd.R_alloc | apply Kd.R_drewN | apply Kd.R_drew)); exact HO_3.out) hb); have n1_ := Aside0.mk (Kd.R_below (by (with_reducible repeat (first | apply Kd.R_alloc | apply Kd.R_drewN | apply Kd.R_drew)); exact HO155.out) hb); have n2_ := Aside0.mk (Kd.R_below (by (with_reducible repeat (first | apply Kd.R_alloc | apply Kd.R_drewN | apply Kd.R_drew)); exact HO159.out) hb); have n3_ := Aside0.mk (below_step (by repeat (first | (with_reducible first | exact HB.out | apply below_alloc | apply pw_below_drewN | apply below_drew1) | exact HB.out)) hb); clear HO_3; clear HO155; clear HO159; clear HB; have HO_3 := n0_; have HO155 := n1_; have HO159 := n2_; have HB := n3_; clear n0_ n1_ n2_ n3_; (try clear hb); (try clear hb2); (try clear hk); (try clear hi)))
              repeat (go_quiet (first | (go_at_call 12; (with_reducible refine (stowagelaw11_awake.calls kj1  true _ A17.out).mono ?_); rintro e w33 ⟨rfl, hb⟩; have n0_ := Aside0.mk (Kd.R_below (by (with_reducible repeat (first | apply Kd.R_alloc | apply Kd.R_drewN | apply Kd.R_drew)); exact HO_3.out) hb); have n1_ := Aside0.mk (Kd.R_below (by (with_reducible repeat (first | apply Kd.R_alloc | apply Kd.R_drewN | apply Kd.R_drew)); exact HO155.out) hb); have n2_ := Aside0.mk (Kd.R_below (by (with_reducible repeat (first | apply Kd.R_alloc | apply Kd.R_drewN | apply Kd.R_drew)); exact HO159.out) hb); have n3_ := Aside0.mk (below_step (by repeat (first | (with_reducible first | exact HB.out | apply below_alloc | apply pw_below_drewN | apply below_drew1) | exact HB.out)) hb); clear HO_3; clear HO155; clear HO159; clear HB; have HO_3 := n0_; have HO155 := n1_; have HO159 := n2_; have HB := n3_; clear n0_ n1_ n2_ n3_; (try clear hb); (try clear hb2); (try clear hk); (try clear hi))); try go_wp2_with (first | (go_at_call 12; (with_reducible refine (stowagelaw11_awake.calls kj1  true _ A17.out).mono ?_); rintro e w33 ⟨rfl, hb⟩; have n0_ := Aside0.mk (Kd.R_below (by (with_reducible repeat (first | apply Kd.R_alloc | apply Kd.R_drewN | apply Kd.R_drew)); exact HO_3.out) hb); have n1_ := Aside0.mk (Kd.R_below (by (with_reducible repeat (first | apply Kd.R_alloc | apply Kd.R_drewN | apply Kd.R_drew)); exact HO155.out) hb); have n2_ := Aside0.mk (Kd.R_below (by (with_reducible repeat (first | apply Kd.R_alloc | apply Kd.R_drewN | apply Kd.R_drew)); exact HO159.out) hb); have n3_ := Aside0.mk (below_step (by repeat (first | (with_reducible first | exact HB.out | apply below_alloc | apply pw_below_drewN | apply below_drew1) | exact HB.out)) hb); clear HO_3; clear HO155; clear HO159; clear HB; have HO_3 := n0_; have HO155 := n1_; have HO159 := n2_; have HB := n3_; clear n0_ n1_ n2_ n3_; (try clear hb); (try clear hb2); (try clear hk); (try clear hi))))
              go_meet
              case rel => exact ⟨_, (true), (by first | rfl | (simp; done) | (simp [*]; done)), H', ⟨by have := HJ1.out; first | omega | exact Nat.le_refl _⟩, ⟨by (with_reducible repeat (first | apply Kd.R_alloc | apply Kd.R_drewN | apply Kd.R_drew)); exact Kd.R_mono HO155.out (fun _ hk => hk.2)⟩, ⟨by (with_reducible repeat (first | apply Kd.R_alloc | apply Kd.R_drewN | apply Kd.R_drew)); exact Kd.R_mono HO159.out (fun _ hk => hk.2)⟩, ⟨by repeat (first | (with_reducible first | exact HB.out | apply below_alloc | apply pw_below_drewN | apply below_drew1) | exact HB.out)⟩⟩
          · rw [if_neg c19] at H
            have c19b0 : (t153 == 0) = false := beq_eq_false_iff_ne.mpr c19
            have c19b1 : (t153 != 0) = true := bne_iff_ne.mpr c19
            (first | rw [c19b0] | (simp only [i64_w, i32_w]; rw [c19b0]) | skip)
            have H' := Aside0.mk H
            clear H
            go_wp2_with (first | (go_at_call 12; (with_reducible refine (stowagelaw11_awake.calls kj1  true _ A17.out).mono ?_); rintro e w34 ⟨rfl, hb⟩; have n0_ := Aside0.mk (Kd.R_below (by (with_reducible repeat (first | apply Kd.R_alloc | apply Kd.R_drewN | apply Kd.R_drew)); exact HO_3.out) hb); have n1_ := Aside0.mk (Kd.R_below (by (with_reducible repeat (first | apply Kd.R_alloc | apply Kd.R_drewN | apply Kd.R_drew)); exact HO155.out) hb); have n2_ := Aside0.mk (Kd.R_below (by (with_reducible repeat (first | apply Kd.R_alloc | apply Kd.R_drewN | apply Kd.R_drew)); exact HO159.out) hb); have n3_ := Aside0.mk (below_step (by repeat (first | (with_reducible first | exact HB.out | apply below_alloc | apply pw_below_drewN | apply below_drew1) | exact HB.out)) hb); clear HO_3; clear HO155; clear HO159; clear HB; have HO_3 := n0_; have HO155 := n1_; have HO159 := n2_; have HB := n3_; clear n0_ n1_ n2_ n3_; (try clear hb); (try clear hb2); (try clear hk); (try clear hi)))
            repeat (go_quiet (first | (go_at_call 12; (with_reducible refine (stowagelaw11_awake.calls kj1  true _ A17.out).mono ?_); rintro e w34 ⟨rfl, hb⟩; have n0_ := Aside0.mk (Kd.R_below (by (with_reducible repeat (first | apply Kd.R_alloc | apply Kd.R_drewN | apply Kd.R_drew)); exact HO_3.out) hb); have n1_ := Aside0.mk (Kd.R_below (by (with_reducible repeat (first | apply Kd.R_alloc | apply Kd.R_drewN | apply Kd.R_drew)); exact HO155.out) hb); have n2_ := Aside0.mk (Kd.R_below (by (with_reducible repeat (first | apply Kd.R_alloc | apply Kd.R_drewN | apply Kd.R_drew)); exact HO159.out) hb); have n3_ := Aside0.mk (below_step (by repeat (first | (with_reducible first | exact HB.out | apply below_alloc | apply pw_below_drewN | apply below_drew1) | exact HB.out)) hb); clear HO_3; clear HO155; clear HO159; clear HB; have HO_3 := n0_; have HO155 := n1_; have HO159 := n2_; have HB := n3_; clear n0_ n1_ n2_ n3_; (try clear hb); (try clear hb2); (try clear hk); (try clear hi))); try go_wp2_with (first | (go_at_call 12; (with_reducible refine (stowagelaw11_awake.calls kj1  true _ A17.out).mono ?_); rintro e w34 ⟨rfl, hb⟩; have n0_ := Aside0.mk (Kd.R_below (by (with_reducible repeat (first | apply Kd.R_alloc | apply Kd.R_drewN | apply Kd.R_drew)); exact HO_3.out) hb); have n1_ := Aside0.mk (Kd.R_below (by (with_reducible repeat (first | apply Kd.R_alloc | apply Kd.R_drewN | apply Kd.R_drew)); exact HO155.out) hb); have n2_ := Aside0.mk (Kd.R_below (by (with_reducible repeat (first | apply Kd.R_alloc | apply Kd.R_drewN | apply Kd.R_drew)); exact HO159.out) hb); have n3_ := Aside0.mk (below_step (by repeat (first | (with_reducible first | exact HB.out | apply below_alloc | apply pw_below_drewN | apply below_drew1) | exact HB.out)) hb); clear HO_3; clear HO155; clear HO159; clear HB; have HO_3 := n0_; have HO155 := n1_; have HO159 := n2_; have HB := n3_; clear n0_ n1_ n2_ n3_; (try clear hb); (try clear hb2); (try clear hk); (try clear hi))))
            go_meet
            case rel => exact ⟨_, (true), (by first | rfl | (simp; done) | (simp [*]; done)), H', ⟨by have := HJ1.out; first | omega | exact Nat.le_refl _⟩, ⟨by (with_reducible repeat (first | apply Kd.R_alloc | apply Kd.R_drewN | apply Kd.R_drew)); exact Kd.R_mono HO155.out (fun _ hk => hk.2)⟩, ⟨by (with_reducible repeat (first | apply Kd.R_alloc | apply Kd.R_drewN | apply Kd.R_drew)); exact Kd.R_mono HO159.out (fun _ hk => hk.2)⟩, ⟨by repeat (first | (with_reducible first | exact HB.out | apply below_alloc | apply pw_below_drewN | apply below_drew1) | exact HB.out)⟩⟩
        · replace c18 := Bool.eq_false_iff.mpr c18
          subst c18
          have H1 : (stowagelaw11_CurveCorners.j2 kj1 t152 t156 true) = some r := by rw [if_neg (show ¬ (false = true) by decide)] at H; exact H
          clear H
          have H := H1
          clear H1
          have H' := Aside0.mk H
          clear H
          go_wp2_with (first | (go_at_call 12; (with_reducible refine (stowagelaw11_awake.calls kj1  false _ A17.out).mono ?_); rintro e w35 ⟨rfl, hb⟩; have n0_ := Aside0.mk (Kd.R_below (by (with_reducible repeat (first | apply Kd.R_alloc | apply Kd.R_drewN | apply Kd.R_drew)); exact HO_3.out) hb); have n1_ := Aside0.mk (Kd.R_below (by (with_reducible repeat (first | apply Kd.R_alloc | apply Kd.R_drewN | apply Kd.R_drew)); exact HO155.out) hb); have n2_ := Aside0.mk (Kd.R_below (by (with_reducible repeat (first | apply Kd.R_alloc | apply Kd.R_drewN | apply Kd.R_drew)); exact HO159.out) hb); have n3_ := Aside0.mk (below_step (by repeat (first | (with_reducible first | exact HB.out | apply below_alloc | apply pw_below_drewN | apply below_drew1) | exact HB.out)) hb); clear HO_3; clear HO155; clear HO159; clear HB; have HO_3 := n0_; have HO155 := n1_; have HO159 := n2_; have HB := n3_; clear n0_ n1_ n2_ n3_; (try clear hb); (try clear hb2); (try clear hk); (try clear hi)))
          repeat (go_quiet (first | (go_at_call 12; (with_reducible refine (stowagelaw11_awake.calls kj1  false _ A17.out).mono ?_); rintro e w35 ⟨rfl, hb⟩; have n0_ := Aside0.mk (Kd.R_below (by (with_reducible repeat (first | apply Kd.R_alloc | apply Kd.R_drewN | apply Kd.R_drew)); exact HO_3.out) hb); have n1_ := Aside0.mk (Kd.R_below (by (with_reducible repeat (first | apply Kd.R_alloc | apply Kd.R_drewN | apply Kd.R_drew)); exact HO155.out) hb); have n2_ := Aside0.mk (Kd.R_below (by (with_reducible repeat (first | apply Kd.R_alloc | apply Kd.R_drewN | apply Kd.R_drew)); exact HO159.out) hb); have n3_ := Aside0.mk (below_step (by repeat (first | (with_reducible first | exact HB.out | apply below_alloc | apply pw_below_drewN | apply below_drew1) | exact HB.out)) hb); clear HO_3; clear HO155; clear HO159; clear HB; have HO_3 := n0_; have HO155 := n1_; have HO159 := n2_; have HB := n3_; clear n0_ n1_ n2_ n3_; (try clear hb); (try clear hb2); (try clear hk); (try clear hi))); try go_wp2_with (first | (go_at_call 12; (with_reducible refine (stowagelaw11_awake.calls kj1  false _ A17.out).mono ?_); rintro e w35 ⟨rfl, hb⟩; have n0_ := Aside0.mk (Kd.R_below (by (with_reducible repeat (first | apply Kd.R_alloc | apply Kd.R_drewN | apply Kd.R_drew)); exact HO_3.out) hb); have n1_ := Aside0.mk (Kd.R_below (by (with_reducible repeat (first | apply Kd.R_alloc | apply Kd.R_drewN | apply Kd.R_drew)); exact HO155.out) hb); have n2_ := Aside0.mk (Kd.R_below (by (with_reducible repeat (first | apply Kd.R_alloc | apply Kd.R_drewN | apply Kd.R_drew)); exact HO159.out) hb); have n3_ := Aside0.mk (below_step (by repeat (first | (with_reducible first | exact HB.out | apply below_alloc | apply pw_below_drewN | apply below_drew1) | exact HB.out)) hb); clear HO_3; clear HO155; clear HO159; clear HB; have HO_3 := n0_; have HO155 := n1_; have HO159 := n2_; have HB := n3_; clear n0_ n1_ n2_ n3_; (try clear hb); (try clear hb2); (try clear hk); (try clear hi))))
          go_meet
          case rel => exact ⟨_, (true), (by first | rfl | (simp; done) | (simp [*]; done)), H', ⟨by have := HJ1.out; first | omega | exact Nat.le_refl _⟩, ⟨by (with_reducible repeat (first | apply Kd.R_alloc | apply Kd.R_drewN | apply Kd.R_drew)); exact Kd.R_mono HO155.out (fun _ hk => hk.2)⟩, ⟨by (with_reducible repeat (first | apply Kd.R_alloc | apply Kd.R_drewN | apply Kd.R_drew)); exact Kd.R_mono HO159.out (fun _ hk => hk.2)⟩, ⟨by repeat (first | (with_reducible first | exact HB.out | apply below_alloc | apply pw_below_drewN | apply below_drew1) | exact HB.out)⟩⟩
      case rest =>
        clear HC12
        try clear c1
        try clear p1
        try clear q1
        try clear hx1
        try clear qi1
        try clear c2
        try clear p2
        try clear c5
        try clear c5b0
        try clear c6
        try clear c6b0
        try clear p6
        try clear c7
        try clear c7b0
        try clear c8
        try clear p14
        try clear q14
        try clear hx14
        try clear p16
        try clear q16
        try clear hx16
        try clear qi16
        try clear c18
        try clear c19
        try clear c19b0
        try clear c19b1
        try clear c20
        try clear c20b0
        try clear c20b1
        try clear c21
        try clear c21b0
        try clear c21b1
        try clear c21b2
        try clear c24
        try clear c24b0
        try clear c24b1
        try clear c25
        try clear c25b0
        try clear c25b1
        try clear c27
        try clear c27b0
        try clear c28
        try clear c28b0
        try clear hx148_0
        try clear hx161_0
        try clear hx162_0
        try clear p1
        try clear p148
        try clear p161
        try clear p162
        try clear p2
        try clear p6
        try clear q1
        try clear q148
        try clear q161
        try clear q162
        obtain ⟨kq, x73_11, rfl, HA, HJ11, HO_5, HO_7, HB⟩ := hcut
        cases kq with
        | zero => exact absurd HA.out (by simp [stowagelaw11_CurveCorners.j2])
        | succ kj11 =>
          have H := HA.out
          clear HA
          simp only [stowagelaw11_CurveCorners.j2] at H
          by_cases c36 : x73_11 = true
          · subst c36
            have H1 : (some false) = some r := by rw [if_pos rfl] at H; exact H
            clear H
            have H := H1
            clear H1
            obtain rfl := Option.some.inj H
            go_wp2
            repeat (go_quiet (fail); try go_wp2)
            go_ret
            exact ⟨by first | rfl | (simp [errW_none, errW_some] <;> rfl) | (simp [*, errW_none, errW_some] <;> rfl), by repeat (first | (with_reducible first | exact HB.out | apply below_alloc | apply pw_below_drewN | apply below_drew1) | exact HB.out)⟩
          · replace c36 := Bool.eq_false_iff.mpr c36
            subst c36
            have H1 : (stowagelaw11_CurveCorners.l1 kj11 t152 t156 1) = some r := by rw [if_neg (show ¬ (false = true) by decide)] at H; exact H
            clear H
            have H := H1
            clear H1
            have H' := Aside0.mk H
            clear H
            go_wp2
            repeat (go_quiet (fail); try go_wp2)
            go_loopg [9] kj11 (fun kq v9 w' => ∃ (x9_3 : Int), v9 = .int .i64 x9_3 ∧ Aside0 (stowagelaw11_CurveCorners.l1 kq t152 t156 x9_3 = some r) ∧ Aside0 (kq ≤ kj11) ∧ Aside0 (Kd.R (Kd.int .i64) 3 w' w.heap.size (fun k_ => some k_ ≠ (v158 : Value).ownBlock) (.slice Ao15 t152.length co15) t152) ∧ Aside0 (Kd.R (Kd.int .i64) 3 w' w.heap.size (fun k_ => some k_ ≠ ((.slice Ao15 t152.length co15) : Value).ownBlock) v158 t156) ∧ Aside0 (Below w.heap.size w w'))
            case atStart => exact ⟨(1), (by first | rfl | (simp; done) | (simp [*]; done)), H', ⟨Nat.le_refl _⟩, ⟨by (with_reducible repeat (first | apply Kd.R_alloc | apply Kd.R_drewN | apply Kd.R_drew)); exact HO_5.out⟩, ⟨by (with_reducible repeat (first | apply Kd.R_alloc | apply Kd.R_drewN | apply Kd.R_drew)); exact HO_7.out⟩, ⟨by repeat (first | (with_reducible first | exact HB.out | apply below_alloc | apply pw_below_drewN | apply below_drew1) | exact HB.out)⟩⟩
            case round =>
              clear H'
              try clear c1
              try clear p1
              try clear q1
              try clear hx1
              try clear qi1
              try clear c2
              try clear p2
              try clear c3
              try clear c5
              try clear c5b0
              try clear c6
              try clear c6b0
              try clear p6
              try clear c7
              try clear c7b0
              try clear c8
              try clear p14
              try clear q14
              try clear hx14
              try clear p16
              try clear q16
              try clear hx16
              try clear qi16
              try clear c18
              try clear c19
              try clear c19b0
              try clear c19b1
              try clear c20
              try clear c20b0
              try clear c20b1
              try clear c21
              try clear c21b0
              try clear c21b1
              try clear c21b2
              try clear c24
              try clear c24b0
              try clear c24b1
              try clear c25
              try clear c25b0
              try clear c25b1
              try clear c27
              try clear c27b0
              try clear c28
              try clear c28b0
              try clear c36
              try clear hx148_0
              try clear hx161_0
              try clear hx162_0
              try clear p1
              try clear p14
              try clear p148
              try clear p16
              try clear p161
              try clear p162
              try clear p2
              try clear p6
              try clear q1
              try clear q14
              try clear q148
              try clear q16
              try clear q161
              try clear q162
              obtain ⟨x9_3, rfl, HA, HK3, HO_5, HO_7, HB⟩ := hrel
              cases gk with
              | zero => exact absurd HA.out (by simp [stowagelaw11_CurveCorners.l1])
              | succ k3 =>
                have H := HA.out
                clear HA
                simp only [stowagelaw11_CurveCorners.l1] at H
                by_cases c37 : x9_3 < (t156.length : Int)
                · rw [if_pos c37] at H
                  have c37b0 : decide (x9_3 < (t156.length : Int)) = true := decide_eq_true c37
                  clear c37
                  obtain ⟨ji38, hji38⟩ : ∃ j_ : Int, (wrap64 (x9_3 - 1)) = j_ := ⟨_, rfl⟩
                  replace H : (if 0 ≤ (ji38) then (if (ji38) < (t156.length : Int) then (if 0 ≤ x9_3 then (if (rd t156 (ji38)) ≥ (rd t156 x9_3) then (some false) else (stowagelaw11_CurveCorners.l2 k3 t152 t156 x9_3 (rd t156 (ji38)) (rd t156 x9_3) (rd t156 (ji38)))) else (none)) else (none)) else (none)) = some r := by first | (rw [hji38] at H; exact H) | (simp only [hji38] at H ⊢; exact H)
                  have hji38w : (IntKind.i64.wrap (x9_3 - 1)) = ji38 := (i64_w _).trans hji38
                  by_cases c39 : 0 ≤ (ji38)
                  · rw [if_pos c39] at H
                    have c39b0 : decide (0 ≤ (ji38)) = true := decide_eq_true c39
                    clear c39
                    by_cases c40 : (ji38) < (t156.length : Int)
                    · rw [if_pos c40] at H
                      have c40b0 : decide ((ji38) < (t156.length : Int)) = true := decide_eq_true c40
                      clear c40
                      by_cases c41 : 0 ≤ x9_3
                      · rw [if_pos c41] at H
                        have c41b0 : decide (0 ≤ x9_3) = true := decide_eq_true c41
                        clear c41
                        by_cases c42 : (rd t156 (ji38)) ≥ (rd t156 x9_3)
                        · rw [if_pos c42] at H
                          have c42b0 : decide ((rd t156 x9_3) ≤ (rd t156 (ji38))) = true := decide_eq_true c42
                          clear c42
                          obtain rfl := Option.some.inj H
                          obtain ⟨Ao43, co43, eo43⟩ := Kd.R_slice HO_7.out
                          subst eo43
                          have p163 : 0 ≤ ((ji38) : Int) := of_decide_eq_true (by first | (with_reducible assumption) | assumption)
                          have q163 : (ji38) < (t156.length : Int) := of_decide_eq_true (by first | (with_reducible assumption) | assumption)
                          obtain ⟨ad163, e163, hx163_0⟩ := Kd.at_int (Kd.R_reads' HO_7.out).2.2 (ji38) p163 q163
                          cases e163
                          replace p163 := eq_true p163
                          replace q163 := eq_true q163
                          have p164 : 0 ≤ (x9_3 : Int) := of_decide_eq_true (by first | (with_reducible assumption) | assumption)
                          have q164 : x9_3 < (t156.length : Int) := of_decide_eq_true (by first | (with_reducible assumption) | assumption)
                          obtain ⟨ad164, e164, hx164_0⟩ := Kd.at_int (Kd.R_reads' HO_7.out).2.2 x9_3 p164 q164
                          obtain rfl : ad163 = ad164 := (by injection e164)
                          replace p164 := eq_true p164
                          replace q164 := eq_true q164
                          go_wp2
                          repeat (go_quiet (fail); try go_wp2)
                          go_ret
                          exact ⟨by first | rfl | (simp [errW_none, errW_some] <;> rfl) | (simp only [← hji38]; first | rfl | (simp [errW_none, errW_some] <;> rfl)) | (simp [*, errW_none, errW_some] <;> rfl), by repeat (first | (with_reducible first | exact HB.out | apply below_alloc | apply pw_below_drewN | apply below_drew1) | exact HB.out)⟩
                        · rw [if_neg c42] at H
                          have c42b0 : decide ((rd t156 x9_3) ≤ (rd t156 (ji38))) = false := decide_eq_false c42
                          clear c42
                          have H' := Aside0.mk H
                          clear H
                          obtain ⟨Ao44, co44, eo44⟩ := Kd.R_slice HO_7.out
                          subst eo44
                          have p163 : 0 ≤ ((ji38) : Int) := of_decide_eq_true (by first | (with_reducible assumption) | assumption)
                          have q163 : (ji38) < (t156.length : Int) := of_decide_eq_true (by first | (with_reducible assumption) | assumption)
                          obtain ⟨ad163, e163, hx163_0⟩ := Kd.at_int (Kd.R_reads' HO_7.out).2.2 (ji38) p163 q163
                          cases e163
                          replace p163 := eq_true p163
                          replace q163 := eq_true q163
                          have p164 : 0 ≤ (x9_3 : Int) := of_decide_eq_true (by first | (with_reducible assumption) | assumption)
                          have q164 : x9_3 < (t156.length : Int) := of_decide_eq_true (by first | (with_reducible assumption) | assumption)
                          obtain ⟨ad164, e164, hx164_0⟩ := Kd.at_int (Kd.R_reads' HO_7.out).2.2 x9_3 p164 q164
                          obtain rfl : ad163 = ad164 := (by injection e164)
                          replace p164 := eq_true p164
                          replace q164 := eq_true q164
                          go_wp2
                          repeat (go_quiet (fail); try go_wp2)
                          go_loopg [12] k3 (fun kq v12 w' => ∃ (x12_4 : Int), v12 = .int .i64 x12_4 ∧ Aside0 (stowagelaw11_CurveCorners.l2 kq t152 t156 x9_3 (rd t156 (ji38)) (rd t156 x9_3) x12_4 = some r) ∧ Aside0 (kq ≤ k3) ∧ Aside0 (Kd.R (Kd.int .i64) 3 w' w.heap.size (fun k_ => some k_ ≠ ((.slice (some ad163) t156.length co44) : Value).ownBlock) (.slice Ao15 t152.length co15) t152) ∧ Aside0 (Kd.R (Kd.int .i64) 3 w' w.heap.size (fun k_ => some k_ ≠ ((.slice Ao15 t152.length co15) : Value).ownBlock) (.slice (some ad163) t156.length co44) t156) ∧ Aside0 (Below w.heap.size w w'))
                          case atStart => exact ⟨(rd t156 (ji38)), (by first | rfl | (simp; done) | (simp only [← hji38] <;> (first | rfl | simp)) | (simp [*]; done)), H', ⟨Nat.le_refl _⟩, ⟨by (with_reducible repeat (first | apply Kd.R_alloc | apply Kd.R_drewN | apply Kd.R_drew)); exact HO_5.out⟩, ⟨by (with_reducible repeat (first | apply Kd.R_alloc | apply Kd.R_drewN | apply Kd.R_drew)); exact HO_7.out⟩, ⟨by repeat (first | (with_reducible first | exact HB.out | apply below_alloc | apply pw_below_drewN | apply below_drew1) | exact HB.out)⟩⟩
                          case round =>
                            clear H'
                            try clear c1
                            try clear p1
                            try clear q1
                            try clear hx1
                            try clear qi1
                            try clear c2
                            try clear p2
                            try clear c3
                            try clear c4
                            try clear c5
                            try clear c5b0
                            try clear c6
                            try clear c6b0
                            try clear p6
                            try clear c7
                            try clear c7b0
                            try clear c8
                            try clear p14
                            try clear q14
                            try clear hx14
                            try clear p16
                            try clear q16
                            try clear hx16
                            try clear qi16
                            try clear c18
                            try clear c19
                            try clear c19b0
                            try clear c19b1
                            try clear c20
                            try clear c20b0
                            try clear c20b1
                            try clear c21
                            try clear c21b0
                            try clear c21b1
                            try clear c21b2
                            try clear c24
                            try clear c24b0
                            try clear c24b1
                            try clear c25
                            try clear c25b0
                            try clear c25b1
                            try clear c27
                            try clear c27b0
                            try clear c28
                            try clear c28b0
                            try clear c36
                            try clear c37
                            try clear c37b0
                            try clear c39
                            try clear c39b0
                            try clear c40
                            try clear c40b0
                            try clear c41
                            try clear c41b0
                            try clear c42
                            try clear c42b0
                            try clear hx148_0
                            try clear hx161_0
                            try clear hx162_0
                            try clear hx163_0
                            try clear hx164_0
                            try clear p1
                            try clear p14
                            try clear p148
                            try clear p16
                            try clear p161
                            try clear p162
                            try clear p163
                            try clear p164
                            try clear p2
                            try clear p6
                            try clear q1
                            try clear q14
                            try clear q148
                            try clear q16
                            try clear q161
                            try clear q162
                            try clear q163
                            try clear q164
                            obtain ⟨x12_4, rfl, HA, HK4, HO_5, HO_7, HB⟩ := hrel
                            cases gk with
                            | zero => exact absurd HA.out (by simp [stowagelaw11_CurveCorners.l2])
                            | succ k4 =>
                              have H := HA.out
                              clear HA
                              simp only [stowagelaw11_CurveCorners.l2] at H
                              by_cases c45 : x12_4 ≤ (rd t156 x9_3)
                              · rw [if_pos c45] at H
                                have c45b0 : decide (x12_4 ≤ (rd t156 x9_3)) = true := decide_eq_true c45
                                clear c45
                                by_cases c46 : 0 ≤ x12_4
                                · rw [if_pos c46] at H
                                  have c46b0 : decide (0 ≤ x12_4) = true := decide_eq_true c46
                                  clear c46
                                  by_cases c47 : x12_4 < (t152.length : Int)
                                  · rw [if_pos c47] at H
                                    have c47b0 : decide (x12_4 < (t152.length : Int)) = true := decide_eq_true c47
                                    clear c47
                                    by_cases c48 : 0 ≤ (rd t156 (ji38))
                                    · rw [if_pos c48] at H
                                      have c48b0 : decide (0 ≤ (rd t156 (ji38))) = true := decide_eq_true c48
                                      clear c48
                                      by_cases c49 : (rd t156 (ji38)) < (t152.length : Int)
                                      · rw [if_pos c49] at H
                                        have c49b0 : decide ((rd t156 (ji38)) < (t152.length : Int)) = true := decide_eq_true c49
                                        clear c49
                                        by_cases c50 : 0 ≤ (rd t156 x9_3)
                                        · rw [if_pos c50] at H
                                          have c50b0 : decide (0 ≤ (rd t156 x9_3)) = true := decide_eq_true c50
                                          clear c50
                                          by_cases c51 : (rd t156 x9_3) < (t152.length : Int)
                                          · rw [if_pos c51] at H
                                            have c51b0 : decide ((rd t156 x9_3) < (t152.length : Int)) = true := decide_eq_true c51
                                            clear c51
                                            by_cases c52 : (wrap64 ((wrap64 ((rd t152 x12_4) - (rd t152 (rd t156 (ji38))))) * (wrap64 ((rd t156 x9_3) - (rd t156 (ji38)))))) > (wrap64 ((wrap64 ((rd t152 (rd t156 x9_3)) - (rd t152 (rd t156 (ji38))))) * (wrap64 (x12_4 - (rd t156 (ji38))))))
                                            · rw [if_pos c52] at H
                                              have c52b0 : decide ((wrap64 ((wrap64 ((rd t152 (rd t156 x9_3)) - (rd t152 (rd t156 (ji38))))) * (wrap64 (x12_4 - (rd t156 (ji38)))))) < (wrap64 ((wrap64 ((rd t152 x12_4) - (rd t152 (rd t156 (ji38))))) * (wrap64 ((rd t156 x9_3) - (rd t156 (ji38))))))) = true := decide_eq_true c52
                                              clear c52
                                              obtain rfl := Option.some.inj H
                                              have p165 : 0 ≤ (x12_4 : Int) := of_decide_eq_true (by first | (with_reducible assumption) | assumption)
                                              have q165 : x12_4 < (t152.length : Int) := of_decide_eq_true (by first | (with_reducible assumption) | assumption)
                                              obtain ⟨ad165, e165, hx165_0⟩ := Kd.at_int (Kd.R_reads' HO_5.out).2.2 x12_4 p165 q165
                                              cases e165
                                              replace p165 := eq_true p165
                                              replace q165 := eq_true q165
                                              have p166 : 0 ≤ ((rd t156 (ji38)) : Int) := of_decide_eq_true (by first | (with_reducible assumption) | assumption)
                                              have q166 : (rd t156 (ji38)) < (t152.length : Int) := of_decide_eq_true (by first | (with_reducible assumption) | assumption)
                                              obtain ⟨ad166, e166, hx166_0⟩ := Kd.at_int (Kd.R_reads' HO_5.out).2.2 (rd t156 (ji38)) p166 q166
                                              obtain rfl : ad165 = ad166 := (by injection e166)
                                              replace p166 := eq_true p166
                                              replace q166 := eq_true q166
                                              have p167 : 0 ≤ ((rd t156 x9_3) : Int) := of_decide_eq_true (by first | (with_reducible assumption) | assumption)
                                              have q167 : (rd t156 x9_3) < (t152.length : Int) := of_decide_eq_true (by first | (with_reducible assumption) | assumption)
                                              obtain ⟨ad167, e167, hx167_0⟩ := Kd.at_int (Kd.R_reads' HO_5.out).2.2 (rd t156 x9_3) p167 q167
                                              obtain rfl : ad165 = ad167 := (by injection e167)
                                              replace p167 := eq_true p167
                                              replace q167 := eq_true q167
                                              have p168 : 0 ≤ ((rd t156 (ji38)) : Int) := of_decide_eq_true (by first | (with_reducible assumption) | assumption)
                                              have q168 : (rd t156 (ji38)) < (t152.length : Int) := of_decide_eq_true (by first | (with_reducible assumption) | assumption)
                                              obtain ⟨ad168, e168, hx168_0⟩ := Kd.at_int (Kd.R_reads' HO_5.out).2.2 (rd t156 (ji38)) p168 q168
                                              obtain rfl : ad165 = ad168 := (by injection e168)
                                              replace p168 := eq_true p168
                                              replace q168 := eq_true q168
                                              go_wp2
                                              repeat (go_quiet (fail); try go_wp2)
                                              go_ret
                                              exact ⟨by first | rfl | (simp [errW_none, errW_some] <;> rfl) | (simp only [← hji38]; first | rfl | (simp [errW_none, errW_some] <;> rfl)) | (simp [*, errW_none, errW_some] <;> rfl), by repeat (first | (with_reducible first | exact HB.out | apply below_alloc | apply pw_below_drewN | apply below_drew1) | exact HB.out)⟩
                                            · rw [if_neg c52] at H
                                              have c52b0 : decide ((wrap64 ((wrap64 ((rd t152 (rd t156 x9_3)) - (rd t152 (rd t156 (ji38))))) * (wrap64 (x12_4 - (rd t156 (ji38)))))) < (wrap64 ((wrap64 ((rd t152 x12_4) - (rd t152 (rd t156 (ji38))))) * (wrap64 ((rd t156 x9_3) - (rd t156 (ji38))))))) = false := decide_eq_false c52
                                              clear c52
                                              have H' := Aside0.mk H
                                              clear H
                                              have p165 : 0 ≤ (x12_4 : Int) := of_decide_eq_true (by first | (with_reducible assumption) | assumption)
                                              have q165 : x12_4 < (t152.length : Int) := of_decide_eq_true (by first | (with_reducible assumption) | assumption)
                                              obtain ⟨ad165, e165, hx165_0⟩ := Kd.at_int (Kd.R_reads' HO_5.out).2.2 x12_4 p165 q165
                                              cases e165
                                              replace p165 := eq_true p165
                                              replace q165 := eq_true q165
                                              have p166 : 0 ≤ ((rd t156 (ji38)) : Int) := of_decide_eq_true (by first | (with_reducible assumption) | assumption)
                                              have q166 : (rd t156 (ji38)) < (t152.length : Int) := of_decide_eq_true (by first | (with_reducible assumption) | assumption)
                                              obtain ⟨ad166, e166, hx166_0⟩ := Kd.at_int (Kd.R_reads' HO_5.out).2.2 (rd t156 (ji38)) p166 q166
                                              obtain rfl : ad165 = ad166 := (by injection e166)
                                              replace p166 := eq_true p166
                                              replace q166 := eq_true q166
                                              have p167 : 0 ≤ ((rd t156 x9_3) : Int) := of_decide_eq_true (by first | (with_reducible assumption) | assumption)
                                              have q167 : (rd t156 x9_3) < (t152.length : Int) := of_decide_eq_true (by first | (with_reducible assumption) | assumption)
                                              obtain ⟨ad167, e167, hx167_0⟩ := Kd.at_int (Kd.R_reads' HO_5.out).2.2 (rd t156 x9_3) p167 q167
                                              obtain rfl : ad165 = ad167 := (by injection e167)
                                              replace p167 := eq_true p167
                                              replace q167 := eq_true q167
                                              have p168 : 0 ≤ ((rd t156 (ji38)) : Int) := of_decide_eq_true (by first | (with_reducible assumption) | assumption)
                                              have q168 : (rd t156 (ji38)) < (t152.length : Int) := of_decide_eq_true (by first | (with_reducible assumption) | assumption)
                                              obtain ⟨ad168, e168, hx168_0⟩ := Kd.at_int (Kd.R_reads' HO_5.out).2.2 (rd t156 (ji38)) p168 q168
                                              obtain rfl : ad165 = ad168 := (by injection e168)
                                              replace p168 := eq_true p168
                                              replace q168 := eq_true q168
                                              go_wp2
                                              repeat (go_quiet (fail); try go_wp2)
                                              go_roundg k4
                                              case measure => have := HJ1.out; have := HJ11.out; have := HK3.out; have := HK4.out; omega
                                              case rel => exact ⟨(wrap64 (x12_4 + 1)), (by first | rfl | (simp; done) | (simp [*]; done)), H', ⟨by have := HJ1.out; have := HJ11.out; have := HK3.out; have := HK4.out; omega⟩, ⟨by (with_reducible repeat (first | apply Kd.R_alloc | apply Kd.R_drewN | apply Kd.R_drew)); exact HO_5.out⟩, ⟨by (with_reducible repeat (first | apply Kd.R_alloc | apply Kd.R_drewN | apply Kd.R_drew)); exact HO_7.out⟩, ⟨by repeat (first | (with_reducible first | exact HB.out | apply below_alloc | apply pw_below_drewN | apply below_drew1) | exact HB.out)⟩⟩
                                          · rw [if_neg c51] at H
                                            exact absurd H (by simp)
                                        · rw [if_neg c50] at H
                                          exact absurd H (by simp)
                                      · rw [if_neg c49] at H
                                        exact absurd H (by simp)
                                    · rw [if_neg c48] at H
                                      exact absurd H (by simp)
                                  · rw [if_neg c47] at H
                                    exact absurd H (by simp)
                                · rw [if_neg c46] at H
                                  exact absurd H (by simp)
                              · rw [if_neg c45] at H
                                have c45b0 : decide (x12_4 ≤ (rd t156 x9_3)) = false := decide_eq_false c45
                                clear c45
                                by_cases c53 : x9_3 > 1
                                · rw [if_pos c53] at H
                                  have c53b0 : decide (1 < x9_3) = true := decide_eq_true c53
                                  clear c53
                                  by_cases c54 : 0 ≤ (rd t156 (ji38))
                                  · rw [if_pos c54] at H
                                    have c54b0 : decide (0 ≤ (rd t156 (ji38))) = true := decide_eq_true c54
                                    clear c54
                                    by_cases c55 : (rd t156 (ji38)) < (t152.length : Int)
                                    · rw [if_pos c55] at H
                                      have c55b0 : decide ((rd t156 (ji38)) < (t152.length : Int)) = true := decide_eq_true c55
                                      clear c55
                                      obtain ⟨ji56, hji56⟩ : ∃ j_ : Int, (wrap64 (x9_3 - 2)) = j_ := ⟨_, rfl⟩
                                      replace H : (if 0 ≤ (ji56) then (if (ji56) < (t156.length : Int) then (if 0 ≤ (rd t156 (ji56)) then (if (rd t156 (ji56)) < (t152.length : Int) then (if 0 ≤ (rd t156 x9_3) then (if (rd t156 x9_3) < (t152.length : Int) then (if (wrap64 ((wrap64 ((rd t152 (rd t156 (ji38))) - (rd t152 (rd t156 (ji56))))) * (wrap64 ((rd t156 x9_3) - (rd t156 (ji38)))))) ≤ (wrap64 ((wrap64 ((rd t152 (rd t156 x9_3)) - (rd t152 (rd t156 (ji38))))) * (wrap64 ((rd t156 (ji38)) - (rd t156 (ji56)))))) then (some false) else (stowagelaw11_CurveCorners.l1 k4 t152 t156 (wrap64 (x9_3 + 1)))) else (none)) else (none)) else (none)) else (none)) else (none)) else (none)) = some r := by first | (rw [hji56] at H; exact H) | (simp only [hji56] at H ⊢; exact H)
                                      have hji56w : (IntKind.i64.wrap (x9_3 - 2)) = ji56 := (i64_w _).trans hji56
                                      by_cases c57 : 0 ≤ (ji56)
                                      · rw [if_pos c57] at H
                                        have c57b0 : decide (0 ≤ (ji56)) = true := decide_eq_true c57
                                        clear c57
                                        by_cases c58 : (ji56) < (t156.length : Int)
                                        · rw [if_pos c58] at H
                                          have c58b0 : decide ((ji56) < (t156.length : Int)) = true := decide_eq_true c58
                                          clear c58
                                          by_cases c59 : 0 ≤ (rd t156 (ji56))
                                          · rw [if_pos c59] at H
                                            have c59b0 : decide (0 ≤ (rd t156 (ji56))) = true := decide_eq_true c59
                                            clear c59
                                            by_cases c60 : (rd t156 (ji56)) < (t152.length : Int)
                                            · rw [if_pos c60] at H
                                              have c60b0 : decide ((rd t156 (ji56)) < (t152.length : Int)) = true := decide_eq_true c60
                                              clear c60
                                              by_cases c61 : 0 ≤ (rd t156 x9_3)
                                              · rw [if_pos c61] at H
                                                have c61b0 : decide (0 ≤ (rd t156 x9_3)) = true := decide_eq_true c61
                                                clear c61
                                                by_cases c62 : (rd t156 x9_3) < (t152.length : Int)
                                                · rw [if_pos c62] at H
                                                  have c62b0 : decide ((rd t156 x9_3) < (t152.length : Int)) = true := decide_eq_true c62
                                                  clear c62
                                                  by_cases c63 : (wrap64 ((wrap64 ((rd t152 (rd t156 (ji38))) - (rd t152 (rd t156 (ji56))))) * (wrap64 ((rd t156 x9_3) - (rd t156 (ji38)))))) ≤ (wrap64 ((wrap64 ((rd t152 (rd t156 x9_3)) - (rd t152 (rd t156 (ji38))))) * (wrap64 ((rd t156 (ji38)) - (rd t156 (ji56))))))
                                                  · rw [if_pos c63] at H
                                                    have c63b0 : decide ((wrap64 ((wrap64 ((rd t152 (rd t156 (ji38))) - (rd t152 (rd t156 (ji56))))) * (wrap64 ((rd t156 x9_3) - (rd t156 (ji38)))))) ≤ (wrap64 ((wrap64 ((rd t152 (rd t156 x9_3)) - (rd t152 (rd t156 (ji38))))) * (wrap64 ((rd t156 (ji38)) - (rd t156 (ji56))))))) = true := decide_eq_true c63
                                                    clear c63
                                                    obtain rfl := Option.some.inj H
                                                    have p169 : 0 ≤ ((rd t156 (ji38)) : Int) := of_decide_eq_true (by first | (with_reducible assumption) | assumption)
                                                    have q169 : (rd t156 (ji38)) < (t152.length : Int) := of_decide_eq_true (by first | (with_reducible assumption) | assumption)
                                                    obtain ⟨ad169, e169, hx169_0⟩ := Kd.at_int (Kd.R_reads' HO_5.out).2.2 (rd t156 (ji38)) p169 q169
                                                    cases e169
                                                    replace p169 := eq_true p169
                                                    replace q169 := eq_true q169
                                                    have p170 : 0 ≤ ((ji56) : Int) := of_decide_eq_true (by first | (with_reducible assumption) | assumption)
                                                    have q170 : (ji56) < (t156.length : Int) := of_decide_eq_true (by first | (with_reducible assumption) | assumption)
                                                    obtain ⟨ad170, e170, hx170_0⟩ := Kd.at_int (Kd.R_reads' HO_7.out).2.2 (ji56) p170 q170
                                                    obtain rfl : ad163 = ad170 := (by injection e170)
                                                    replace p170 := eq_true p170
                                                    replace q170 := eq_true q170
                                                    have p171 : 0 ≤ ((rd t156 (ji56)) : Int) := of_decide_eq_true (by first | (with_reducible assumption) | assumption)
                                                    have q171 : (rd t156 (ji56)) < (t152.length : Int) := of_decide_eq_true (by first | (with_reducible assumption) | assumption)
                                                    obtain ⟨ad171, e171, hx171_0⟩ := Kd.at_int (Kd.R_reads' HO_5.out).2.2 (rd t156 (ji56)) p171 q171
                                                    obtain rfl : ad169 = ad171 := (by injection e171)
                                                    replace p171 := eq_true p171
                                                    replace q171 := eq_true q171
                                                    have p172 : 0 ≤ ((rd t156 x9_3) : Int) := of_decide_eq_true (by first | (with_reducible assumption) | assumption)
                                                    have q172 : (rd t156 x9_3) < (t152.length : Int) := of_decide_eq_true (by first | (with_reducible assumption) | assumption)
                                                    obtain ⟨ad172, e172, hx172_0⟩ := Kd.at_int (Kd.R_reads' HO_5.out).2.2 (rd t156 x9_3) p172 q172
                                                    obtain rfl : ad169 = ad172 := (by injection e172)
                                                    replace p172 := eq_true p172
                                                    replace q172 := eq_true q172
                                                    have p173 : 0 ≤ ((rd t156 (ji38)) : Int) := of_decide_eq_true (by first | (with_reducible assumption) | assumption)
                                                    have q173 : (rd t156 (ji38)) < (t152.length : Int) := of_decide_eq_true (by first | (with_reducible assumption) | assumption)
                                                    obtain ⟨ad173, e173, hx173_0⟩ := Kd.at_int (Kd.R_reads' HO_5.out).2.2 (rd t156 (ji38)) p173 q173
                                                    obtain rfl : ad169 = ad173 := (by injection e173)
                                                    replace p173 := eq_true p173
                                                    replace q173 := eq_true q173
                                                    have p174 : 0 ≤ ((ji56) : Int) := of_decide_eq_true (by first | (with_reducible assumption) | assumption)
                                                    have q174 : (ji56) < (t156.length : Int) := of_decide_eq_true (by first | (with_reducible assumption) | assumption)
                                                    obtain ⟨ad174, e174, hx174_0⟩ := Kd.at_int (Kd.R_reads' HO_7.out).2.2 (ji56) p174 q174
                                                    obtain rfl : ad163 = ad174 := (by injection e174)
                                                    replace p174 := eq_true p174
                                                    replace q174 := eq_true q174
                                                    go_wp2
                                                    repeat (go_quiet (fail); try go_wp2)
                                                    go_ret
                                                    exact ⟨by first | rfl | (simp [errW_none, errW_some] <;> rfl) | (simp only [← hji38, ← hji56]; first | rfl | (simp [errW_none, errW_some] <;> rfl)) | (simp [*, errW_none, errW_some] <;> rfl), by repeat (first | (with_reducible first | exact HB.out | apply below_alloc | apply pw_below_drewN | apply below_drew1) | exact HB.out)⟩
                                                  · rw [if_neg c63] at H
                                                    have c63b0 : decide ((wrap64 ((wrap64 ((rd t152 (rd t156 (ji38))) - (rd t152 (rd t156 (ji56))))) * (wrap64 ((rd t156 x9_3) - (rd t156 (ji38)))))) ≤ (wrap64 ((wrap64 ((rd t152 (rd t156 x9_3)) - (rd t152 (rd t156 (ji38))))) * (wrap64 ((rd t156 (ji38)) - (rd t156 (ji56))))))) = false := decide_eq_false c63
                                                    clear c63
                                                    have H' := Aside0.mk H
                                                    clear H
                                                    have p169 : 0 ≤ ((rd t156 (ji38)) : Int) := of_decide_eq_true (by first | (with_reducible assumption) | assumption)
                                                    have q169 : (rd t156 (ji38)) < (t152.length : Int) := of_decide_eq_true (by first | (with_reducible assumption) | assumption)
                                                    obtain ⟨ad169, e169, hx169_0⟩ := Kd.at_int (Kd.R_reads' HO_5.out).2.2 (rd t156 (ji38)) p169 q169
                                                    cases e169
                                                    replace p169 := eq_true p169
                                                    replace q169 := eq_true q169
                                                    have p170 : 0 ≤ ((ji56) : Int) := of_decide_eq_true (by first | (with_reducible assumption) | assumption)
                                                    have q170 : (ji56) < (t156.length : Int) := of_decide_eq_true (by first | (with_reducible assumption) | assumption)
                                                    obtain ⟨ad170, e170, hx170_0⟩ := Kd.at_int (Kd.R_reads' HO_7.out).2.2 (ji56) p170 q170
                                                    obtain rfl : ad163 = ad170 := (by injection e170)
                                                    replace p170 := eq_true p170
                                                    replace q170 := eq_true q170
                                                    have p171 : 0 ≤ ((rd t156 (ji56)) : Int) := of_decide_eq_true (by first | (with_reducible assumption) | assumption)
                                                    have q171 : (rd t156 (ji56)) < (t152.length : Int) := of_decide_eq_true (by first | (with_reducible assumption) | assumption)
                                                    obtain ⟨ad171, e171, hx171_0⟩ := Kd.at_int (Kd.R_reads' HO_5.out).2.2 (rd t156 (ji56)) p171 q171
                                                    obtain rfl : ad169 = ad171 := (by injection e171)
                                                    replace p171 := eq_true p171
                                                    replace q171 := eq_true q171
                                                    have p172 : 0 ≤ ((rd t156 x9_3) : Int) := of_decide_eq_true (by first | (with_reducible assumption) | assumption)
                                                    have q172 : (rd t156 x9_3) < (t152.length : Int) := of_decide_eq_true (by first | (with_reducible assumption) | assumption)
                                                    obtain ⟨ad172, e172, hx172_0⟩ := Kd.at_int (Kd.R_reads' HO_5.out).2.2 (rd t156 x9_3) p172 q172
                                                    obtain rfl : ad169 = ad172 := (by injection e172)
                                                    replace p172 := eq_true p172
                                                    replace q172 := eq_true q172
                                                    have p173 : 0 ≤ ((rd t156 (ji38)) : Int) := of_decide_eq_true (by first | (with_reducible assumption) | assumption)
                                                    have q173 : (rd t156 (ji38)) < (t152.length : Int) := of_decide_eq_true (by first | (with_reducible assumption) | assumption)
                                                    obtain ⟨ad173, e173, hx173_0⟩ := Kd.at_int (Kd.R_reads' HO_5.out).2.2 (rd t156 (ji38)) p173 q173
                                                    obtain rfl : ad169 = ad173 := (by injection e173)
                                                    replace p173 := eq_true p173
                                                    replace q173 := eq_true q173
                                                    have p174 : 0 ≤ ((ji56) : Int) := of_decide_eq_true (by first | (with_reducible assumption) | assumption)
                                                    have q174 : (ji56) < (t156.length : Int) := of_decide_eq_true (by first | (with_reducible assumption) | assumption)
                                                    obtain ⟨ad174, e174, hx174_0⟩ := Kd.at_int (Kd.R_reads' HO_7.out).2.2 (ji56) p174 q174
                                                    obtain rfl : ad163 = ad174 := (by injection e174)
                                                    replace p174 := eq_true p174
                                                    replace q174 := eq_true q174
                                                    go_wp2
                                                    repeat (go_quiet (fail); try go_wp2)
                                                    go_roundg k4
                                                    case measure => have := HJ1.out; have := HJ11.out; have := HK3.out; have := HK4.out; omega
                                                    case rel => exact ⟨(wrap64 (x9_3 + 1)), (by first | rfl | (simp; done) | (simp [*]; done)), H', ⟨by have := HJ1.out; have := HJ11.out; have := HK3.out; have := HK4.out; omega⟩, ⟨by (with_reducible repeat (first | apply Kd.R_alloc | apply Kd.R_drewN | apply Kd.R_drew)); exact HO_5.out⟩, ⟨by (with_reducible repeat (first | apply Kd.R_alloc | apply Kd.R_drewN | apply Kd.R_drew)); exact HO_7.out⟩, ⟨by repeat (first | (with_reducible first | exact HB.out | apply below_alloc | apply pw_below_drewN | apply below_drew1) | exact HB.out)⟩⟩
                                                · rw [if_neg c62] at H
                                                  exact absurd H (by simp)
                                              · rw [if_neg c61] at H
                                                exact absurd H (by simp)
                                            · rw [if_neg c60] at H
                                              exact absurd H (by simp)
                                          · rw [if_neg c59] at H
                                            exact absurd H (by simp)
                                        · rw [if_neg c58] at H
                                          exact absurd H (by simp)
                                      · rw [if_neg c57] at H
                                        exact absurd H (by simp)
                                    · rw [if_neg c55] at H
                                      exact absurd H (by simp)
                                  · rw [if_neg c54] at H
                                    exact absurd H (by simp)
                                · rw [if_neg c53] at H
                                  have c53b0 : decide (1 < x9_3) = false := decide_eq_false c53
                                  clear c53
                                  have H' := Aside0.mk H
                                  clear H
                                  go_wp2
                                  repeat (go_quiet (fail); try go_wp2)
                                  go_roundg k4
                                  case measure => have := HJ1.out; have := HJ11.out; have := HK3.out; have := HK4.out; omega
                                  case rel => exact ⟨(wrap64 (x9_3 + 1)), (by first | rfl | (simp; done) | (simp [*]; done)), H', ⟨by have := HJ1.out; have := HJ11.out; have := HK3.out; have := HK4.out; omega⟩, ⟨by (with_reducible repeat (first | apply Kd.R_alloc | apply Kd.R_drewN | apply Kd.R_drew)); exact HO_5.out⟩, ⟨by (with_reducible repeat (first | apply Kd.R_alloc | apply Kd.R_drewN | apply Kd.R_drew)); exact HO_7.out⟩, ⟨by repeat (first | (with_reducible first | exact HB.out | apply below_alloc | apply pw_below_drewN | apply below_drew1) | exact HB.out)⟩⟩
                      · rw [if_neg c41] at H
                        exact absurd H (by simp)
                    · rw [if_neg c40] at H
                      exact absurd H (by simp)
                  · rw [if_neg c39] at H
                    exact absurd H (by simp)
                · rw [if_neg c37] at H
                  have c37b0 : decide (x9_3 < (t156.length : Int)) = false := decide_eq_false c37
                  clear c37
                  obtain rfl := Option.some.inj H
                  obtain ⟨Ao64, co64, eo64⟩ := Kd.R_slice HO_7.out
                  subst eo64
                  go_wp2
                  repeat (go_quiet (fail); try go_wp2)
                  go_ret
                  exact ⟨by first | rfl | (simp [errW_none, errW_some] <;> rfl) | (simp [*, errW_none, errW_some] <;> rfl), by repeat (first | (with_reducible first | exact HB.out | apply below_alloc | apply pw_below_drewN | apply below_drew1) | exact HB.out)⟩

/-- THE ONE PURE STATEMENT of stowagelaw11_CurveCorners: yours. -/
def stowagelaw11_CurveCorners.Pure : Prop := ∀ (l0 : List Int), l0.length ≤ maxLen → l0.length * 2 ≤ 140737488351232 → (∀ x ∈ l0, (Lit.int .u16 x).wf = true) → ∃ k, stowagelaw11_CurveCorners.f k l0 = some true
theorem stowagelaw11_CurveCorners.walk (P : stowagelaw11_CurveCorners.Pure) (a0 : Option Addr) (len0 cap0 : Nat) (z0 : List Int) (w : World) (w0 : (a0 = none ∧ len0 = 0 ∧ cap0 = 0 ∧ z0 = []) ∨ ∃ x, a0 = some x ∧ len0 ≤ cap0 ∧ cap0 ≤ maxLen ∧ z0.length = cap0 ∧ (∀ i, i < z0.length → w.cell? (x.add i) = some (.int .u16 (z0.getD i 0))) ∧ ∀ n ∈ z0, (Lit.int .u16 n).wf = true) (y0 : len0 * 2 ≤ 140737488351232) :
    Calls Try.prog 5 #[.slice a0 len0 cap0] w fun e w' => e = .returned (.bool true) ∧ Below w.heap.size w w' := by
  obtain ⟨l0, rfl, hr0, hm0, hw0, hc0⟩ := ReadsInt.ofRowC w0
  obtain ⟨k, h⟩ := P l0 hm0 y0 hw0
  refine (stowagelaw11_CurveCorners.calls k _ _ l0 true w (Kd.C_of_reads (d := (0 : Int)) (h1 := fun _ => rfl) hr0) hc0 h).mono ?_
  rintro e w' ⟨rfl, hd⟩
  exact ⟨rfl, hd⟩

end Go.Proofs.Ytlgikpfjonnhmaa.Q
