/- The law CurveSteep: its walk. (The kit's print tool wrote these lines; they are laid out in texts of this claim's own.) -/
import Derived.Test.YtlgikpfjonnhmaaQ0
import Derived.Test.YtlgikpfjonnhmaaQcurveHull
import Derived.Test.YtlgikpfjonnhmaaQstowagelaw11awake
import Derived.Test.YtlgikpfjonnhmaaQstowageref01SameInts
namespace Go.Proofs.Ytlgikpfjonnhmaa.Q
open Go.RowKit Go.Proofs.YtlgikpfjonnhmaaW.PrintWords Go.Proofs.YtlgikpfjonnhmaaW.PrintLast Go.Proofs.YtlgikpfjonnhmaaW.PrintMore
attribute [local go_sem] max2_int min2_int max_two min_two max_three min_three max_four min_four   -- for this text's walks alone
set_option linter.unusedVariables false
set_option linter.unusedSimpArgs false

/-! ### stowagelaw11_CurveSteep: function 6 -/
mutual
def stowagelaw11_CurveSteep.l0 : Nat → Int → Int → List Int → List Int → Int → Option (Bool)
  | 0, _, _, _, _, _ => none
  | k + 1, x1, x5, x6, x7, x8 => if x8 < x5 then (if 0 ≤ x8 then (if x8 < (x6.length : Int) then (if x6.length < 17592186044416 then (if x8 < (x7.length : Int) then (if x7.length < 17592186044416 then (stowagelaw11_CurveSteep.l0 k x1 x5 (x6 ++ [wrap64 ((wrap64 ((rd x6 x8) + 1000)) - (wrap64 (3 * x8)))]) (x7 ++ [wrap64 ((rd x7 x8) + (wrap64 (x1)))]) (wrap64 (x8 + 1))) else (none)) else (none)) else (none)) else (none)) else (none)) else ((curve_Hull.f k x6).bind fun bt161 => ((curve_Hull.f k x7).bind fun bt165 => ((stowagelaw11_awake.f k).bind fun t169 => (if t169 = true then (if bt161.2 = 0 then (if bt165.2 = 0 then (if (bt161.1.length : Int) = (wrap64 (x5 + 1)) then ((stowageref01_SameInts.f k bt165.1 (([0, x5] : List Int))).bind fun t173 => (stowagelaw11_CurveSteep.j1 k x5 bt161.1 (!t173))) else (stowagelaw11_CurveSteep.j1 k x5 bt161.1 true)) else (stowagelaw11_CurveSteep.j1 k x5 bt161.1 true)) else (stowagelaw11_CurveSteep.j1 k x5 bt161.1 true)) else (stowagelaw11_CurveSteep.j1 k x5 bt161.1 true)))))
def stowagelaw11_CurveSteep.j1 : Nat → Int → List Int → Bool → Option (Bool)
  | 0, _, _, _ => none
  | k + 1, x5, x9, x79 => if x79 = true then (some false) else (stowagelaw11_CurveSteep.l1 k x5 x9 0)
def stowagelaw11_CurveSteep.l1 : Nat → Int → List Int → Int → Option (Bool)
  | 0, _, _, _ => none
  | k + 1, x5, x9, x13 => if x13 ≤ x5 then (if 0 ≤ x13 then (if x13 < (x9.length : Int) then (if (rd x9 x13) = x13 then (stowagelaw11_CurveSteep.l1 k x5 x9 (wrap64 (x13 + 1))) else (some false)) else (none)) else (none)) else (some true)
end
def stowagelaw11_CurveSteep.f (k : Nat) (a0 : Int) (a1 : Int) : Option (Bool) := stowagelaw11_CurveSteep.l0 k a1 (wrap64 ((wrap64 (Int.tmod a0 100)) + 2)) (([0] : List Int)) (([0] : List Int)) 0
theorem stowagelaw11_CurveSteep.mono_l : ∀ k, (∀ y0 y1 y2 y3 y4, LeO (stowagelaw11_CurveSteep.l0 k y0 y1 y2 y3 y4) (stowagelaw11_CurveSteep.l0 (k + 1) y0 y1 y2 y3 y4)) ∧ (∀ y0 y1 y2, LeO (stowagelaw11_CurveSteep.j1 k y0 y1 y2) (stowagelaw11_CurveSteep.j1 (k + 1) y0 y1 y2)) ∧ (∀ y0 y1 y2, LeO (stowagelaw11_CurveSteep.l1 k y0 y1 y2) (stowagelaw11_CurveSteep.l1 (k + 1) y0 y1 y2))
  | 0 => ⟨fun _ _ _ _ _ r h => by simp [stowagelaw11_CurveSteep.l0] at h, fun _ _ _ r h => by simp [stowagelaw11_CurveSteep.j1] at h, fun _ _ _ r h => by simp [stowagelaw11_CurveSteep.l1] at h⟩
  | k + 1 => by
    obtain ⟨ih0, ih1, ih2⟩ := stowagelaw11_CurveSteep.mono_l k
    refine ⟨?_, ?_, ?_⟩
    · intro y0 y1 y2 y3 y4
      unfold stowagelaw11_CurveSteep.l0
      repeat' first
      | (with_reducible exact ih0 _ _ _ _ _)
      | (with_reducible exact ih1 _ _ _)
      | (with_reducible exact ih2 _ _ _)
      | (with_reducible exact curve_Hull.mono _ _)
      | (with_reducible exact stowagelaw11_awake.mono _)
      | (with_reducible exact stowageref01_SameInts.mono _ _ _)
      | (with_reducible exact LeO.refl _)
      | (with_reducible exact LeO.none _)
      | (with_reducible refine LeO.ite ?_ ?_)
      | (with_reducible refine LeO.bind ?_ (fun _ => ?_))
      | exact ih0 _ _ _ _ _
      | exact ih1 _ _ _
      | exact ih2 _ _ _
      | exact curve_Hull.mono _ _
      | exact stowagelaw11_awake.mono _
      | exact stowageref01_SameInts.mono _ _ _
      | exact LeO.none _
      | refine LeO.ite ?_ ?_
      | refine LeO.bind ?_ (fun _ => ?_)
    · intro y0 y1 y2
      unfold stowagelaw11_CurveSteep.j1
      repeat' first
      | (with_reducible exact ih0 _ _ _ _ _)
      | (with_reducible exact ih1 _ _ _)
      | (with_reducible exact ih2 _ _ _)
      | (with_reducible exact curve_Hull.mono _ _)
      | (with_reducible exact stowagelaw11_awake.mono _)
      | (with_reducible exact stowageref01_SameInts.mono _ _ _)
      | (with_reducible exact LeO.refl _)
      | (with_reducible exact LeO.none _)
      | (with_reducible refine LeO.ite ?_ ?_)
      | (with_reducible refine LeO.bind ?_ (fun _ => ?_))
      | exact ih0 _ _ _ _ _
      | exact ih1 _ _ _
      | exact ih2 _ _ _
      | exact curve_Hull.mono _ _
      | exact stowagelaw11_awake.mono _
      | exact stowageref01_SameInts.mono _ _ _
      | exact LeO.none _
      | refine LeO.ite ?_ ?_
      | refine LeO.bind ?_ (fun _ => ?_)
    · intro y0 y1 y2
      unfold stowagelaw11_CurveSteep.l1
      repeat' first
      | (with_reducible exact ih0 _ _ _ _ _)
      | (with_reducible exact ih1 _ _ _)
      | (with_reducible exact ih2 _ _ _)
      | (with_reducible exact curve_Hull.mono _ _)
      | (with_reducible exact stowagelaw11_awake.mono _)
      | (with_reducible exact stowageref01_SameInts.mono _ _ _)
      | (with_reducible exact LeO.refl _)
      | (with_reducible exact LeO.none _)
      | (with_reducible refine LeO.ite ?_ ?_)
      | (with_reducible refine LeO.bind ?_ (fun _ => ?_))
      | exact ih0 _ _ _ _ _
      | exact ih1 _ _ _
      | exact ih2 _ _ _
      | exact curve_Hull.mono _ _
      | exact stowagelaw11_awake.mono _
      | exact stowageref01_SameInts.mono _ _ _
      | exact LeO.none _
      | refine LeO.ite ?_ ?_
      | refine LeO.bind ?_ (fun _ => ?_)
theorem stowagelaw11_CurveSteep.mono : ∀ a0 a1 k, LeO (stowagelaw11_CurveSteep.f k a0 a1) (stowagelaw11_CurveSteep.f (k + 1) a0 a1) := by
  intro a0 a1 k
  obtain ⟨ih0, ih1, ih2⟩ := stowagelaw11_CurveSteep.mono_l k
  unfold stowagelaw11_CurveSteep.f
  repeat' first
      | (with_reducible exact ih0 _ _ _ _ _)
      | (with_reducible exact ih1 _ _ _)
      | (with_reducible exact ih2 _ _ _)
      | (with_reducible exact curve_Hull.mono _ _)
      | (with_reducible exact stowagelaw11_awake.mono _)
      | (with_reducible exact stowageref01_SameInts.mono _ _ _)
      | (with_reducible exact LeO.refl _)
      | (with_reducible exact LeO.none _)
      | (with_reducible refine LeO.ite ?_ ?_)
      | (with_reducible refine LeO.bind ?_ (fun _ => ?_))
      | exact ih0 _ _ _ _ _
      | exact ih1 _ _ _
      | exact ih2 _ _ _
      | exact curve_Hull.mono _ _
      | exact stowagelaw11_awake.mono _
      | exact stowageref01_SameInts.mono _ _ _
      | exact LeO.none _
      | refine LeO.ite ?_ ?_
      | refine LeO.bind ?_ (fun _ => ?_)
set_option maxHeartbeats 8000000 in
set_option maxRecDepth 100000 in
theorem stowagelaw11_CurveSteep.calls (k : Nat) (a0 : Int) (a1 : Int) (r : Bool) (w : World) (h : stowagelaw11_CurveSteep.f k a0 a1 = some r) :
    Calls Try.prog 6 #[.int .u8 a0, .int .u16 a1] w fun e w' => e = .returned (.bool r) ∧ Below w.heap.size w w' := by
  have HB := Aside0.mk (Below.refl w.heap.size w)
  have H : (stowagelaw11_CurveSteep.l0 k a1 (wrap64 ((wrap64 (Int.tmod a0 100)) + 2)) (([0] : List Int)) (([0] : List Int)) 0) = some r := h
  clear h
  obtain ⟨y147, hy147⟩ : ∃ y_ : List Int, y_ = (([0] : List Int)) := ⟨_, rfl⟩
  replace H : (stowagelaw11_CurveSteep.l0 k a1 (wrap64 ((wrap64 (Int.tmod a0 100)) + 2)) y147 (([0] : List Int)) 0) = some r := by first | (rw [hy147]; with_reducible exact H) | (have H2_ := (Option.bind_some _ _).symm.trans H; rw [hy147]; with_reducible exact H2_) | (have H2_ := (Option.bind_some _ _).symm.trans H; with_reducible exact H2_) | with_reducible exact H | (rw [hy147]; exact H) | exact H
  have Ny147 := Aside0.mk hy147
  clear hy147
  obtain ⟨y150, hy150⟩ : ∃ y_ : List Int, y_ = (([0] : List Int)) := ⟨_, rfl⟩
  replace H : (stowagelaw11_CurveSteep.l0 k a1 (wrap64 ((wrap64 (Int.tmod a0 100)) + 2)) y147 y150 0) = some r := by first | (rw [hy150]; with_reducible exact H) | (have H2_ := (Option.bind_some _ _).symm.trans H; rw [hy150]; with_reducible exact H2_) | (have H2_ := (Option.bind_some _ _).symm.trans H; with_reducible exact H2_) | with_reducible exact H | (rw [hy150]; exact H) | exact H
  have Ny150 := Aside0.mk hy150
  clear hy150
  have H' := Aside0.mk H
  clear H
  go_enter Try.func6, Try.ntmps6
  go_wp2_with (first | ((with_reducible refine gate_dst (N := 18) rfl ?_); (try (refine gate_guard (by rfl) ?_; dsimp only)); refine Kd.R_lit (Kd.int .i64) _ 3 ?hg (N := 18) ?hd (xs := ([0] : List Int)) (inner := [.int .i64 0]) (ok := fun _ => True) (okp := fun _ => True) ?hr ?hp (fun _ hk => hk) trivial (Below.refl _ _) (Nat.le_refl _) (by simp) ?_; (case hd => rfl); (case hg => rfl); (case hr => first | (go_simp; done) | (go_simp; rfl)); (case hp => exact (Reps.one (show Kd.M (Kd.int .i64) _ _ _ 0 [.int .i64 0] from rfl) (Reps.none _ _))); intro v148 w3 ho4 hb hg_ hnew_; clear hg_ hnew_; (first | rw [← Ny147.out] at ho4 | (simp only [Int.reduceToNat] at ho4; rw [← Ny147.out] at ho4)); have n0_ := Aside0.mk (Kd.R_lower ho4 (below_size (by repeat (first | (with_reducible first | exact HB.out | apply below_alloc | apply pw_below_drewN | apply below_drew1) | exact HB.out)))); have n1_ := Aside0.mk (below_step (by repeat (first | (with_reducible first | exact HB.out | apply below_alloc | apply pw_below_drewN | apply below_drew1) | exact HB.out)) hb); clear HB; have HO149 := n0_; have HB := n1_; clear n0_ n1_; clear hb ho4) | ((with_reducible refine gate_dst (N := 19) rfl ?_); (try (refine gate_guard (by rfl) ?_; dsimp only)); refine Kd.R_lit (Kd.int .i64) _ 3 ?hg (N := 19) ?hd (xs := ([0] : List Int)) (inner := [.int .i64 0]) (ok := fun _ => True) (okp := fun _ => True) ?hr ?hp (fun _ hk => hk) trivial (Below.refl _ _) (Nat.le_refl _) (by simp) ?_; (case hd => rfl); (case hg => rfl); (case hr => first | (go_simp; done) | (go_simp; rfl)); (case hp => exact (Reps.one (show Kd.M (Kd.int .i64) _ _ _ 0 [.int .i64 0] from rfl) (Reps.none _ _))); intro v151 w5 ho6 hb hg_ hnew_; clear hg_ hnew_; (first | rw [← Ny150.out] at ho6 | (simp only [Int.reduceToNat] at ho6; rw [← Ny150.out] at ho6)); have n0_ := Aside0.mk (Kd.R_elder' (by (with_reducible repeat (first | apply Kd.R_alloc | apply Kd.R_drewN | apply Kd.R_drew)); exact HO149.out) (Kd.R_base ho6) hb); have n1_ := Aside0.mk (Kd.R_lower (Kd.R_new' ho6 (Kd.R_lt (by (with_reducible repeat (first | apply Kd.R_alloc | apply Kd.R_drewN | apply Kd.R_drew)); exact HO149.out))) (below_size (by repeat (first | (with_reducible first | exact HB.out | apply below_alloc | apply pw_below_drewN | apply below_drew1) | exact HB.out)))); have n2_ := Aside0.mk (below_step (by repeat (first | (with_reducible first | exact HB.out | apply below_alloc | apply pw_below_drewN | apply below_drew1) | exact HB.out)) hb); clear HO149; clear HB; have HO149 := n0_; have HO152 := n1_; have HB := n2_; clear n0_ n1_ n2_; clear hb ho6))
  go_loopg [6, 7, 8] k (fun kq v6 v7 v8 w' => ∃ (x6_1 : List Int) (x7_1 : List Int) (x8_1 : Int), v8 = .int .i64 x8_1 ∧ Aside0 (stowagelaw11_CurveSteep.l0 kq a1 (wrap64 ((wrap64 (Int.tmod a0 100)) + 2)) x6_1 x7_1 x8_1 = some r) ∧ Aside0 (kq ≤ k) ∧ Aside0 (Kd.R (Kd.int .i64) 3 w' w.heap.size (fun k_ => some k_ ≠ (v7 : Value).ownBlock) v6 x6_1) ∧ Aside0 (Kd.R (Kd.int .i64) 3 w' w.heap.size (fun k_ => some k_ ≠ (v6 : Value).ownBlock) v7 x7_1) ∧ Aside0 (Below w.heap.size w w'))
  case atStart => exact ⟨(y147), (y150), (0), (by first | rfl | (simp; done) | (simp [*]; done)), H', ⟨Nat.le_refl _⟩, ⟨by (with_reducible repeat (first | apply Kd.R_alloc | apply Kd.R_drewN | apply Kd.R_drew)); exact Kd.R_mono HO149.out (fun _ hk => hk.2)⟩, ⟨by (with_reducible repeat (first | apply Kd.R_alloc | apply Kd.R_drewN | apply Kd.R_drew)); exact Kd.R_mono HO152.out (fun _ hk => hk.2)⟩, ⟨by repeat (first | (with_reducible first | exact HB.out | apply below_alloc | apply pw_below_drewN | apply below_drew1) | exact HB.out)⟩⟩
  case round =>
    clear H'
    try clear p2
    try clear c6
    try clear p6
    obtain ⟨x6_1, x7_1, x8_1, rfl, HA, HK1, HO_6, HO_7, HB⟩ := hrel
    cases gk with
    | zero => exact absurd HA.out (by simp [stowagelaw11_CurveSteep.l0])
    | succ k1 =>
      have H := HA.out
      clear HA
      simp only [stowagelaw11_CurveSteep.l0] at H
      by_cases c7 : x8_1 < (wrap64 ((wrap64 (Int.tmod a0 100)) + 2))
      · rw [if_pos c7] at H
        have c7b0 : decide (x8_1 < (wrap64 ((wrap64 (Int.tmod a0 100)) + 2))) = true := decide_eq_true c7
        clear c7
        by_cases c8 : 0 ≤ x8_1
        · rw [if_pos c8] at H
          have c8b0 : decide (0 ≤ x8_1) = true := decide_eq_true c8
          clear c8
          by_cases c9 : x8_1 < (x6_1.length : Int)
          · rw [if_pos c9] at H
            have c9b0 : decide (x8_1 < (x6_1.length : Int)) = true := decide_eq_true c9
            clear c9
            by_cases c10 : x6_1.length < 17592186044416
            · rw [if_pos c10] at H
              have LMc10 := Aside0.mk c10
              clear c10
              obtain ⟨y154, hy154⟩ : ∃ y_ : List Int, y_ = (x6_1 ++ [wrap64 ((wrap64 ((rd x6_1 x8_1) + 1000)) - (wrap64 (3 * x8_1)))]) := ⟨_, rfl⟩
              replace H : (if x8_1 < (x7_1.length : Int) then (if x7_1.length < 17592186044416 then (stowagelaw11_CurveSteep.l0 k1 a1 (wrap64 ((wrap64 (Int.tmod a0 100)) + 2)) y154 (x7_1 ++ [wrap64 ((rd x7_1 x8_1) + (wrap64 (a1)))]) (wrap64 (x8_1 + 1))) else (none)) else (none)) = some r := by first | (rw [hy154]; with_reducible exact H) | (have H2_ := (Option.bind_some _ _).symm.trans H; rw [hy154]; with_reducible exact H2_) | (have H2_ := (Option.bind_some _ _).symm.trans H; with_reducible exact H2_) | with_reducible exact H | (rw [hy154]; exact H) | exact H
              have Ny154 := Aside0.mk hy154
              clear hy154
              by_cases c11 : x8_1 < (x7_1.length : Int)
              · rw [if_pos c11] at H
                have c11b0 : decide (x8_1 < (x7_1.length : Int)) = true := decide_eq_true c11
                clear c11
                by_cases c12 : x7_1.length < 17592186044416
                · rw [if_pos c12] at H
                  have LMc12 := Aside0.mk c12
                  clear c12
                  obtain ⟨y158, hy158⟩ : ∃ y_ : List Int, y_ = (x7_1 ++ [wrap64 ((rd x7_1 x8_1) + (wrap64 (a1)))]) := ⟨_, rfl⟩
                  replace H : (stowagelaw11_CurveSteep.l0 k1 a1 (wrap64 ((wrap64 (Int.tmod a0 100)) + 2)) y154 y158 (wrap64 (x8_1 + 1))) = some r := by first | (rw [hy158]; with_reducible exact H) | (have H2_ := (Option.bind_some _ _).symm.trans H; rw [hy158]; with_reducible exact H2_) | (have H2_ := (Option.bind_some _ _).symm.trans H; with_reducible exact H2_) | with_reducible exact H | (rw [hy158]; exact H) | exact H
                  have Ny158 := Aside0.mk hy158
                  clear hy158
                  have H' := Aside0.mk H
                  clear H
                  obtain ⟨Ao13, co13, eo13⟩ := Kd.R_slice HO_6.out
                  subst eo13
                  have p153 : 0 ≤ (x8_1 : Int) := of_decide_eq_true (by first | (with_reducible assumption) | assumption)
                  have q153 : x8_1 < (x6_1.length : Int) := of_decide_eq_true (by first | (with_reducible assumption) | assumption)
                  obtain ⟨ad153, e153, hx153_0⟩ := Kd.at_int (Kd.R_reads' HO_6.out).2.2 x8_1 p153 q153
                  cases e153
                  replace p153 := eq_true p153
                  replace q153 := eq_true q153
                  go_wp2_with (first | ((with_reducible refine gate_builtin (b := .append) (xs := #[.tmp 25, .tmp 34]) rfl ?_); (try (refine gate_guard (by rfl) ?_; dsimp only)); at_builtin; refine Kd.R_append (Kd.int .i64) (w0 := w) w.heap.size rfl (.tmp 25) (.tmp 34) 23 3 (.int .i64 0) 8 rfl Try.underlying23 info3 rfl (by decide) (by omega) (.slice (some ad153) x6_1.length co13) x6_1 (wrap64 ((wrap64 ((rd x6_1 x8_1) + 1000)) - (wrap64 (3 * x8_1)))) [.int .i64 (wrap64 ((wrap64 ((rd x6_1 x8_1) + 1000)) - (wrap64 (3 * x8_1))))] (fun k_ => some k_ ≠ (u7 : Value).ownBlock) (fun _ => False) rfl rfl ?aP (fun _ hk => hk.elim) ?aF ?aO ?aB ?aS ?aL ?_; (case aP => exact rfl); (case aB => exact (by repeat (first | (with_reducible first | exact HB.out | apply below_alloc | apply pw_below_drewN | apply below_drew1) | exact HB.out))); (case aF => exact (fun k_ hk => Kd.fresh' (Kd.R_lt (by (with_reducible repeat (first | apply Kd.R_alloc | apply Kd.R_drewN | apply Kd.R_drew)); exact HO_7.out)) k_ hk)); (case aO => exact (by (with_reducible repeat (first | apply Kd.R_alloc | apply Kd.R_drewN | apply Kd.R_drew)); exact HO_6.out)); (case aS => exact (below_size (by repeat (first | (with_reducible first | exact HB.out | apply below_alloc | apply pw_below_drewN | apply below_drew1) | exact HB.out)))); (case aL => have := LMc10.out; omega); intro v155 w14 ho hb hg hat; rw [← Ny154.out] at ho; have n0_ := Aside0.mk (Kd.R_after (ok := (fun _ => True)) (by (with_reducible repeat (first | apply Kd.R_alloc | apply Kd.R_drewN | apply Kd.R_drew)); exact Kd.R_mono HO_7.out (fun _ hk => ⟨trivial, hk⟩)) hg hat); have n1_ := Aside0.mk (hb); have n2_ := Aside0.mk (ho); clear HO_7; clear HB; clear HO_6; have HO_7 := n0_; have HB := n1_; have HO156 := n2_; clear n0_ n1_ n2_; clear ho hb hg hat; obtain ⟨Ao15, co15, eo15⟩ := Kd.R_slice HO_7.out; subst eo15; have p157 : 0 ≤ (x8_1 : Int) := of_decide_eq_true (by first | (with_reducible assumption) | assumption); have q157 : x8_1 < (x7_1.length : Int) := of_decide_eq_true (by first | (with_reducible assumption) | assumption); obtain ⟨ad157, e157, hx157_0⟩ := Kd.at_int (Kd.R_reads' HO_7.out).2.2 x8_1 p157 q157; cases e157; replace p157 := eq_true p157; replace q157 := eq_true q157) | ((with_reducible refine gate_builtin (b := .append) (xs := #[.tmp 36, .tmp 44]) rfl ?_); (try (refine gate_guard (by rfl) ?_; dsimp only)); at_builtin; refine Kd.R_append (Kd.int .i64) (w0 := w) w.heap.size rfl (.tmp 36) (.tmp 44) 23 3 (.int .i64 0) 8 rfl Try.underlying23 info3 rfl (by decide) (by omega) (.slice (some ad157) x7_1.length co15) x7_1 (wrap64 ((rd x7_1 x8_1) + (wrap64 (a1)))) [.int .i64 (wrap64 ((rd x7_1 x8_1) + (wrap64 (a1))))] (fun k_ => some k_ ≠ (v155 : Value).ownBlock) (fun _ => False) rfl rfl ?aP (fun _ hk => hk.elim) ?aF ?aO ?aB ?aS ?aL ?_; (case aP => exact rfl); (case aB => exact (by repeat (first | (with_reducible first | exact HB.out | apply below_alloc | apply pw_below_drewN | apply below_drew1) | exact HB.out))); (case aF => exact (fun k_ hk => Kd.fresh' (Kd.R_lt (by (with_reducible repeat (first | apply Kd.R_alloc | apply Kd.R_drewN | apply Kd.R_drew)); exact HO156.out)) k_ hk)); (case aO => exact (by (with_reducible repeat (first | apply Kd.R_alloc | apply Kd.R_drewN | apply Kd.R_drew)); exact Kd.R_mono HO_7.out (fun _ hk => hk.2))); (case aS => exact (below_size (by repeat (first | (with_reducible first | exact HB.out | apply below_alloc | apply pw_below_drewN | apply below_drew1) | exact HB.out)))); (case aL => have := LMc12.out; omega); intro v159 w16 ho hb hg hat; rw [← Ny158.out] at ho; have n0_ := Aside0.mk (Kd.R_after (ok := (fun _ => True)) (by (with_reducible repeat (first | apply Kd.R_alloc | apply Kd.R_drewN | apply Kd.R_drew)); exact Kd.R_mono HO156.out (fun _ hk => ⟨trivial, hk⟩)) hg hat); have n1_ := Aside0.mk (hb); have n2_ := Aside0.mk (ho); clear HO156; clear HB; clear HO_7; have HO156 := n0_; have HB := n1_; have HO160 := n2_; clear n0_ n1_ n2_; clear ho hb hg hat))
                  go_roundg k1
                  case measure => have := HK1.out; omega
                  case rel => exact ⟨(y154), (y158), (wrap64 (x8_1 + 1)), (by first | rfl | (simp; done) | (simp [*]; done)), H', ⟨by have := HK1.out; omega⟩, ⟨by (with_reducible repeat (first | apply Kd.R_alloc | apply Kd.R_drewN | apply Kd.R_drew)); exact Kd.R_mono HO156.out (fun _ hk => hk.2)⟩, ⟨by (with_reducible repeat (first | apply Kd.R_alloc | apply Kd.R_drewN | apply Kd.R_drew)); exact HO160.out⟩, ⟨by repeat (first | (with_reducible first | exact HB.out | apply below_alloc | apply pw_below_drewN | apply below_drew1) | exact HB.out)⟩⟩
                · rw [if_neg c12] at H
                  exact absurd H (by simp)
              · rw [if_neg c11] at H
                exact absurd H (by simp)
            · rw [if_neg c10] at H
              exact absurd H (by simp)
          · rw [if_neg c9] at H
            exact absurd H (by simp)
        · rw [if_neg c8] at H
          exact absurd H (by simp)
      · rw [if_neg c7] at H
        have c7b0 : decide (x8_1 < (wrap64 ((wrap64 (Int.tmod a0 100)) + 2))) = false := decide_eq_false c7
        clear c7
        replace H := Option.bind_eq_some_iff.mp H
        obtain ⟨⟨t161, t162⟩, A170, H⟩ := H
        replace H : ((curve_Hull.f k1 x7_1).bind fun bt165 => ((stowagelaw11_awake.f k1).bind fun t169 => (if t169 = true then (if t162 = 0 then (if bt165.2 = 0 then (if (t161.length : Int) = (wrap64 ((wrap64 ((wrap64 (Int.tmod a0 100)) + 2)) + 1)) then ((stowageref01_SameInts.f k1 bt165.1 (([0, (wrap64 ((wrap64 (Int.tmod a0 100)) + 2))] : List Int))).bind fun t173 => (stowagelaw11_CurveSteep.j1 k1 (wrap64 ((wrap64 (Int.tmod a0 100)) + 2)) t161 (!t173))) else (stowagelaw11_CurveSteep.j1 k1 (wrap64 ((wrap64 (Int.tmod a0 100)) + 2)) t161 true)) else (stowagelaw11_CurveSteep.j1 k1 (wrap64 ((wrap64 (Int.tmod a0 100)) + 2)) t161 true)) else (stowagelaw11_CurveSteep.j1 k1 (wrap64 ((wrap64 (Int.tmod a0 100)) + 2)) t161 true)) else (stowagelaw11_CurveSteep.j1 k1 (wrap64 ((wrap64 (Int.tmod a0 100)) + 2)) t161 true)))) = some r := H
        have A17 := Aside0.mk A170
        clear A170
        replace H := Option.bind_eq_some_iff.mp H
        obtain ⟨⟨t165, t166⟩, A180, H⟩ := H
        replace H : ((stowagelaw11_awake.f k1).bind fun t169 => (if t169 = true then (if t162 = 0 then (if t166 = 0 then (if (t161.length : Int) = (wrap64 ((wrap64 ((wrap64 (Int.tmod a0 100)) + 2)) + 1)) then ((stowageref01_SameInts.f k1 t165 (([0, (wrap64 ((wrap64 (Int.tmod a0 100)) + 2))] : List Int))).bind fun t173 => (stowagelaw11_CurveSteep.j1 k1 (wrap64 ((wrap64 (Int.tmod a0 100)) + 2)) t161 (!t173))) else (stowagelaw11_CurveSteep.j1 k1 (wrap64 ((wrap64 (Int.tmod a0 100)) + 2)) t161 true)) else (stowagelaw11_CurveSteep.j1 k1 (wrap64 ((wrap64 (Int.tmod a0 100)) + 2)) t161 true)) else (stowagelaw11_CurveSteep.j1 k1 (wrap64 ((wrap64 (Int.tmod a0 100)) + 2)) t161 true)) else (stowagelaw11_CurveSteep.j1 k1 (wrap64 ((wrap64 (Int.tmod a0 100)) + 2)) t161 true))) = some r := H
        have A18 := Aside0.mk A180
        clear A180
        have HC19 := Aside0.mk H
        clear H
        obtain ⟨Ao20, co20, eo20⟩ := Kd.R_slice HO_6.out
        subst eo20
        go_upto_region 10 with (first | ((with_reducible refine gate_callee (f := 15) rfl ?_); refine goesL_ (some 48) rfl rfl Try.func15 (by kernel_rfl) rfl #[.slice Ao20 x6_1.length co20] rfl (by (try simp only [List.map_toArray, List.map_cons, List.map_nil]); first | done | rfl | (simp only [List.length_drop, List.length_take]; rfl)) ?_; (with_reducible refine (curve_Hull.calls k1 _ _ x6_1 t161 t162 _ ?side1 ?side2 A17.out).mono ?_); (case side1 => repeat (first | exact (Kd.R_reads' HO_6.out).2.2 | (with_reducible refine Kd.C_alloc ?_ _) | (with_reducible refine Kd.C_drewN ?_ _) | (with_reducible refine Kd.C_drew ?_))); (case side2 => exact (Kd.R_reads' HO_6.out).2.1); rintro e w21 ⟨v163, rfl, ho0, hb⟩; refine ⟨_, rfl, ?_⟩; have n0_ := Aside0.mk (Kd.R_elder' (by (with_reducible repeat (first | apply Kd.R_alloc | apply Kd.R_drewN | apply Kd.R_drew)); exact HO_6.out) (Kd.R_base ho0) hb); have n1_ := Aside0.mk (Kd.R_elder' (by (with_reducible repeat (first | apply Kd.R_alloc | apply Kd.R_drewN | apply Kd.R_drew)); exact HO_7.out) (Kd.R_base ho0) hb); have n2_ := Aside0.mk (Kd.R_lower (Kd.R_new' (Kd.R_new' ho0 (Kd.R_lt (by (with_reducible repeat (first | apply Kd.R_alloc | apply Kd.R_drewN | apply Kd.R_drew)); exact HO_6.out))) (Kd.R_lt (by (with_reducible repeat (first | apply Kd.R_alloc | apply Kd.R_drewN | apply Kd.R_drew)); exact HO_7.out))) (below_size (by repeat (first | (with_reducible first | exact HB.out | apply below_alloc | apply pw_below_drewN | apply below_drew1) | exact HB.out)))); have n3_ := Aside0.mk (below_step (by repeat (first | (with_reducible first | exact HB.out | apply below_alloc | apply pw_below_drewN | apply below_drew1) | exact HB.out)) hb); clear HO_6; clear HO_7; clear HB; have HO_6 := n0_; have HO_7 := n1_; have HO164 := n2_; have HB := n3_; clear n0_ n1_ n2_ n3_; (try clear hb); (try clear hb2); (try clear hk); (try clear hi); (try clear ho0); obtain ⟨Ao22, co22, eo22⟩ := Kd.R_slice HO_7.out; subst eo22) | ((with_reducible refine gate_callee (f := 15) rfl ?_); refine goesL_ (some 53) rfl rfl Try.func15 (by kernel_rfl) rfl #[.slice Ao22 x7_1.length co22] rfl (by (try simp only [List.map_toArray, List.map_cons, List.map_nil]); first | done | rfl | (simp only [List.length_drop, List.length_take]; rfl)) ?_; (with_reducible refine (curve_Hull.calls k1 _ _ x7_1 t165 t166 _ ?side1 ?side2 A18.out).mono ?_); (case side1 => repeat (first | exact (Kd.R_reads' HO_7.out).2.2 | (with_reducible refine Kd.C_alloc ?_ _) | (with_reducible refine Kd.C_drewN ?_ _) | (with_reducible refine Kd.C_drew ?_))); (case side2 => exact (Kd.R_reads' HO_7.out).2.1); rintro e w23 ⟨v167, rfl, ho0, hb⟩; refine ⟨_, rfl, ?_⟩; have n0_ := Aside0.mk (Kd.R_elder' (by (with_reducible repeat (first | apply Kd.R_alloc | apply Kd.R_drewN | apply Kd.R_drew)); exact HO_6.out) (Kd.R_base ho0) hb); have n1_ := Aside0.mk (Kd.R_elder' (by (with_reducible repeat (first | apply Kd.R_alloc | apply Kd.R_drewN | apply Kd.R_drew)); exact HO_7.out) (Kd.R_base ho0) hb); have n2_ := Aside0.mk (Kd.R_elder' (by (with_reducible repeat (first | apply Kd.R_alloc | apply Kd.R_drewN | apply Kd.R_drew)); exact HO164.out) (Kd.R_base ho0) hb); have n3_ := Aside0.mk (Kd.R_lower (Kd.R_new' (Kd.R_new' (Kd.R_new' ho0 (Kd.R_lt (by (with_reducible repeat (first | apply Kd.R_alloc | apply Kd.R_drewN | apply Kd.R_drew)); exact HO_6.out))) (Kd.R_lt (by (with_reducible repeat (first | apply Kd.R_alloc | apply Kd.R_drewN | apply Kd.R_drew)); exact HO_7.out))) (Kd.R_lt (by (with_reducible repeat (first | apply Kd.R_alloc | apply Kd.R_drewN | apply Kd.R_drew)); exact HO164.out))) (below_size (by repeat (first | (with_reducible first | exact HB.out | apply below_alloc | apply pw_below_drewN | apply below_drew1) | exact HB.out)))); have n4_ := Aside0.mk (below_step (by repeat (first | (with_reducible first | exact HB.out | apply below_alloc | apply pw_below_drewN | apply below_drew1) | exact HB.out)) hb); clear HO_6; clear HO_7; clear HO164; clear HB; have HO_6 := n0_; have HO_7 := n1_; have HO164 := n2_; have HO168 := n3_; have HB := n4_; clear n0_ n1_ n2_ n3_ n4_; (try clear hb); (try clear hb2); (try clear hk); (try clear hi); (try clear ho0)))
        (try simp only [Act.put, List.setIfInBounds_toArray, List.set_cons_zero, List.set_cons_succ])
        go_cut [79] (fun v79 wc => ∃ (kq : Nat) (x79_18 : Bool), v79 = .bool x79_18 ∧ Aside0 (stowagelaw11_CurveSteep.j1 kq (wrap64 ((wrap64 (Int.tmod a0 100)) + 2)) t161 x79_18 = some r) ∧ Aside0 (kq ≤ k1) ∧ Aside0 (Kd.R (Kd.int .i64) 3 wc w.heap.size (fun _ => True) v163 t161) ∧ Aside0 (Below w.heap.size w wc))
        case first =>
          have H := HC19.out
          clear HC19
          replace H := Option.bind_eq_some_iff.mp H
          obtain ⟨t169, A240, H⟩ := H
          replace H : (if t169 = true then (if t162 = 0 then (if t166 = 0 then (if (t161.length : Int) = (wrap64 ((wrap64 ((wrap64 (Int.tmod a0 100)) + 2)) + 1)) then ((stowageref01_SameInts.f k1 t165 (([0, (wrap64 ((wrap64 (Int.tmod a0 100)) + 2))] : List Int))).bind fun t173 => (stowagelaw11_CurveSteep.j1 k1 (wrap64 ((wrap64 (Int.tmod a0 100)) + 2)) t161 (!t173))) else (stowagelaw11_CurveSteep.j1 k1 (wrap64 ((wrap64 (Int.tmod a0 100)) + 2)) t161 true)) else (stowagelaw11_CurveSteep.j1 k1 (wrap64 ((wrap64 (Int.tmod a0 100)) + 2)) t161 true)) else (stowagelaw11_CurveSteep.j1 k1 (wrap64 ((wrap64 (Int.tmod a0 100)) + 2)) t161 true)) else (stowagelaw11_CurveSteep.j1 k1 (wrap64 ((wrap64 (Int.tmod a0 100)) + 2)) t161 true)) = some r := H
          have A24 := Aside0.mk A240
          clear A240
          by_cases c25 : t169 = true
          · subst c25
            have H1 : (if t162 = 0 then (if t166 = 0 then (if (t161.length : Int) = (wrap64 ((wrap64 ((wrap64 (Int.tmod a0 100)) + 2)) + 1)) then ((stowageref01_SameInts.f k1 t165 (([0, (wrap64 ((wrap64 (Int.tmod a0 100)) + 2))] : List Int))).bind fun t173 => (stowagelaw11_CurveSteep.j1 k1 (wrap64 ((wrap64 (Int.tmod a0 100)) + 2)) t161 (!t173))) else (stowagelaw11_CurveSteep.j1 k1 (wrap64 ((wrap64 (Int.tmod a0 100)) + 2)) t161 true)) else (stowagelaw11_CurveSteep.j1 k1 (wrap64 ((wrap64 (Int.tmod a0 100)) + 2)) t161 true)) else (stowagelaw11_CurveSteep.j1 k1 (wrap64 ((wrap64 (Int.tmod a0 100)) + 2)) t161 true)) = some r := by rw [if_pos rfl] at H; exact H
            clear H
            have H := H1
            clear H1
            by_cases c26 : t162 = 0
            · rw [if_pos c26] at H
              have c26b0 : (t162 == 0) = true := beq_iff_eq.mpr c26
              have c26b1 : (t162 != 0) = false := bne_eq_false_iff_eq.mpr c26
              clear c26
              (first | rw [c26b0] | (simp only [i64_w, i32_w]; rw [c26b0]) | skip)
              by_cases c27 : t166 = 0
              · rw [if_pos c27] at H
                have c27b0 : (t166 == 0) = true := beq_iff_eq.mpr c27
                have c27b1 : (t166 != 0) = false := bne_eq_false_iff_eq.mpr c27
                clear c27
                by_cases c28 : (t161.length : Int) = (wrap64 ((wrap64 ((wrap64 (Int.tmod a0 100)) + 2)) + 1))
                · rw [if_pos c28] at H
                  have c28b0 : ((t161.length : Int) == (wrap64 ((wrap64 ((wrap64 (Int.tmod a0 100)) + 2)) + 1))) = true := beq_iff_eq.mpr c28
                  have c28b1 : ((t161.length : Int) != (wrap64 ((wrap64 ((wrap64 (Int.tmod a0 100)) + 2)) + 1))) = false := bne_eq_false_iff_eq.mpr c28
                  clear c28
                  obtain ⟨y170, hy170⟩ : ∃ y_ : List Int, y_ = (([0, (wrap64 ((wrap64 (Int.tmod a0 100)) + 2))] : List Int)) := ⟨_, rfl⟩
                  replace H : ((stowageref01_SameInts.f k1 t165 y170).bind fun t173 => (stowagelaw11_CurveSteep.j1 k1 (wrap64 ((wrap64 (Int.tmod a0 100)) + 2)) t161 (!t173))) = some r := by first | (rw [hy170]; with_reducible exact H) | (have H2_ := (Option.bind_some _ _).symm.trans H; rw [hy170]; with_reducible exact H2_) | (have H2_ := (Option.bind_some _ _).symm.trans H; with_reducible exact H2_) | with_reducible exact H | (rw [hy170]; exact H) | exact H
                  have Ny170 := Aside0.mk hy170
                  clear hy170
                  replace H := Option.bind_eq_some_iff.mp H
                  obtain ⟨t173, A290, H⟩ := H
                  replace H : (stowagelaw11_CurveSteep.j1 k1 (wrap64 ((wrap64 (Int.tmod a0 100)) + 2)) t161 (!t173)) = some r := H
                  have A29 := Aside0.mk A290
                  clear A290
                  have H' := Aside0.mk H
                  clear H
                  go_wp2_with (first | ((with_reducible refine gate_callee (f := 12) rfl ?_); refine goesL_ (some 56) rfl rfl Try.func12 (by kernel_rfl) rfl #[] rfl (by (try simp only [List.map_toArray, List.map_cons, List.map_nil]); first | done | rfl | (simp only [List.length_drop, List.length_take]; rfl)) ?_; (with_reducible refine (stowagelaw11_awake.calls k1  true _ A24.out).mono ?_); rintro e w30 ⟨rfl, hb⟩; refine ⟨_, rfl, ?_⟩; have n0_ := Aside0.mk (Kd.R_below (by (with_reducible repeat (first | apply Kd.R_alloc | apply Kd.R_drewN | apply Kd.R_drew)); exact HO_6.out) hb); have n1_ := Aside0.mk (Kd.R_below (by (with_reducible repeat (first | apply Kd.R_alloc | apply Kd.R_drewN | apply Kd.R_drew)); exact HO_7.out) hb); have n2_ := Aside0.mk (Kd.R_below (by (with_reducible repeat (first | apply Kd.R_alloc | apply Kd.R_drewN | apply Kd.R_drew)); exact HO164.out) hb); have n3_ := Aside0.mk (Kd.R_below (by (with_reducible repeat (first | apply Kd.R_alloc | apply Kd.R_drewN | apply Kd.R_drew)); exact HO168.out) hb); have n4_ := Aside0.mk (below_step (by repeat (first | (with_reducible first | exact HB.out | apply below_alloc | apply pw_below_drewN | apply below_drew1) | exact HB.out)) hb); clear HO_6; clear HO_7; clear HO164; clear HO168; clear HB; have HO_6 := n0_; have HO_7 := n1_; have HO164 := n2_; have HO168 := n3_; have HB := n4_; clear n0_ n1_ n2_ n3_ n4_; (try clear hb); (try clear hb2); (try clear hk); (try clear hi); obtain ⟨Ao31, co31, eo31⟩ := Kd.R_slice HO164.out; subst eo31) | ((with_reducible refine gate_dst (N := 76) rfl ?_); (try (refine gate_guard (by rfl) ?_; dsimp only)); refine Kd.R_lit (Kd.int .i64) _ 3 ?hg (N := 76) ?hd (xs := ([0, (wrap64 ((wrap64 (Int.tmod a0 100)) + 2))] : List Int)) (inner := [.int .i64 0, .int .i64 (wrap64 ((wrap64 (Int.tmod a0 100)) + 2))]) (ok := fun _ => True) (okp := fun _ => True) ?hr ?hp (fun _ hk => hk) trivial (Below.refl _ _) (Nat.le_refl _) (by simp) ?_; (case hd => rfl); (case hg => rfl); (case hr => first | (go_simp; done) | (go_simp; rfl)); (case hp => exact (Reps.one (show Kd.M (Kd.int .i64) _ _ _ 0 [.int .i64 0] from rfl) (Reps.one (show Kd.M (Kd.int .i64) _ _ _ (wrap64 ((wrap64 (Int.tmod a0 100)) + 2)) [.int .i64 (wrap64 ((wrap64 (Int.tmod a0 100)) + 2))] from rfl) (Reps.none _ _)))); intro v171 w32 ho33 hb hg_ hnew_; clear hg_ hnew_; (first | rw [← Ny170.out] at ho33 | (simp only [Int.reduceToNat] at ho33; rw [← Ny170.out] at ho33)); have n0_ := Aside0.mk (Kd.R_elder' (by (with_reducible repeat (first | apply Kd.R_alloc | apply Kd.R_drewN | apply Kd.R_drew)); exact HO_6.out) (Kd.R_base ho33) hb); have n1_ := Aside0.mk (Kd.R_elder' (by (with_reducible repeat (first | apply Kd.R_alloc | apply Kd.R_drewN | apply Kd.R_drew)); exact HO_7.out) (Kd.R_base ho33) hb); have n2_ := Aside0.mk (Kd.R_elder' (by (with_reducible repeat (first | apply Kd.R_alloc | apply Kd.R_drewN | apply Kd.R_drew)); exact HO164.out) (Kd.R_base ho33) hb); have n3_ := Aside0.mk (Kd.R_elder' (by (with_reducible repeat (first | apply Kd.R_alloc | apply Kd.R_drewN | apply Kd.R_drew)); exact HO168.out) (Kd.R_base ho33) hb); have n4_ := Aside0.mk (Kd.R_lower (Kd.R_new' (Kd.R_new' (Kd.R_new' (Kd.R_new' ho33 (Kd.R_lt (by (with_reducible repeat (first | apply Kd.R_alloc | apply Kd.R_drewN | apply Kd.R_drew)); exact HO_6.out))) (Kd.R_lt (by (with_reducible repeat (first | apply Kd.R_alloc | apply Kd.R_drewN | apply Kd.R_drew)); exact HO_7.out))) (Kd.R_lt (by (with_reducible repeat (first | apply Kd.R_alloc | apply Kd.R_drewN | apply Kd.R_drew)); exact HO164.out))) (Kd.R_lt (by (with_reducible repeat (first | apply Kd.R_alloc | apply Kd.R_drewN | apply Kd.R_drew)); exact HO168.out))) (below_size (by repeat (first | (with_reducible first | exact HB.out | apply below_alloc | apply pw_below_drewN | apply below_drew1) | exact HB.out)))); have n5_ := Aside0.mk (below_step (by repeat (first | (with_reducible first | exact HB.out | apply below_alloc | apply pw_below_drewN | apply below_drew1) | exact HB.out)) hb); clear HO_6; clear HO_7; clear HO164; clear HO168; clear HB; have HO_6 := n0_; have HO_7 := n1_; have HO164 := n2_; have HO168 := n3_; have HO172 := n4_; have HB := n5_; clear n0_ n1_ n2_ n3_ n4_ n5_; clear hb ho33; obtain ⟨Ao34, co34, eo34⟩ := Kd.R_slice HO168.out; subst eo34; obtain ⟨Ao35, co35, eo35⟩ := Kd.R_slice HO172.out; subst eo35) | (go_at_call 13; (with_reducible refine (stowageref01_SameInts.calls k1 _ _ t165 _ _ y170 t173 _ ?side1 ?side2 ?side3 ?side4 A29.out).mono ?_); (case side1 => repeat (first | exact (Kd.R_reads' HO168.out).2.2 | (with_reducible refine Kd.C_alloc ?_ _) | (with_reducible refine Kd.C_drewN ?_ _) | (with_reducible refine Kd.C_drew ?_))); (case side2 => exact (Kd.R_reads' HO168.out).2.1); (case side3 => repeat (first | exact (Kd.R_reads' HO172.out).2.2 | (with_reducible refine Kd.C_alloc ?_ _) | (with_reducible refine Kd.C_drewN ?_ _) | (with_reducible refine Kd.C_drew ?_))); (case side4 => exact (Kd.R_reads' HO172.out).2.1); rintro e w' ⟨rfl, ⟨nd, rfl⟩⟩))
                  go_meet
                  case rel => exact ⟨_, (!t173), (by first | rfl | (simp; done) | (simp [*]; done)), H', ⟨by have := HK1.out; first | omega | exact Nat.le_refl _⟩, ⟨by (with_reducible repeat (first | apply Kd.R_alloc | apply Kd.R_drewN | apply Kd.R_drew)); exact Kd.R_mono HO164.out (fun _ hk => trivial)⟩, ⟨by repeat (first | (with_reducible first | exact HB.out | apply below_alloc | apply pw_below_drewN | apply below_drew1) | exact HB.out)⟩⟩
                · rw [if_neg c28] at H
                  have c28b0 : ((t161.length : Int) == (wrap64 ((wrap64 ((wrap64 (Int.tmod a0 100)) + 2)) + 1))) = false := beq_eq_false_iff_ne.mpr c28
                  have c28b1 : ((t161.length : Int) != (wrap64 ((wrap64 ((wrap64 (Int.tmod a0 100)) + 2)) + 1))) = true := bne_iff_ne.mpr c28
                  have H' := Aside0.mk H
                  clear H
                  go_wp2_with (first | ((with_reducible refine gate_callee (f := 12) rfl ?_); refine goesL_ (some 56) rfl rfl Try.func12 (by kernel_rfl) rfl #[] rfl (by (try simp only [List.map_toArray, List.map_cons, List.map_nil]); first | done | rfl | (simp only [List.length_drop, List.length_take]; rfl)) ?_; (with_reducible refine (stowagelaw11_awake.calls k1  true _ A24.out).mono ?_); rintro e w36 ⟨rfl, hb⟩; refine ⟨_, rfl, ?_⟩; have n0_ := Aside0.mk (Kd.R_below (by (with_reducible repeat (first | apply Kd.R_alloc | apply Kd.R_drewN | apply Kd.R_drew)); exact HO_6.out) hb); have n1_ := Aside0.mk (Kd.R_below (by (with_reducible repeat (first | apply Kd.R_alloc | apply Kd.R_drewN | apply Kd.R_drew)); exact HO_7.out) hb); have n2_ := Aside0.mk (Kd.R_below (by (with_reducible repeat (first | apply Kd.R_alloc | apply Kd.R_drewN | apply Kd.R_drew)); exact HO164.out) hb); have n3_ := Aside0.mk (Kd.R_below (by (with_reducible repeat (first | apply Kd.R_alloc | apply Kd.R_drewN | apply Kd.R_drew)); exact HO168.out) hb); have n4_ := Aside0.mk (below_step (by repeat (first | (with_reducible first | exact HB.out | apply below_alloc | apply pw_below_drewN | apply below_drew1) | exact HB.out)) hb); clear HO_6; clear HO_7; clear HO164; clear HO168; clear HB; have HO_6 := n0_; have HO_7 := n1_; have HO164 := n2_; have HO168 := n3_; have HB := n4_; clear n0_ n1_ n2_ n3_ n4_; (try clear hb); (try clear hb2); (try clear hk); (try clear hi); obtain ⟨Ao37, co37, eo37⟩ := Kd.R_slice HO164.out; subst eo37))
                  go_meet
                  case rel => exact ⟨_, (true), (by first | rfl | (simp; done) | (simp [*]; done)), H', ⟨by have := HK1.out; first | omega | exact Nat.le_refl _⟩, ⟨by (with_reducible repeat (first | apply Kd.R_alloc | apply Kd.R_drewN | apply Kd.R_drew)); exact Kd.R_mono HO164.out (fun _ hk => trivial)⟩, ⟨by repeat (first | (with_reducible first | exact HB.out | apply below_alloc | apply pw_below_drewN | apply below_drew1) | exact HB.out)⟩⟩
              · rw [if_neg c27] at H
                have c27b0 : (t166 == 0) = false := beq_eq_false_iff_ne.mpr c27
                have c27b1 : (t166 != 0) = true := bne_iff_ne.mpr c27
                have H' := Aside0.mk H
                clear H
                go_wp2_with (first | ((with_reducible refine gate_callee (f := 12) rfl ?_); refine goesL_ (some 56) rfl rfl Try.func12 (by kernel_rfl) rfl #[] rfl (by (try simp only [List.map_toArray, List.map_cons, List.map_nil]); first | done | rfl | (simp only [List.length_drop, List.length_take]; rfl)) ?_; (with_reducible refine (stowagelaw11_awake.calls k1  true _ A24.out).mono ?_); rintro e w38 ⟨rfl, hb⟩; refine ⟨_, rfl, ?_⟩; have n0_ := Aside0.mk (Kd.R_below (by (with_reducible repeat (first | apply Kd.R_alloc | apply Kd.R_drewN | apply Kd.R_drew)); exact HO_6.out) hb); have n1_ := Aside0.mk (Kd.R_below (by (with_reducible repeat (first | apply Kd.R_alloc | apply Kd.R_drewN | apply Kd.R_drew)); exact HO_7.out) hb); have n2_ := Aside0.mk (Kd.R_below (by (with_reducible repeat (first | apply Kd.R_alloc | apply Kd.R_drewN | apply Kd.R_drew)); exact HO164.out) hb); have n3_ := Aside0.mk (Kd.R_below (by (with_reducible repeat (first | apply Kd.R_alloc | apply Kd.R_drewN | apply Kd.R_drew)); exact HO168.out) hb); have n4_ := Aside0.mk (below_step (by repeat (first | (with_reducible first | exact HB.out | apply below_alloc | apply pw_below_drewN | apply below_drew1) | exact HB.out)) hb); clear HO_6; clear HO_7; clear HO164; clear HO168; clear HB; have HO_6 := n0_; have HO_7 := n1_; have HO164 := n2_; have HO168 := n3_; have HB := n4_; clear n0_ n1_ n2_ n3_ n4_; (try clear hb); (try clear hb2); (try clear hk); (try clear hi)))
                go_meet
                case rel => exact ⟨_, (true), (by first | rfl | (simp; done) | (simp [*]; done)), H', ⟨by have := HK1.out; first | omega | exact Nat.le_refl _⟩, ⟨by (with_reducible repeat (first | apply Kd.R_alloc | apply Kd.R_drewN | apply Kd.R_drew)); exact Kd.R_mono HO164.out (fun _ hk => trivial)⟩, ⟨by repeat (first | (with_reducible first | exact HB.out | apply below_alloc | apply pw_below_drewN | apply below_drew1) | exact HB.out)⟩⟩
            · rw [if_neg c26] at H
              have c26b0 : (t162 == 0) = false := beq_eq_false_iff_ne.mpr c26
              have c26b1 : (t162 != 0) = true := bne_iff_ne.mpr c26
              (first | rw [c26b0] | (simp only [i64_w, i32_w]; rw [c26b0]) | skip)
              have H' := Aside0.mk H
              clear H
              go_wp2_with (first | ((with_reducible refine gate_callee (f := 12) rfl ?_); refine goesL_ (some 56) rfl rfl Try.func12 (by kernel_rfl) rfl #[] rfl (by (try simp only [List.map_toArray, List.map_cons, List.map_nil]); first | done | rfl | (simp only [List.length_drop, List.length_take]; rfl)) ?_; (with_reducible refine (stowagelaw11_awake.calls k1  true _ A24.out).mono ?_); rintro e w39 ⟨rfl, hb⟩; refine ⟨_, rfl, ?_⟩; have n0_ := Aside0.mk (Kd.R_below (by (with_reducible repeat (first | apply Kd.R_alloc | apply Kd.R_drewN | apply Kd.R_drew)); exact HO_6.out) hb); have n1_ := Aside0.mk (Kd.R_below (by (with_reducible repeat (first | apply Kd.R_alloc | apply Kd.R_drewN | apply Kd.R_drew)); exact HO_7.out) hb); have n2_ := Aside0.mk (Kd.R_below (by (with_reducible repeat (first | apply Kd.R_alloc | apply Kd.R_drewN | apply Kd.R_drew)); exact HO164.out) hb); have n3_ := Aside0.mk (Kd.R_below (by (with_reducible repeat (first | apply Kd.R_alloc | apply Kd.R_drewN | apply Kd.R_drew)); exact HO168.out) hb); have n4_ := Aside0.mk (below_step (by repeat (first | (with_reducible first | exact HB.out | apply below_alloc | apply pw_below_drewN | apply below_drew1) | exact HB.out)) hb); clear HO_6; clear HO_7; clear HO164; clear HO168; clear HB; have HO_6 := n0_; have HO_7 := n1_; have HO164 := n2_; have HO168 := n3_; have HB := n4_; clear n0_ n1_ n2_ n3_ n4_; (try clear hb); (try clear hb2); (try clear hk); (try clear hi)))
              go_meet
              case rel => exact ⟨_, (true), (by first | rfl | (simp; done) | (simp [*]; done)), H', ⟨by have := HK1.out; first | omega | exact Nat.le_refl _⟩, ⟨by (with_reducible repeat (first | apply Kd.R_alloc | apply Kd.R_drewN | apply Kd.R_drew)); exact Kd.R_mono HO164.out (fun _ hk => trivial)⟩, ⟨by repeat (first | (with_reducible first | exact HB.out | apply below_alloc | apply pw_below_drewN | apply below_drew1) | exact HB.out)⟩⟩
          · replace c25 := Bool.eq_false_iff.mpr c25
            subst c25
            have H1 : (stowagelaw11_CurveSteep.j1 k1 (wrap64 ((wrap64 (Int.tmod a0 100)) + 2)) t161 true) = some r := by rw [if_neg (show ¬ (false = true) by decide)] at H; exact H
            clear H
            have H := H1
            clear H1
            have H' := Aside0.mk H
            clear H
            go_wp2_with (first | ((with_reducible refine gate_callee (f := 12) rfl ?_); refine goesL_ (some 56) rfl rfl Try.func12 (by kernel_rfl) rfl #[] rfl (by (try simp only [List.map_toArray, List.map_cons, List.map_nil]); first | done | rfl | (simp only [List.length_drop, List.length_take]; rfl)) ?_; (with_reducible refine (stowagelaw11_awake.calls k1  false _ A24.out).mono ?_); rintro e w40 ⟨rfl, hb⟩; refine ⟨_, rfl, ?_⟩; have n0_ := Aside0.mk (Kd.R_below (by (with_reducible repeat (first | apply Kd.R_alloc | apply Kd.R_drewN | apply Kd.R_drew)); exact HO_6.out) hb); have n1_ := Aside0.mk (Kd.R_below (by (with_reducible repeat (first | apply Kd.R_alloc | apply Kd.R_drewN | apply Kd.R_drew)); exact HO_7.out) hb); have n2_ := Aside0.mk (Kd.R_below (by (with_reducible repeat (first | apply Kd.R_alloc | apply Kd.R_drewN | apply Kd.R_drew)); exact HO164.out) hb); have n3_ := Aside0.mk (Kd.R_below (by (with_reducible repeat (first | apply Kd.R_alloc | apply Kd.R_drewN | apply Kd.R_drew)); exact HO168.out) hb); have n4_ := Aside0.mk (below_step (by repeat (first | (with_reducible first | exact HB.out | apply below_alloc | apply pw_below_drewN | apply below_drew1) | exact HB.out)) hb); clear HO_6; clear HO_7; clear HO164; clear HO168; clear HB; have HO_6 := n0_; have HO_7 := n1_; have HO164 := n2_; have HO168 := n3_; have HB := n4_; clear n0_ n1_ n2_ n3_ n4_; (try clear hb); (try clear hb2); (try clear hk); (try clear hi)))
            go_meet
            case rel => exact ⟨_, (true), (by first | rfl | (simp; done) | (simp [*]; done)), H', ⟨by have := HK1.out; first | omega | exact Nat.le_refl _⟩, ⟨by (with_reducible repeat (first | apply Kd.R_alloc | apply Kd.R_drewN | apply Kd.R_drew)); exact Kd.R_mono HO164.out (fun _ hk => trivial)⟩, ⟨by repeat (first | (with_reducible first | exact HB.out | apply below_alloc | apply pw_below_drewN | apply below_drew1) | exact HB.out)⟩⟩
        case rest =>
          clear HC19
          try clear c1
          try clear p1
          try clear q1
          try clear hx1
          try clear c2
          try clear p2
          try clear c6
          try clear p6
          try clear c7
          try clear c7b0
          try clear c8
          try clear c8b0
          try clear c9
          try clear c9b0
          try clear c10
          try clear c11
          try clear c11b0
          try clear c12
          try clear c15
          try clear p15
          try clear q15
          try clear hx15
          try clear c25
          try clear c26
          try clear c26b0
          try clear c26b1
          try clear c27
          try clear c27b0
          try clear c27b1
          try clear c28
          try clear c28b0
          try clear c28b1
          try clear hx153_0
          try clear hx157_0
          try clear p153
          try clear p157
          try clear p2
          try clear p6
          try clear q153
          try clear q157
          obtain ⟨kq, x79_18, rfl, HA, HJ18, HO_9, HB⟩ := hcut
          cases kq with
          | zero => exact absurd HA.out (by simp [stowagelaw11_CurveSteep.j1])
          | succ kj18 =>
            have H := HA.out
            clear HA
            simp only [stowagelaw11_CurveSteep.j1] at H
            by_cases c41 : x79_18 = true
            · subst c41
              have H1 : (some false) = some r := by rw [if_pos rfl] at H; exact H
              clear H
              have H := H1
              clear H1
              obtain rfl := Option.some.inj H
              go_wp2
              go_ret
              exact ⟨by first | rfl | (simp [errW_none, errW_some] <;> rfl) | (simp [*, errW_none, errW_some] <;> rfl), by repeat (first | (with_reducible first | exact HB.out | apply below_alloc | apply pw_below_drewN | apply below_drew1) | exact HB.out)⟩
            · replace c41 := Bool.eq_false_iff.mpr c41
              subst c41
              have H1 : (stowagelaw11_CurveSteep.l1 kj18 (wrap64 ((wrap64 (Int.tmod a0 100)) + 2)) t161 0) = some r := by rw [if_neg (show ¬ (false = true) by decide)] at H; exact H
              clear H
              have H := H1
              clear H1
              have H' := Aside0.mk H
              clear H
              go_wp2
              go_loopg [13] kj18 (fun kq v13 w' => ∃ (x13_3 : Int), v13 = .int .i64 x13_3 ∧ Aside0 (stowagelaw11_CurveSteep.l1 kq (wrap64 ((wrap64 (Int.tmod a0 100)) + 2)) t161 x13_3 = some r) ∧ Aside0 (kq ≤ kj18) ∧ Aside0 (Kd.R (Kd.int .i64) 3 w' w.heap.size (fun _ => True) v163 t161) ∧ Aside0 (Below w.heap.size w w'))
              case atStart => exact ⟨(0), (by first | rfl | (simp; done) | (simp [*]; done)), H', ⟨Nat.le_refl _⟩, ⟨by (with_reducible repeat (first | apply Kd.R_alloc | apply Kd.R_drewN | apply Kd.R_drew)); exact HO_9.out⟩, ⟨by repeat (first | (with_reducible first | exact HB.out | apply below_alloc | apply pw_below_drewN | apply below_drew1) | exact HB.out)⟩⟩
              case round =>
                clear H'
                try clear c1
                try clear p1
                try clear q1
                try clear hx1
                try clear c2
                try clear p2
                try clear c4
                try clear c6
                try clear p6
                try clear c7
                try clear c7b0
                try clear c8
                try clear c8b0
                try clear c9
                try clear c9b0
                try clear c10
                try clear c11
                try clear c11b0
                try clear c12
                try clear c15
                try clear p15
                try clear q15
                try clear hx15
                try clear c25
                try clear c26
                try clear c26b0
                try clear c26b1
                try clear c27
                try clear c27b0
                try clear c27b1
                try clear c28
                try clear c28b0
                try clear c28b1
                try clear c41
                try clear hx153_0
                try clear hx157_0
                try clear p1
                try clear p15
                try clear p153
                try clear p157
                try clear p2
                try clear p6
                try clear q1
                try clear q15
                try clear q153
                try clear q157
                obtain ⟨x13_3, rfl, HA, HK3, HO_9, HB⟩ := hrel
                cases gk with
                | zero => exact absurd HA.out (by simp [stowagelaw11_CurveSteep.l1])
                | succ k3 =>
                  have H := HA.out
                  clear HA
                  simp only [stowagelaw11_CurveSteep.l1] at H
                  by_cases c42 : x13_3 ≤ (wrap64 ((wrap64 (Int.tmod a0 100)) + 2))
                  · rw [if_pos c42] at H
                    have c42b0 : decide (x13_3 ≤ (wrap64 ((wrap64 (Int.tmod a0 100)) + 2))) = true := decide_eq_true c42
                    clear c42
                    by_cases c43 : 0 ≤ x13_3
                    · rw [if_pos c43] at H
                      have c43b0 : decide (0 ≤ x13_3) = true := decide_eq_true c43
                      clear c43
                      by_cases c44 : x13_3 < (t161.length : Int)
                      · rw [if_pos c44] at H
                        have c44b0 : decide (x13_3 < (t161.length : Int)) = true := decide_eq_true c44
                        clear c44
                        by_cases c45 : (rd t161 x13_3) = x13_3
                        · rw [if_pos c45] at H
                          have c45b0 : ((rd t161 x13_3) == x13_3) = true := beq_iff_eq.mpr c45
                          have c45b1 : ((rd t161 x13_3) != x13_3) = false := bne_eq_false_iff_eq.mpr c45
                          clear c45
                          have H' := Aside0.mk H
                          clear H
                          obtain ⟨Ao46, co46, eo46⟩ := Kd.R_slice HO_9.out
                          subst eo46
                          have p174 : 0 ≤ (x13_3 : Int) := of_decide_eq_true (by first | (with_reducible assumption) | assumption)
                          have q174 : x13_3 < (t161.length : Int) := of_decide_eq_true (by first | (with_reducible assumption) | assumption)
                          obtain ⟨ad174, e174, hx174_0⟩ := Kd.at_int (Kd.R_reads' HO_9.out).2.2 x13_3 p174 q174
                          cases e174
                          replace p174 := eq_true p174
                          replace q174 := eq_true q174
                          go_wp2
                          go_roundg k3
                          case measure => have := HK1.out; have := HJ18.out; have := HK3.out; omega
                          case rel => exact ⟨(wrap64 (x13_3 + 1)), (by first | rfl | (simp; done) | (simp [*]; done)), H', ⟨by have := HK1.out; have := HJ18.out; have := HK3.out; omega⟩, ⟨by (with_reducible repeat (first | apply Kd.R_alloc | apply Kd.R_drewN | apply Kd.R_drew)); exact HO_9.out⟩, ⟨by repeat (first | (with_reducible first | exact HB.out | apply below_alloc | apply pw_below_drewN | apply below_drew1) | exact HB.out)⟩⟩
                        · rw [if_neg c45] at H
                          have c45b0 : ((rd t161 x13_3) == x13_3) = false := beq_eq_false_iff_ne.mpr c45
                          have c45b1 : ((rd t161 x13_3) != x13_3) = true := bne_iff_ne.mpr c45
                          obtain rfl := Option.some.inj H
                          obtain ⟨Ao47, co47, eo47⟩ := Kd.R_slice HO_9.out
                          subst eo47
                          have p174 : 0 ≤ (x13_3 : Int) := of_decide_eq_true (by first | (with_reducible assumption) | assumption)
                          have q174 : x13_3 < (t161.length : Int) := of_decide_eq_true (by first | (with_reducible assumption) | assumption)
                          obtain ⟨ad174, e174, hx174_0⟩ := Kd.at_int (Kd.R_reads' HO_9.out).2.2 x13_3 p174 q174
                          cases e174
                          replace p174 := eq_true p174
                          replace q174 := eq_true q174
                          go_wp2
                          go_ret
                          exact ⟨by first | rfl | (simp [errW_none, errW_some] <;> rfl) | (simp [*, errW_none, errW_some] <;> rfl), by repeat (first | (with_reducible first | exact HB.out | apply below_alloc | apply pw_below_drewN | apply below_drew1) | exact HB.out)⟩
                      · rw [if_neg c44] at H
                        exact absurd H (by simp)
                    · rw [if_neg c43] at H
                      exact absurd H (by simp)
                  · rw [if_neg c42] at H
                    have c42b0 : decide (x13_3 ≤ (wrap64 ((wrap64 (Int.tmod a0 100)) + 2))) = false := decide_eq_false c42
                    clear c42
                    obtain rfl := Option.some.inj H
                    go_wp2
                    go_ret
                    exact ⟨by first | rfl | (simp [errW_none, errW_some] <;> rfl) | (simp [*, errW_none, errW_some] <;> rfl), by repeat (first | (with_reducible first | exact HB.out | apply below_alloc | apply pw_below_drewN | apply below_drew1) | exact HB.out)⟩

/-- THE ONE PURE STATEMENT of stowagelaw11_CurveSteep: yours. -/
def stowagelaw11_CurveSteep.Pure : Prop := ∀ (a0 : Int) (a1 : Int), (Lit.int .u8 a0).wf = true → (Lit.int .u16 a1).wf = true → ∃ k, stowagelaw11_CurveSteep.f k a0 a1 = some true
theorem stowagelaw11_CurveSteep.walk (P : stowagelaw11_CurveSteep.Pure) (a0 : Int) (a1 : Int) (w : World) (w0 : (Lit.int .u8 a0).wf = true) (w1 : (Lit.int .u16 a1).wf = true) :
    Calls Try.prog 6 #[.int .u8 a0, .int .u16 a1] w fun e w' => e = .returned (.bool true) ∧ Below w.heap.size w w' := by
  obtain ⟨k, h⟩ := P a0 a1 w0 w1
  refine (stowagelaw11_CurveSteep.calls k a0 a1 true w h).mono ?_
  rintro e w' ⟨rfl, hd⟩
  exact ⟨rfl, hd⟩

end Go.Proofs.Ytlgikpfjonnhmaa.Q
