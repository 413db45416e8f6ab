/- The law SolveGreedy: its walk. (The kit's print tool wrote these lines; they are laid out in texts of this claim's own.) -/
import Derived.Test.YtmkeffpgofjlnaaQ0
import Derived.Test.YtmkeffpgofjlnaaQsolveGreedy
import Derived.Test.YtmkeffpgofjlnaaQstowageref12Check
import Derived.Test.YtmkeffpgofjlnaaQstowagelaw12awake
import Derived.Test.YtmkeffpgofjlnaaQstowageref01SameInts
import Derived.Test.YtmkeffpgofjlnaaQstowageref12Greedy
namespace Go.Proofs.Ytmkeffpgofjlnaa.Q
open Go.RowKit Go.Proofs.YtmkeffpgofjlnaaW.PrintWords Go.Proofs.YtmkeffpgofjlnaaW.PrintLast Go.Proofs.YtmkeffpgofjlnaaW.PrintMore
attribute [local go_sem] max2_int min2_int max_two min_two max_three min_three max_four min_four   -- for this text's walks alone
set_option linter.unusedVariables false
set_option linter.unusedSimpArgs false

/-! ### stowagelaw12_SolveGreedy: function 3 -/
def stowagelaw12_SolveGreedy.j0 : Nat → Int → List Int → List (List Int) → List Int → Int → Bool → Option (Bool)
  | 0, _, _, _, _, _, _ => none
  | k + 1, x0, x1, x2, x7, x9, x27 => if x27 = true then (some false) else (if x9 = 0 then ((stowageref12_Greedy.f k x0 x1 x2).bind fun t155 => ((stowageref01_SameInts.f k x7 t155).bind fun t158 => (some t158))) else (some ((x7.length : Int) == 0)))
def stowagelaw12_SolveGreedy.f (k : Nat) (a0 : Int) (l1 : List Int) (l2 : List (List Int)) : Option (Bool) := (solve_Greedy.f k a0 l1 l2).bind fun bt149 => ((stowageref12_Check.f k a0 l1 l2).bind fun t153 => ((stowagelaw12_awake.f).bind fun t154 => (if t154 = true then (stowagelaw12_SolveGreedy.j0 k a0 l1 l2 bt149.1 t153 (bt149.2 != t153)) else (stowagelaw12_SolveGreedy.j0 k a0 l1 l2 bt149.1 t153 true))))
theorem stowagelaw12_SolveGreedy.mono_l : ∀ k, (∀ y0 y1 y2 y3 y4 y5, LeO (stowagelaw12_SolveGreedy.j0 k y0 y1 y2 y3 y4 y5) (stowagelaw12_SolveGreedy.j0 (k + 1) y0 y1 y2 y3 y4 y5))
  | 0 => fun _ _ _ _ _ _ r h => by simp [stowagelaw12_SolveGreedy.j0] at h
  | k + 1 => by
    have ih0 := stowagelaw12_SolveGreedy.mono_l k
    · intro y0 y1 y2 y3 y4 y5
      unfold stowagelaw12_SolveGreedy.j0
      repeat' first
      | (with_reducible exact ih0 _ _ _ _ _ _)
      | (with_reducible exact solve_Greedy.mono _ _ _ _)
      | (with_reducible exact stowageref01_SameInts.mono _ _ _)
      | (with_reducible exact stowageref12_Check.mono _ _ _ _)
      | (with_reducible exact stowageref12_Greedy.mono _ _ _ _)
      | (with_reducible exact LeO.refl _)
      | (with_reducible exact LeO.none _)
      | (with_reducible refine LeO.ite ?_ ?_)
      | (with_reducible refine LeO.bind ?_ (fun _ => ?_))
      | exact ih0 _ _ _ _ _ _
      | exact solve_Greedy.mono _ _ _ _
      | exact stowageref01_SameInts.mono _ _ _
      | exact stowageref12_Check.mono _ _ _ _
      | exact stowageref12_Greedy.mono _ _ _ _
      | exact LeO.none _
      | refine LeO.ite ?_ ?_
      | refine LeO.bind ?_ (fun _ => ?_)
theorem stowagelaw12_SolveGreedy.mono : ∀ a0 a1 a2 k, LeO (stowagelaw12_SolveGreedy.f k a0 a1 a2) (stowagelaw12_SolveGreedy.f (k + 1) a0 a1 a2) := by
  intro a0 a1 a2 k
  have ih0 := stowagelaw12_SolveGreedy.mono_l k
  unfold stowagelaw12_SolveGreedy.f
  repeat' first
      | (with_reducible exact ih0 _ _ _ _ _ _)
      | (with_reducible exact solve_Greedy.mono _ _ _ _)
      | (with_reducible exact stowageref01_SameInts.mono _ _ _)
      | (with_reducible exact stowageref12_Check.mono _ _ _ _)
      | (with_reducible exact stowageref12_Greedy.mono _ _ _ _)
      | (with_reducible exact LeO.refl _)
      | (with_reducible exact LeO.none _)
      | (with_reducible refine LeO.ite ?_ ?_)
      | (with_reducible refine LeO.bind ?_ (fun _ => ?_))
      | exact ih0 _ _ _ _ _ _
      | exact solve_Greedy.mono _ _ _ _
      | exact stowageref01_SameInts.mono _ _ _
      | exact stowageref12_Check.mono _ _ _ _
      | exact stowageref12_Greedy.mono _ _ _ _
      | exact LeO.none _
      | refine LeO.ite ?_ ?_
      | refine LeO.bind ?_ (fun _ => ?_)
set_option maxHeartbeats 8000000 in
set_option maxRecDepth 100000 in
theorem stowagelaw12_SolveGreedy.calls (k : Nat) (a0 : Int) (A1 : Option Addr) (c1 : Nat) (l1 : List Int) (A2 : Option Addr) (c2 : Nat) (l2 : List (List Int)) (r : Bool) (w : World) (hr1 : Kd.C (Kd.int .i64) w A1 l1.length l1) (hc1 : l1.length ≤ c1) (hr2 : Kd.C (Kd.slice 3 (Kd.int .i64)) w A2 l2.length l2) (hc2 : l2.length ≤ c2) (h : stowagelaw12_SolveGreedy.f k a0 l1 l2 = some r) :
    Calls Try.prog 3 #[.int .i64 a0, .slice A1 l1.length c1, .slice A2 l2.length c2] w fun e w' => e = .returned (.bool r) ∧ Below w.heap.size w w' := by
  have HR1 := Aside0.mk hr1
  have HC1 := Aside0.mk hc1
  clear hr1 hc1
  have HR2 := Aside0.mk hr2
  have HC2 := Aside0.mk hc2
  clear hr2 hc2
  have HB := Aside0.mk (Below.refl w.heap.size w)
  have H : ((solve_Greedy.f k a0 l1 l2).bind fun bt149 => ((stowageref12_Check.f k a0 l1 l2).bind fun t153 => ((stowagelaw12_awake.f).bind fun t154 => (if t154 = true then (stowagelaw12_SolveGreedy.j0 k a0 l1 l2 bt149.1 t153 (bt149.2 != t153)) else (stowagelaw12_SolveGreedy.j0 k a0 l1 l2 bt149.1 t153 true))))) = some r := h
  clear h
  replace H := Option.bind_eq_some_iff.mp H
  obtain ⟨⟨t149, t150⟩, A40, H⟩ := H
  replace H : ((stowageref12_Check.f k a0 l1 l2).bind fun t153 => ((stowagelaw12_awake.f).bind fun t154 => (if t154 = true then (stowagelaw12_SolveGreedy.j0 k a0 l1 l2 t149 t153 (t150 != t153)) else (stowagelaw12_SolveGreedy.j0 k a0 l1 l2 t149 t153 true)))) = some r := H
  have A4 := Aside0.mk A40
  clear A40
  replace H := Option.bind_eq_some_iff.mp H
  obtain ⟨t153, A50, H⟩ := H
  replace H : ((stowagelaw12_awake.f).bind fun t154 => (if t154 = true then (stowagelaw12_SolveGreedy.j0 k a0 l1 l2 t149 t153 (t150 != t153)) else (stowagelaw12_SolveGreedy.j0 k a0 l1 l2 t149 t153 true))) = some r := H
  have A5 := Aside0.mk A50
  clear A50
  have HC6 := Aside0.mk H
  clear H
  go_enter Try.func3, Try.ntmps3
  go_upto_region 3 with (first | ((with_reducible refine gate_callee (f := 9) rfl ?_); refine goesL_ (some 14) rfl rfl Try.func9 (by kernel_rfl) rfl #[.int .i64 a0, .slice A1 l1.length c1, .slice A2 l2.length c2] rfl (by (try simp only [List.map_toArray, List.map_cons, List.map_nil]); first | done | rfl | (simp only [List.length_drop, List.length_take]; rfl)) ?_; (with_reducible refine (solve_Greedy.calls k a0 _ _ l1 _ _ l2 t149 t150 _ ?side1 ?side2 ?side3 ?side4 A4.out).mono ?_); (case side1 => repeat (first | exact HR1.out | (with_reducible refine Kd.C_alloc ?_ _) | (with_reducible refine Kd.C_drewN ?_ _) | (with_reducible refine Kd.C_drew ?_))); (case side2 => exact HC1.out); (case side3 => repeat (first | exact HR2.out | (with_reducible refine Kd.C_alloc ?_ _) | (with_reducible refine Kd.C_drewN ?_ _) | (with_reducible refine Kd.C_drew ?_))); (case side4 => exact HC2.out); rintro e w7 ⟨v151, rfl, ho0, hb⟩; refine ⟨_, rfl, ?_⟩; have n0_ := Aside0.mk (Kd.R_lower ho0 (below_size (by repeat (first | (with_reducible first | exact HB.out | apply below_alloc | apply pw_below_drewN | apply below_drew1) | exact HB.out)))); have n1_ := Aside0.mk (below_step (by repeat (first | (with_reducible first | exact HB.out | apply below_alloc | apply pw_below_drewN | apply below_drew1) | exact HB.out)) hb); clear HB; have HO152 := n0_; have HB := n1_; clear n0_ n1_; (try clear hb); (try clear hb2); (try clear hk); (try clear hi); (try clear ho0)) | ((with_reducible refine gate_callee (f := 10) rfl ?_); refine goesL_ (some 20) rfl rfl Try.func10 (by kernel_rfl) rfl #[.int .i64 a0, .slice A1 l1.length c1, .slice A2 l2.length c2] rfl (by (try simp only [List.map_toArray, List.map_cons, List.map_nil]); first | done | rfl | (simp only [List.length_drop, List.length_take]; rfl)) ?_; (with_reducible refine (stowageref12_Check.calls k a0 _ _ l1 _ _ l2 t153 _ ?side1 ?side2 ?side3 ?side4 A5.out).mono ?_); (case side1 => repeat (first | exact (Kd.C_below HR1.out HB.out) | (with_reducible refine Kd.C_alloc ?_ _) | (with_reducible refine Kd.C_drewN ?_ _) | (with_reducible refine Kd.C_drew ?_))); (case side2 => exact HC1.out); (case side3 => repeat (first | exact (Kd.C_below HR2.out HB.out) | (with_reducible refine Kd.C_alloc ?_ _) | (with_reducible refine Kd.C_drewN ?_ _) | (with_reducible refine Kd.C_drew ?_))); (case side4 => exact HC2.out); rintro e w' ⟨rfl, ⟨nd, rfl⟩⟩; refine ⟨_, rfl, ?_⟩))
  (try simp only [Act.put, List.setIfInBounds_toArray, List.set_cons_zero, List.set_cons_succ])
  go_cut [27] (fun v27 wc => ∃ (kq : Nat) (x27_5 : Bool), v27 = .bool x27_5 ∧ Aside0 (stowagelaw12_SolveGreedy.j0 kq a0 l1 l2 t149 t153 x27_5 = some r) ∧ Aside0 (kq ≤ k) ∧ Aside0 (Kd.R (Kd.int .i64) 3 wc w.heap.size (fun _ => True) v151 t149) ∧ Aside0 (Below w.heap.size w wc))
  case first =>
    have H := HC6.out
    clear HC6
    replace H := Option.bind_eq_some_iff.mp H
    obtain ⟨t154, A80, H⟩ := H
    replace H : (if t154 = true then (stowagelaw12_SolveGreedy.j0 k a0 l1 l2 t149 t153 (t150 != t153)) else (stowagelaw12_SolveGreedy.j0 k a0 l1 l2 t149 t153 true)) = some r := H
    have A8 := Aside0.mk A80
    clear A80
    by_cases c9 : t154 = true
    · subst c9
      have H1 : (stowagelaw12_SolveGreedy.j0 k a0 l1 l2 t149 t153 (t150 != t153)) = some r := by rw [if_pos rfl] at H; exact H
      clear H
      have H := H1
      clear H1
      have H' := Aside0.mk H
      clear H
      go_wp2_with (first | ((with_reducible refine gate_callee (f := 11) rfl ?_); refine goesL_ (some 21) rfl rfl Try.func11 (by kernel_rfl) rfl #[] rfl (by (try simp only [List.map_toArray, List.map_cons, List.map_nil]); first | done | rfl | (simp only [List.length_drop, List.length_take]; rfl)) ?_; (with_reducible refine (stowagelaw12_awake.calls  true _ A8.out).mono ?_); rintro e w10 ⟨rfl, hb⟩; refine ⟨_, rfl, ?_⟩; have n0_ := Aside0.mk (Kd.R_below (by (with_reducible repeat (first | apply Kd.R_alloc | apply Kd.R_drewN | apply Kd.R_drew)); exact HO152.out) hb); have n1_ := Aside0.mk (below_step (by repeat (first | (with_reducible first | exact HB.out | apply below_alloc | apply pw_below_drewN | apply below_drew1) | exact HB.out)) hb); clear HO152; clear HB; have HO152 := n0_; have HB := n1_; clear n0_ n1_; (try clear hb); (try clear hb2); (try clear hk); (try clear hi)))
      go_meet
      case rel => exact ⟨_, ((t150 != t153)), (by first | rfl | (simp; done) | (simp [*]; done)), H', ⟨by first | omega | exact Nat.le_refl _⟩, ⟨by (with_reducible repeat (first | apply Kd.R_alloc | apply Kd.R_drewN | apply Kd.R_drew)); exact HO152.out⟩, ⟨by repeat (first | (with_reducible first | exact HB.out | apply below_alloc | apply pw_below_drewN | apply below_drew1) | exact HB.out)⟩⟩
    · replace c9 := Bool.eq_false_iff.mpr c9
      subst c9
      have H1 : (stowagelaw12_SolveGreedy.j0 k a0 l1 l2 t149 t153 true) = some r := by rw [if_neg (show ¬ (false = true) by decide)] at H; exact H
      clear H
      have H := H1
      clear H1
      have H' := Aside0.mk H
      clear H
      go_wp2_with (first | ((with_reducible refine gate_callee (f := 11) rfl ?_); refine goesL_ (some 21) rfl rfl Try.func11 (by kernel_rfl) rfl #[] rfl (by (try simp only [List.map_toArray, List.map_cons, List.map_nil]); first | done | rfl | (simp only [List.length_drop, List.length_take]; rfl)) ?_; (with_reducible refine (stowagelaw12_awake.calls  false _ A8.out).mono ?_); rintro e w11 ⟨rfl, hb⟩; refine ⟨_, rfl, ?_⟩; have n0_ := Aside0.mk (Kd.R_below (by (with_reducible repeat (first | apply Kd.R_alloc | apply Kd.R_drewN | apply Kd.R_drew)); exact HO152.out) hb); have n1_ := Aside0.mk (below_step (by repeat (first | (with_reducible first | exact HB.out | apply below_alloc | apply pw_below_drewN | apply below_drew1) | exact HB.out)) hb); clear HO152; clear HB; have HO152 := n0_; have HB := n1_; clear n0_ n1_; (try clear hb); (try clear hb2); (try clear hk); (try clear hi)))
      go_meet
      case rel => exact ⟨_, (true), (by first | rfl | (simp; done) | (simp [*]; done)), H', ⟨by first | omega | exact Nat.le_refl _⟩, ⟨by (with_reducible repeat (first | apply Kd.R_alloc | apply Kd.R_drewN | apply Kd.R_drew)); exact HO152.out⟩, ⟨by repeat (first | (with_reducible first | exact HB.out | apply below_alloc | apply pw_below_drewN | apply below_drew1) | exact HB.out)⟩⟩
  case rest =>
    clear HC6
    try clear c1
    try clear c2
    try clear p2
    try clear c3
    try clear c9
    try clear c10
    try clear c11
    obtain ⟨kq, x27_5, rfl, HA, HJ5, HO_7, HB⟩ := hcut
    cases kq with
    | zero => exact absurd HA.out (by simp [stowagelaw12_SolveGreedy.j0])
    | succ kj5 =>
      have H := HA.out
      clear HA
      simp only [stowagelaw12_SolveGreedy.j0] at H
      by_cases c12 : x27_5 = true
      · subst c12
        have H1 : (some false) = some r := by rw [if_pos rfl] at H; exact H
        clear H
        have H := H1
        clear H1
        obtain rfl := Option.some.inj H
        go_wp2
        go_ret
        exact ⟨by first | rfl | (simp [errW_none, errW_some] <;> rfl) | (simp [*, errW_none, errW_some] <;> rfl), by repeat (first | (with_reducible first | exact HB.out | apply below_alloc | apply pw_below_drewN | apply below_drew1) | exact HB.out)⟩
      · replace c12 := Bool.eq_false_iff.mpr c12
        subst c12
        have H1 : (if t153 = 0 then ((stowageref12_Greedy.f kj5 a0 l1 l2).bind fun t155 => ((stowageref01_SameInts.f kj5 t149 t155).bind fun t158 => (some t158))) else (some ((t149.length : Int) == 0))) = some r := by rw [if_neg (show ¬ (false = true) by decide)] at H; exact H
        clear H
        have H := H1
        clear H1
        by_cases c13 : t153 = 0
        · rw [if_pos c13] at H
          have c13b0 : (t153 == 0) = true := beq_iff_eq.mpr c13
          have c13b1 : (t153 != 0) = false := bne_eq_false_iff_eq.mpr c13
          clear c13
          replace H := Option.bind_eq_some_iff.mp H
          obtain ⟨t155, A140, H⟩ := H
          replace H : ((stowageref01_SameInts.f kj5 t149 t155).bind fun t158 => (some t158)) = some r := H
          have A14 := Aside0.mk A140
          clear A140
          replace H := Option.bind_eq_some_iff.mp H
          obtain ⟨t158, A150, H⟩ := H
          replace H : (some t158) = some r := H
          have A15 := Aside0.mk A150
          clear A150
          obtain rfl := Option.some.inj H
          go_wp2_with (first | ((with_reducible refine gate_callee (f := 13) rfl ?_); refine goesL_ (some 37) rfl rfl Try.func13 (by kernel_rfl) rfl #[.int .i64 a0, .slice A1 l1.length c1, .slice A2 l2.length c2] rfl (by (try simp only [List.map_toArray, List.map_cons, List.map_nil]); first | done | rfl | (simp only [List.length_drop, List.length_take]; rfl)) ?_; (with_reducible refine (stowageref12_Greedy.calls kj5 a0 _ _ l1 _ _ l2 t155 _ ?side1 ?side2 ?side3 ?side4 A14.out).mono ?_); (case side1 => repeat (first | exact (Kd.C_below HR1.out HB.out) | (with_reducible refine Kd.C_alloc ?_ _) | (with_reducible refine Kd.C_drewN ?_ _) | (with_reducible refine Kd.C_drew ?_))); (case side2 => exact HC1.out); (case side3 => repeat (first | exact (Kd.C_below HR2.out HB.out) | (with_reducible refine Kd.C_alloc ?_ _) | (with_reducible refine Kd.C_drewN ?_ _) | (with_reducible refine Kd.C_drew ?_))); (case side4 => exact HC2.out); rintro e w16 ⟨v156, rfl, ho0, hb⟩; refine ⟨_, rfl, ?_⟩; have n0_ := Aside0.mk (Kd.R_elder' (by (with_reducible repeat (first | apply Kd.R_alloc | apply Kd.R_drewN | apply Kd.R_drew)); exact HO_7.out) (Kd.R_base ho0) hb); have n1_ := Aside0.mk (Kd.R_lower (Kd.R_new' ho0 (Kd.R_lt (by (with_reducible repeat (first | apply Kd.R_alloc | apply Kd.R_drewN | apply Kd.R_drew)); exact HO_7.out))) (below_size (by repeat (first | (with_reducible first | exact HB.out | apply below_alloc | apply pw_below_drewN | apply below_drew1) | exact HB.out)))); have n2_ := Aside0.mk (below_step (by repeat (first | (with_reducible first | exact HB.out | apply below_alloc | apply pw_below_drewN | apply below_drew1) | exact HB.out)) hb); clear HO_7; clear HB; have HO_7 := n0_; have HO157 := n1_; have HB := n2_; clear n0_ n1_ n2_; (try clear hb); (try clear hb2); (try clear hk); (try clear hi); (try clear ho0); obtain ⟨Ao17, co17, eo17⟩ := Kd.R_slice HO_7.out; subst eo17; obtain ⟨Ao18, co18, eo18⟩ := Kd.R_slice HO157.out; subst eo18) | ((with_reducible refine gate_callee (f := 12) rfl ?_); refine goesL_ (some 38) rfl rfl Try.func12 (by kernel_rfl) rfl #[.slice Ao17 t149.length co17, .slice Ao18 t155.length co18] rfl (by (try simp only [List.map_toArray, List.map_cons, List.map_nil]); first | done | rfl | (simp only [List.length_drop, List.length_take]; rfl)) ?_; (with_reducible refine (stowageref01_SameInts.calls kj5 _ _ t149 _ _ t155 t158 _ ?side1 ?side2 ?side3 ?side4 A15.out).mono ?_); (case side1 => repeat (first | exact (Kd.R_reads' HO_7.out).2.2 | (with_reducible refine Kd.C_alloc ?_ _) | (with_reducible refine Kd.C_drewN ?_ _) | (with_reducible refine Kd.C_drew ?_))); (case side2 => exact (Kd.R_reads' HO_7.out).2.1); (case side3 => repeat (first | exact (Kd.R_reads' HO157.out).2.2 | (with_reducible refine Kd.C_alloc ?_ _) | (with_reducible refine Kd.C_drewN ?_ _) | (with_reducible refine Kd.C_drew ?_))); (case side4 => exact (Kd.R_reads' HO157.out).2.1); rintro e w' ⟨rfl, ⟨nd, rfl⟩⟩; refine ⟨_, rfl, ?_⟩))
          go_ret
          exact ⟨by first | rfl | (simp [errW_none, errW_some] <;> rfl) | (simp [*, errW_none, errW_some] <;> rfl), by repeat (first | (with_reducible first | exact HB.out | apply below_alloc | apply pw_below_drewN | apply below_drew1) | exact HB.out)⟩
        · rw [if_neg c13] at H
          have c13b0 : (t153 == 0) = false := beq_eq_false_iff_ne.mpr c13
          have c13b1 : (t153 != 0) = true := bne_iff_ne.mpr c13
          obtain rfl := Option.some.inj H
          obtain ⟨Ao19, co19, eo19⟩ := Kd.R_slice HO_7.out
          subst eo19
          go_wp2
          go_ret
          exact ⟨by first | rfl | (simp [errW_none, errW_some] <;> rfl) | (simp [*, errW_none, errW_some] <;> rfl), by repeat (first | (with_reducible first | exact HB.out | apply below_alloc | apply pw_below_drewN | apply below_drew1) | exact HB.out)⟩

end Go.Proofs.Ytmkeffpgofjlnaa.Q
