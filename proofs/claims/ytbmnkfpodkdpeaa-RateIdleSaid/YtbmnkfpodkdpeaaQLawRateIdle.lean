/- The law RateIdle: its walk. (The kit's print tool wrote these lines; they are laid out in texts of this claim's own.) -/
import Derived.Test.YtbmnkfpodkdpeaaQ0
import Derived.Test.YtbmnkfpodkdpeaaQrateFill
import Derived.Test.YtbmnkfpodkdpeaaQstowagelaw09awake
namespace Go.Proofs.Ytbmnkfpodkdpeaa.Q
open Go.RowKit Go.Proofs.YtbmnkfpodkdpeaaW.PrintWords Go.Proofs.YtbmnkfpodkdpeaaW.PrintLast Go.Proofs.YtbmnkfpodkdpeaaW.PrintMore
attribute [local go_sem] max2_int min2_int max_two min_two max_three min_three max_four min_four   -- for this text's walks alone
set_option linter.unusedVariables false
set_option linter.unusedSimpArgs false

/-! ### stowagelaw09_RateIdle: function 9 -/
def stowagelaw09_RateIdle.j0 : Nat → Int → Bool → Int → Int → Int → Int → Int → Int → Int → Int → Option (Bool)
  | 0, _, _, _, _, _, _, _, _, _, _ => none
  | k + 1, x1, x18, x117000, x117001, x117002, x117003, x123000, x123001, x123002, x123003 => if x18 = true then ((stowagelaw09_awake.f).bind fun t124 => (some t124)) else (if x117000 = 0 then (if x123002 = x117002 then (some (x123003 == x1)) else (some false)) else (if (wrap64 (x1 - x117003)) ≥ (wrap64 (65536 * x117001)) then (some (x123002 == (wrap64 (65536 * x117001)))) else (if x123002 ≥ x117002 then (if x123000 = x117000 then (some (x123001 == x117001)) else (some false)) else (some false))))
def stowagelaw09_RateIdle.f (k : Nat) (a0_0 : Int) (a0_1 : Int) (a0_2 : Int) (a0_3 : Int) (a1 : Int) : Option (Bool) := (rate_Fill.f a0_0 a0_1 a0_2 a0_3 a1).bind fun bt117 => ((stowagelaw09_awake.f).bind fun t123 => (if t123 = true then (stowagelaw09_RateIdle.j0 k a1 (bt117.2.2.2.2 != 0) a0_0 a0_1 a0_2 a0_3 bt117.1 bt117.2.1 bt117.2.2.1 bt117.2.2.2.1) else (stowagelaw09_RateIdle.j0 k a1 true a0_0 a0_1 a0_2 a0_3 bt117.1 bt117.2.1 bt117.2.2.1 bt117.2.2.2.1)))
theorem stowagelaw09_RateIdle.mono_l : ∀ k, (∀ y0 y1 y2 y3 y4 y5 y6 y7 y8 y9, LeO (stowagelaw09_RateIdle.j0 k y0 y1 y2 y3 y4 y5 y6 y7 y8 y9) (stowagelaw09_RateIdle.j0 (k + 1) y0 y1 y2 y3 y4 y5 y6 y7 y8 y9))
  | 0 => fun _ _ _ _ _ _ _ _ _ _ r h => by simp [stowagelaw09_RateIdle.j0] at h
  | k + 1 => by
    have ih0 := stowagelaw09_RateIdle.mono_l k
    · intro y0 y1 y2 y3 y4 y5 y6 y7 y8 y9
      unfold stowagelaw09_RateIdle.j0
      repeat' first
      | (with_reducible exact ih0 _ _ _ _ _ _ _ _ _ _)
      | (with_reducible exact LeO.refl _)
      | (with_reducible exact LeO.none _)
      | (with_reducible refine LeO.ite ?_ ?_)
      | (with_reducible refine LeO.bind ?_ (fun _ => ?_))
      | exact ih0 _ _ _ _ _ _ _ _ _ _
      | exact LeO.none _
      | refine LeO.ite ?_ ?_
      | refine LeO.bind ?_ (fun _ => ?_)
theorem stowagelaw09_RateIdle.mono : ∀ a0 a1 a2 a3 a4 k, LeO (stowagelaw09_RateIdle.f k a0 a1 a2 a3 a4) (stowagelaw09_RateIdle.f (k + 1) a0 a1 a2 a3 a4) := by
  intro a0 a1 a2 a3 a4 k
  have ih0 := stowagelaw09_RateIdle.mono_l k
  unfold stowagelaw09_RateIdle.f
  repeat' first
      | (with_reducible exact ih0 _ _ _ _ _ _ _ _ _ _)
      | (with_reducible exact LeO.refl _)
      | (with_reducible exact LeO.none _)
      | (with_reducible refine LeO.ite ?_ ?_)
      | (with_reducible refine LeO.bind ?_ (fun _ => ?_))
      | exact ih0 _ _ _ _ _ _ _ _ _ _
      | exact LeO.none _
      | refine LeO.ite ?_ ?_
      | refine LeO.bind ?_ (fun _ => ?_)
set_option maxHeartbeats 8000000 in
set_option maxRecDepth 100000 in
theorem stowagelaw09_RateIdle.calls (k : Nat) (a0_0 : Int) (a0_1 : Int) (a0_2 : Int) (a0_3 : Int) (a1 : Int) (r : Bool) (w : World) (h : stowagelaw09_RateIdle.f k a0_0 a0_1 a0_2 a0_3 a1 = some r) :
    Calls Try.prog 9 #[.agg #[.int .i64 a0_0, .int .i64 a0_1, .int .i64 a0_2, .int .i64 a0_3], .int .i64 a1] w fun e w' => e = .returned (.bool r) ∧ Below w.heap.size w w' := by
  have hu29 := Try.underlying29
  have HB := Aside0.mk (Below.refl w.heap.size w)
  have H : ((rate_Fill.f a0_0 a0_1 a0_2 a0_3 a1).bind fun bt117 => ((stowagelaw09_awake.f).bind fun t123 => (if t123 = true then (stowagelaw09_RateIdle.j0 k a1 (bt117.2.2.2.2 != 0) a0_0 a0_1 a0_2 a0_3 bt117.1 bt117.2.1 bt117.2.2.1 bt117.2.2.2.1) else (stowagelaw09_RateIdle.j0 k a1 true a0_0 a0_1 a0_2 a0_3 bt117.1 bt117.2.1 bt117.2.2.1 bt117.2.2.2.1)))) = some r := h
  clear h
  replace H := Option.bind_eq_some_iff.mp H
  obtain ⟨⟨t117, t118, t119, t120, t121⟩, A30, H⟩ := H
  replace H : ((stowagelaw09_awake.f).bind fun t123 => (if t123 = true then (stowagelaw09_RateIdle.j0 k a1 (t121 != 0) a0_0 a0_1 a0_2 a0_3 t117 t118 t119 t120) else (stowagelaw09_RateIdle.j0 k a1 true a0_0 a0_1 a0_2 a0_3 t117 t118 t119 t120))) = some r := H
  have A3 := Aside0.mk A30
  clear A30
  have HC4 := Aside0.mk H
  clear H
  go_enter Try.func9, Try.ntmps9
  go_upto_region 2 with (first | ((with_reducible refine gate_dst (N := 2) rfl ?_); refine box_event ?hg (N := 2) ?hd (cs := #[.int .i64 a0_0, .int .i64 a0_1, .int .i64 a0_2, .int .i64 a0_3]) (t := 29) ?hr ?_; (case hd => rfl); (case hg => rfl); (case hr => first | (go_simp; done) | (go_simp; rfl)); intro gb116 hg w5 hbox hb; have n0_ := Aside0.mk (below_step (by repeat (first | (with_reducible first | exact HB.out | apply below_alloc | apply pw_below_drewN | apply below_drew1) | exact HB.out)) hb); have n1_ := Aside0.mk (hbox); have n2_ := Aside0.mk ((by rw [hg]; exact (below_size (by repeat (first | (with_reducible first | exact HB.out | apply below_alloc | apply pw_below_drewN | apply below_drew1) | exact HB.out))) : w.heap.size ≤ gb116)); have n3_ := Aside0.mk ((by rw [hg]; exact (below_size (by repeat (first | (with_reducible first | exact HB.out | apply below_alloc | apply pw_below_drewN | apply below_drew1) | exact HB.out))) : w.heap.size ≤ gb116)); clear HB; have HB := n0_; have BK116 := n1_; have GW116 := n2_; have GE116 := n3_; clear n0_ n1_ n2_ n3_; clear hb hbox hg; have hcz6_0 : w5.cell? ⟨gb116, 0, none⟩ = some (.int .i64 a0_0) := (blk_cell BK116.out 0).trans rfl; have hcz6_1 : w5.cell? ⟨gb116, 1, none⟩ = some (.int .i64 a0_1) := (blk_cell BK116.out 1).trans rfl; have hcz6_2 : w5.cell? ⟨gb116, 2, none⟩ = some (.int .i64 a0_2) := (blk_cell BK116.out 2).trans rfl; have hcz6_3 : w5.cell? ⟨gb116, 3, none⟩ = some (.int .i64 a0_3) := (blk_cell BK116.out 3).trans rfl; have hfz6_0 := blk_frozen BK116.out 0; have hfz6_1 := blk_frozen BK116.out 1; have hfz6_2 := blk_frozen BK116.out 2; have hfz6_3 := blk_frozen BK116.out 3) | ((with_reducible refine gate_callee (f := 20) rfl ?_); refine goesL_ (some 10) rfl rfl Try.func20 (by kernel_rfl) rfl #[.agg #[.int .i64 a0_0, .int .i64 a0_1, .int .i64 a0_2, .int .i64 a0_3], .int .i64 a1] rfl (by (try simp only [List.map_toArray, List.map_cons, List.map_nil]); first | done | rfl | (simp only [List.length_drop, List.length_take]; rfl)) ?_; (with_reducible refine (rate_Fill.calls a0_0 a0_1 a0_2 a0_3 a1 t117 t118 t119 t120 t121 _ A3.out).mono ?_); rintro e w7 ⟨rfl, hb⟩; refine ⟨_, rfl, ?_⟩; have n0_ := Aside0.mk (blk_below (g := gb116) (o := .cells #[.int .i64 a0_0, .int .i64 a0_1, .int .i64 a0_2, .int .i64 a0_3] 29 (0, 0)) (by (with_reducible repeat (first | refine blk_drewN ?_ _ | refine blk_drew ?_ | refine blk_alloc ?_ _)); exact BK116.out) hb); have n1_ := Aside0.mk (below_step (by repeat (first | (with_reducible first | exact HB.out | apply below_alloc | apply pw_below_drewN | apply below_drew1 | refine below_set ?_ GE116.out) | exact HB.out)) hb); clear BK116; clear HB; have BK116 := n0_; have HB := n1_; clear n0_ n1_; (try clear hb); (try clear hb2); (try clear hk); (try clear hi)) | ((with_reducible refine gate_dst (N := 5) rfl ?_); refine box_event ?hg (N := 5) ?hd (cs := #[.int .i64 0, .int .i64 0, .int .i64 0, .int .i64 0]) (t := 29) ?hr ?_; (case hd => rfl); (case hg => rfl); (case hr => first | (go_simp; done) | (go_simp; rfl)); intro gb122 hg w8 hbox hb; have n0_ := Aside0.mk (blk_below (g := gb116) (o := .cells #[.int .i64 a0_0, .int .i64 a0_1, .int .i64 a0_2, .int .i64 a0_3] 29 (0, 0)) (by (with_reducible repeat (first | refine blk_drewN ?_ _ | refine blk_drew ?_ | refine blk_alloc ?_ _)); exact BK116.out) hb); have n1_ := Aside0.mk (below_step (by repeat (first | (with_reducible first | exact HB.out | apply below_alloc | apply pw_below_drewN | apply below_drew1 | refine below_set ?_ GE116.out) | exact HB.out)) hb); have n2_ := Aside0.mk (hbox); have n3_ := Aside0.mk ((by rw [hg]; exact (below_size (by repeat (first | (with_reducible first | exact HB.out | apply below_alloc | apply pw_below_drewN | apply below_drew1 | refine below_set ?_ GE116.out) | exact HB.out))) : w.heap.size ≤ gb122)); have n4_ := Aside0.mk ((by rw [hg]; exact (below_size (by repeat (first | (with_reducible first | exact HB.out | apply below_alloc | apply pw_below_drewN | apply below_drew1 | refine below_set ?_ GE116.out) | exact HB.out))) : w.heap.size ≤ gb122)); have n5_ := Aside0.mk ((by rw [hg]; exact Nat.ne_of_lt (blk_lt (g := gb116) (o := .cells #[.int .i64 a0_0, .int .i64 a0_1, .int .i64 a0_2, .int .i64 a0_3] 29 (0, 0)) (by (with_reducible repeat (first | refine blk_drewN ?_ _ | refine blk_drew ?_ | refine blk_alloc ?_ _)); exact BK116.out)) : gb116 ≠ gb122)); have n6_ := Aside0.mk ((by rw [hg]; exact Nat.ne_of_gt (blk_lt (g := gb116) (o := .cells #[.int .i64 a0_0, .int .i64 a0_1, .int .i64 a0_2, .int .i64 a0_3] 29 (0, 0)) (by (with_reducible repeat (first | refine blk_drewN ?_ _ | refine blk_drew ?_ | refine blk_alloc ?_ _)); exact BK116.out)) : gb122 ≠ gb116)); clear BK116; clear HB; have BK116 := n0_; have HB := n1_; have BK122 := n2_; have GW122 := n3_; have GE122 := n4_; have NB116_122 := n5_; have NB122_116 := n6_; clear n0_ n1_ n2_ n3_ n4_ n5_ n6_; clear hb hbox hg; have hnb9 := NB122_116.out; have hnc9 := NB116_122.out; have hcz10_0 : w8.cell? ⟨gb122, 0, none⟩ = some (.int .i64 0) := (blk_cell BK122.out 0).trans rfl; have hcz10_1 : w8.cell? ⟨gb122, 1, none⟩ = some (.int .i64 0) := (blk_cell BK122.out 1).trans rfl; have hcz10_2 : w8.cell? ⟨gb122, 2, none⟩ = some (.int .i64 0) := (blk_cell BK122.out 2).trans rfl; have hcz10_3 : w8.cell? ⟨gb122, 3, none⟩ = some (.int .i64 0) := (blk_cell BK122.out 3).trans rfl; have hfz10_0 := blk_frozen BK122.out 0; have hfz10_1 := blk_frozen BK122.out 1; have hfz10_2 := blk_frozen BK122.out 2; have hfz10_3 := blk_frozen BK122.out 3))
  (try simp only [Act.put, List.setIfInBounds_toArray, List.set_cons_zero, List.set_cons_succ])
  go_cut [18] (fun v18 wc => ∃ (kq : Nat) (x18_3 : Bool), v18 = .bool x18_3 ∧ Aside0 (stowagelaw09_RateIdle.j0 kq a1 x18_3 a0_0 a0_1 a0_2 a0_3 t117 t118 t119 t120 = some r) ∧ Aside0 (kq ≤ k) ∧ Aside0 (wc.heap[gb116]? = some (.cells #[.int .i64 a0_0, .int .i64 a0_1, .int .i64 a0_2, .int .i64 a0_3] 29 (0, 0))) ∧ Aside0 (wc.heap[gb122]? = some (.cells #[.int .i64 t117, .int .i64 t118, .int .i64 t119, .int .i64 t120] 29 (0, 0))) ∧ Aside0 (Below w.heap.size w wc))
  case first =>
    have H := HC4.out
    clear HC4
    replace H := Option.bind_eq_some_iff.mp H
    obtain ⟨t123, A110, H⟩ := H
    replace H : (if t123 = true then (stowagelaw09_RateIdle.j0 k a1 (t121 != 0) a0_0 a0_1 a0_2 a0_3 t117 t118 t119 t120) else (stowagelaw09_RateIdle.j0 k a1 true a0_0 a0_1 a0_2 a0_3 t117 t118 t119 t120)) = some r := H
    have A11 := Aside0.mk A110
    clear A110
    by_cases c12 : t123 = true
    · subst c12
      have H1 : (stowagelaw09_RateIdle.j0 k a1 (t121 != 0) a0_0 a0_1 a0_2 a0_3 t117 t118 t119 t120) = some r := by rw [if_pos rfl] at H; exact H
      clear H
      have H := H1
      clear H1
      have H' := Aside0.mk H
      clear H
      go_wp2_with (first | ((with_reducible refine gate_callee (f := 15) rfl ?_); refine goesL_ (some 13) rfl rfl Try.func15 (by kernel_rfl) rfl #[] rfl (by (try simp only [List.map_toArray, List.map_cons, List.map_nil]); first | done | rfl | (simp only [List.length_drop, List.length_take]; rfl)) ?_; (with_reducible refine (stowagelaw09_awake.calls  true _ A11.out).mono ?_); rintro e w13 ⟨rfl, hb⟩; refine ⟨_, rfl, ?_⟩; have n0_ := Aside0.mk (blk_below (g := gb116) (o := .cells #[.int .i64 a0_0, .int .i64 a0_1, .int .i64 a0_2, .int .i64 a0_3] 29 (0, 0)) (by (with_reducible repeat (first | refine blk_drewN ?_ _ | refine blk_drew ?_ | refine blk_alloc ?_ _)); refine blk_far ?_ NB116_122.out _; (with_reducible repeat (first | refine blk_drewN ?_ _ | refine blk_drew ?_ | refine blk_alloc ?_ _)); refine blk_far ?_ NB116_122.out _; (with_reducible repeat (first | refine blk_drewN ?_ _ | refine blk_drew ?_ | refine blk_alloc ?_ _)); refine blk_far ?_ NB116_122.out _; (with_reducible repeat (first | refine blk_drewN ?_ _ | refine blk_drew ?_ | refine blk_alloc ?_ _)); refine blk_far ?_ NB116_122.out _; (with_reducible repeat (first | refine blk_drewN ?_ _ | refine blk_drew ?_ | refine blk_alloc ?_ _)); exact BK116.out) hb); have n1_ := Aside0.mk (blk_below (g := gb122) (o := .cells #[.int .i64 t117, .int .i64 t118, .int .i64 t119, .int .i64 t120] 29 (0, 0)) (by (with_reducible repeat (first | refine blk_drewN ?_ _ | refine blk_drew ?_ | refine blk_alloc ?_ _)); refine blk_put (cs := #[.int .i64 t117, .int .i64 t118, .int .i64 t119, .int .i64 0]) ?_ 3 _ rfl; (with_reducible repeat (first | refine blk_drewN ?_ _ | refine blk_drew ?_ | refine blk_alloc ?_ _)); refine blk_put (cs := #[.int .i64 t117, .int .i64 t118, .int .i64 0, .int .i64 0]) ?_ 2 _ rfl; (with_reducible repeat (first | refine blk_drewN ?_ _ | refine blk_drew ?_ | refine blk_alloc ?_ _)); refine blk_put (cs := #[.int .i64 t117, .int .i64 0, .int .i64 0, .int .i64 0]) ?_ 1 _ rfl; (with_reducible repeat (first | refine blk_drewN ?_ _ | refine blk_drew ?_ | refine blk_alloc ?_ _)); refine blk_put (cs := #[.int .i64 0, .int .i64 0, .int .i64 0, .int .i64 0]) ?_ 0 _ rfl; (with_reducible repeat (first | refine blk_drewN ?_ _ | refine blk_drew ?_ | refine blk_alloc ?_ _)); exact BK122.out) hb); have n2_ := Aside0.mk (below_step (by repeat (first | (with_reducible first | exact HB.out | apply below_alloc | apply pw_below_drewN | apply below_drew1 | refine below_set ?_ GE116.out | refine below_set ?_ GE122.out) | exact HB.out)) hb); clear BK116; clear BK122; clear HB; have BK116 := n0_; have BK122 := n1_; have HB := n2_; clear n0_ n1_ n2_; (try clear hb); (try clear hb2); (try clear hk); (try clear hi)))
      go_meet
      case rel => exact ⟨_, ((t121 != 0)), (by first | rfl | (simp; done) | (simp [*]; done)), H', ⟨by first | omega | exact Nat.le_refl _⟩, ⟨by (with_reducible repeat (first | refine blk_drewN ?_ _ | refine blk_drew ?_ | refine blk_alloc ?_ _)); exact BK116.out⟩, ⟨by (with_reducible repeat (first | refine blk_drewN ?_ _ | refine blk_drew ?_ | refine blk_alloc ?_ _)); exact BK122.out⟩, ⟨by repeat (first | (with_reducible first | exact HB.out | apply below_alloc | apply pw_below_drewN | apply below_drew1 | refine below_set ?_ GE116.out | refine below_set ?_ GE122.out) | exact HB.out)⟩⟩
    · replace c12 := Bool.eq_false_iff.mpr c12
      subst c12
      have H1 : (stowagelaw09_RateIdle.j0 k a1 true a0_0 a0_1 a0_2 a0_3 t117 t118 t119 t120) = some r := by rw [if_neg (show ¬ (false = true) by decide)] at H; exact H
      clear H
      have H := H1
      clear H1
      have H' := Aside0.mk H
      clear H
      go_wp2_with (first | ((with_reducible refine gate_callee (f := 15) rfl ?_); refine goesL_ (some 13) rfl rfl Try.func15 (by kernel_rfl) rfl #[] rfl (by (try simp only [List.map_toArray, List.map_cons, List.map_nil]); first | done | rfl | (simp only [List.length_drop, List.length_take]; rfl)) ?_; (with_reducible refine (stowagelaw09_awake.calls  false _ A11.out).mono ?_); rintro e w14 ⟨rfl, hb⟩; refine ⟨_, rfl, ?_⟩; have n0_ := Aside0.mk (blk_below (g := gb116) (o := .cells #[.int .i64 a0_0, .int .i64 a0_1, .int .i64 a0_2, .int .i64 a0_3] 29 (0, 0)) (by (with_reducible repeat (first | refine blk_drewN ?_ _ | refine blk_drew ?_ | refine blk_alloc ?_ _)); refine blk_far ?_ NB116_122.out _; (with_reducible repeat (first | refine blk_drewN ?_ _ | refine blk_drew ?_ | refine blk_alloc ?_ _)); refine blk_far ?_ NB116_122.out _; (with_reducible repeat (first | refine blk_drewN ?_ _ | refine blk_drew ?_ | refine blk_alloc ?_ _)); refine blk_far ?_ NB116_122.out _; (with_reducible repeat (first | refine blk_drewN ?_ _ | refine blk_drew ?_ | refine blk_alloc ?_ _)); refine blk_far ?_ NB116_122.out _; (with_reducible repeat (first | refine blk_drewN ?_ _ | refine blk_drew ?_ | refine blk_alloc ?_ _)); exact BK116.out) hb); have n1_ := Aside0.mk (blk_below (g := gb122) (o := .cells #[.int .i64 t117, .int .i64 t118, .int .i64 t119, .int .i64 t120] 29 (0, 0)) (by (with_reducible repeat (first | refine blk_drewN ?_ _ | refine blk_drew ?_ | refine blk_alloc ?_ _)); refine blk_put (cs := #[.int .i64 t117, .int .i64 t118, .int .i64 t119, .int .i64 0]) ?_ 3 _ rfl; (with_reducible repeat (first | refine blk_drewN ?_ _ | refine blk_drew ?_ | refine blk_alloc ?_ _)); refine blk_put (cs := #[.int .i64 t117, .int .i64 t118, .int .i64 0, .int .i64 0]) ?_ 2 _ rfl; (with_reducible repeat (first | refine blk_drewN ?_ _ | refine blk_drew ?_ | refine blk_alloc ?_ _)); refine blk_put (cs := #[.int .i64 t117, .int .i64 0, .int .i64 0, .int .i64 0]) ?_ 1 _ rfl; (with_reducible repeat (first | refine blk_drewN ?_ _ | refine blk_drew ?_ | refine blk_alloc ?_ _)); refine blk_put (cs := #[.int .i64 0, .int .i64 0, .int .i64 0, .int .i64 0]) ?_ 0 _ rfl; (with_reducible repeat (first | refine blk_drewN ?_ _ | refine blk_drew ?_ | refine blk_alloc ?_ _)); exact BK122.out) hb); have n2_ := Aside0.mk (below_step (by repeat (first | (with_reducible first | exact HB.out | apply below_alloc | apply pw_below_drewN | apply below_drew1 | refine below_set ?_ GE116.out | refine below_set ?_ GE122.out) | exact HB.out)) hb); clear BK116; clear BK122; clear HB; have BK116 := n0_; have BK122 := n1_; have HB := n2_; clear n0_ n1_ n2_; (try clear hb); (try clear hb2); (try clear hk); (try clear hi)))
      go_meet
      case rel => exact ⟨_, (true), (by first | rfl | (simp; done) | (simp [*]; done)), H', ⟨by first | omega | exact Nat.le_refl _⟩, ⟨by (with_reducible repeat (first | refine blk_drewN ?_ _ | refine blk_drew ?_ | refine blk_alloc ?_ _)); exact BK116.out⟩, ⟨by (with_reducible repeat (first | refine blk_drewN ?_ _ | refine blk_drew ?_ | refine blk_alloc ?_ _)); exact BK122.out⟩, ⟨by repeat (first | (with_reducible first | exact HB.out | apply below_alloc | apply pw_below_drewN | apply below_drew1 | refine below_set ?_ GE116.out | refine below_set ?_ GE122.out) | exact HB.out)⟩⟩
  case rest =>
    clear HC4
    try clear c1
    try clear c2
    try clear p2
    try clear c9
    try clear c12
    try clear hcz10_0
    try clear hcz10_1
    try clear hcz10_2
    try clear hcz10_3
    try clear hcz6_0
    try clear hcz6_1
    try clear hcz6_2
    try clear hcz6_3
    try clear hfz10_0
    try clear hfz10_1
    try clear hfz10_2
    try clear hfz10_3
    try clear hfz6_0
    try clear hfz6_1
    try clear hfz6_2
    try clear hfz6_3
    obtain ⟨kq, x18_3, rfl, HA, HJ3, BK116, BK122, HB⟩ := hcut
    cases kq with
    | zero => exact absurd HA.out (by simp [stowagelaw09_RateIdle.j0])
    | succ kj3 =>
      have H := HA.out
      clear HA
      simp only [stowagelaw09_RateIdle.j0] at H
      by_cases c15 : x18_3 = true
      · subst c15
        have H1 : ((stowagelaw09_awake.f).bind fun t124 => (some t124)) = some r := by rw [if_pos rfl] at H; exact H
        clear H
        have H := H1
        clear H1
        replace H := Option.bind_eq_some_iff.mp H
        obtain ⟨t124, A160, H⟩ := H
        replace H : (some t124) = some r := H
        have A16 := Aside0.mk A160
        clear A160
        obtain rfl := Option.some.inj H
        go_wp2_with (first | ((with_reducible refine gate_callee (f := 15) rfl ?_); refine goesL_ (some 19) rfl rfl Try.func15 (by kernel_rfl) rfl #[] rfl (by (try simp only [List.map_toArray, List.map_cons, List.map_nil]); first | done | rfl | (simp only [List.length_drop, List.length_take]; rfl)) ?_; (with_reducible refine (stowagelaw09_awake.calls  t124 _ A16.out).mono ?_); rintro e w17 ⟨rfl, hb⟩; refine ⟨_, rfl, ?_⟩; have n0_ := Aside0.mk (blk_below (g := gb116) (o := .cells #[.int .i64 a0_0, .int .i64 a0_1, .int .i64 a0_2, .int .i64 a0_3] 29 (0, 0)) (by (with_reducible repeat (first | refine blk_drewN ?_ _ | refine blk_drew ?_ | refine blk_alloc ?_ _)); exact BK116.out) hb); have n1_ := Aside0.mk (blk_below (g := gb122) (o := .cells #[.int .i64 t117, .int .i64 t118, .int .i64 t119, .int .i64 t120] 29 (0, 0)) (by (with_reducible repeat (first | refine blk_drewN ?_ _ | refine blk_drew ?_ | refine blk_alloc ?_ _)); exact BK122.out) hb); have n2_ := Aside0.mk (below_step (by repeat (first | (with_reducible first | exact HB.out | apply below_alloc | apply pw_below_drewN | apply below_drew1 | refine below_set ?_ GE116.out | refine below_set ?_ GE122.out) | exact HB.out)) hb); clear BK116; clear BK122; clear HB; have BK116 := n0_; have BK122 := n1_; have HB := n2_; clear n0_ n1_ n2_; (try clear hb); (try clear hb2); (try clear hk); (try clear hi)))
        go_ret
        exact ⟨by first | rfl | (simp [errW_none, errW_some] <;> rfl) | (simp [*, errW_none, errW_some] <;> rfl), by repeat (first | (with_reducible first | exact HB.out | apply below_alloc | apply pw_below_drewN | apply below_drew1 | refine below_set ?_ GE116.out | refine below_set ?_ GE122.out) | exact HB.out)⟩
      · replace c15 := Bool.eq_false_iff.mpr c15
        subst c15
        have H1 : (if a0_0 = 0 then (if t119 = a0_2 then (some (t120 == a1)) else (some false)) else (if (wrap64 (a1 - a0_3)) ≥ (wrap64 (65536 * a0_1)) then (some (t119 == (wrap64 (65536 * a0_1)))) else (if t119 ≥ a0_2 then (if t117 = a0_0 then (some (t118 == a0_1)) else (some false)) else (some false)))) = some r := by rw [if_neg (show ¬ (false = true) by decide)] at H; exact H
        clear H
        have H := H1
        clear H1
        by_cases c18 : a0_0 = 0
        · rw [if_pos c18] at H
          have c18b0 : (a0_0 == 0) = true := beq_iff_eq.mpr c18
          have c18b1 : (a0_0 != 0) = false := bne_eq_false_iff_eq.mpr c18
          clear c18
          by_cases c19 : t119 = a0_2
          · rw [if_pos c19] at H
            have c19b0 : (t119 == a0_2) = true := beq_iff_eq.mpr c19
            have c19b1 : (t119 != a0_2) = false := bne_eq_false_iff_eq.mpr c19
            clear c19
            obtain rfl := Option.some.inj H
            have hnb20 := NB116_122.out
            have hnc20 := NB122_116.out
            have hcz21_0 : wc.cell? ⟨gb116, 0, none⟩ = some (.int .i64 a0_0) := (blk_cell BK116.out 0).trans rfl
            have hcz21_1 : wc.cell? ⟨gb116, 1, none⟩ = some (.int .i64 a0_1) := (blk_cell BK116.out 1).trans rfl
            have hcz21_2 : wc.cell? ⟨gb116, 2, none⟩ = some (.int .i64 a0_2) := (blk_cell BK116.out 2).trans rfl
            have hcz21_3 : wc.cell? ⟨gb116, 3, none⟩ = some (.int .i64 a0_3) := (blk_cell BK116.out 3).trans rfl
            have hfz21_0 := blk_frozen BK116.out 0
            have hfz21_1 := blk_frozen BK116.out 1
            have hfz21_2 := blk_frozen BK116.out 2
            have hfz21_3 := blk_frozen BK116.out 3
            have hcz22_0 : wc.cell? ⟨gb122, 0, none⟩ = some (.int .i64 t117) := (blk_cell BK122.out 0).trans rfl
            have hcz22_1 : wc.cell? ⟨gb122, 1, none⟩ = some (.int .i64 t118) := (blk_cell BK122.out 1).trans rfl
            have hcz22_2 : wc.cell? ⟨gb122, 2, none⟩ = some (.int .i64 t119) := (blk_cell BK122.out 2).trans rfl
            have hcz22_3 : wc.cell? ⟨gb122, 3, none⟩ = some (.int .i64 t120) := (blk_cell BK122.out 3).trans rfl
            have hfz22_0 := blk_frozen BK122.out 0
            have hfz22_1 := blk_frozen BK122.out 1
            have hfz22_2 := blk_frozen BK122.out 2
            have hfz22_3 := blk_frozen BK122.out 3
            go_wp2
            go_ret
            exact ⟨by first | rfl | (simp [errW_none, errW_some] <;> rfl) | (simp [*, errW_none, errW_some] <;> rfl), by repeat (first | (with_reducible first | exact HB.out | apply below_alloc | apply pw_below_drewN | apply below_drew1 | refine below_set ?_ GE116.out | refine below_set ?_ GE122.out) | exact HB.out)⟩
          · rw [if_neg c19] at H
            have c19b0 : (t119 == a0_2) = false := beq_eq_false_iff_ne.mpr c19
            have c19b1 : (t119 != a0_2) = true := bne_iff_ne.mpr c19
            obtain rfl := Option.some.inj H
            have hnb23 := NB116_122.out
            have hnc23 := NB122_116.out
            have hcz24_0 : wc.cell? ⟨gb116, 0, none⟩ = some (.int .i64 a0_0) := (blk_cell BK116.out 0).trans rfl
            have hcz24_1 : wc.cell? ⟨gb116, 1, none⟩ = some (.int .i64 a0_1) := (blk_cell BK116.out 1).trans rfl
            have hcz24_2 : wc.cell? ⟨gb116, 2, none⟩ = some (.int .i64 a0_2) := (blk_cell BK116.out 2).trans rfl
            have hcz24_3 : wc.cell? ⟨gb116, 3, none⟩ = some (.int .i64 a0_3) := (blk_cell BK116.out 3).trans rfl
            have hfz24_0 := blk_frozen BK116.out 0
            have hfz24_1 := blk_frozen BK116.out 1
            have hfz24_2 := blk_frozen BK116.out 2
            have hfz24_3 := blk_frozen BK116.out 3
            have hcz25_0 : wc.cell? ⟨gb122, 0, none⟩ = some (.int .i64 t117) := (blk_cell BK122.out 0).trans rfl
            have hcz25_1 : wc.cell? ⟨gb122, 1, none⟩ = some (.int .i64 t118) := (blk_cell BK122.out 1).trans rfl
            have hcz25_2 : wc.cell? ⟨gb122, 2, none⟩ = some (.int .i64 t119) := (blk_cell BK122.out 2).trans rfl
            have hcz25_3 : wc.cell? ⟨gb122, 3, none⟩ = some (.int .i64 t120) := (blk_cell BK122.out 3).trans rfl
            have hfz25_0 := blk_frozen BK122.out 0
            have hfz25_1 := blk_frozen BK122.out 1
            have hfz25_2 := blk_frozen BK122.out 2
            have hfz25_3 := blk_frozen BK122.out 3
            go_wp2
            go_ret
            exact ⟨by first | rfl | (simp [errW_none, errW_some] <;> rfl) | (simp [*, errW_none, errW_some] <;> rfl), by repeat (first | (with_reducible first | exact HB.out | apply below_alloc | apply pw_below_drewN | apply below_drew1 | refine below_set ?_ GE116.out | refine below_set ?_ GE122.out) | exact HB.out)⟩
        · rw [if_neg c18] at H
          have c18b0 : (a0_0 == 0) = false := beq_eq_false_iff_ne.mpr c18
          have c18b1 : (a0_0 != 0) = true := bne_iff_ne.mpr c18
          by_cases c26 : (wrap64 (a1 - a0_3)) ≥ (wrap64 (65536 * a0_1))
          · rw [if_pos c26] at H
            have c26b0 : decide ((wrap64 (65536 * a0_1)) ≤ (wrap64 (a1 - a0_3))) = true := decide_eq_true c26
            clear c26
            obtain rfl := Option.some.inj H
            have hnb27 := NB116_122.out
            have hnc27 := NB122_116.out
            have hcz28_0 : wc.cell? ⟨gb116, 0, none⟩ = some (.int .i64 a0_0) := (blk_cell BK116.out 0).trans rfl
            have hcz28_1 : wc.cell? ⟨gb116, 1, none⟩ = some (.int .i64 a0_1) := (blk_cell BK116.out 1).trans rfl
            have hcz28_2 : wc.cell? ⟨gb116, 2, none⟩ = some (.int .i64 a0_2) := (blk_cell BK116.out 2).trans rfl
            have hcz28_3 : wc.cell? ⟨gb116, 3, none⟩ = some (.int .i64 a0_3) := (blk_cell BK116.out 3).trans rfl
            have hfz28_0 := blk_frozen BK116.out 0
            have hfz28_1 := blk_frozen BK116.out 1
            have hfz28_2 := blk_frozen BK116.out 2
            have hfz28_3 := blk_frozen BK116.out 3
            have hcz29_0 : wc.cell? ⟨gb122, 0, none⟩ = some (.int .i64 t117) := (blk_cell BK122.out 0).trans rfl
            have hcz29_1 : wc.cell? ⟨gb122, 1, none⟩ = some (.int .i64 t118) := (blk_cell BK122.out 1).trans rfl
            have hcz29_2 : wc.cell? ⟨gb122, 2, none⟩ = some (.int .i64 t119) := (blk_cell BK122.out 2).trans rfl
            have hcz29_3 : wc.cell? ⟨gb122, 3, none⟩ = some (.int .i64 t120) := (blk_cell BK122.out 3).trans rfl
            have hfz29_0 := blk_frozen BK122.out 0
            have hfz29_1 := blk_frozen BK122.out 1
            have hfz29_2 := blk_frozen BK122.out 2
            have hfz29_3 := blk_frozen BK122.out 3
            go_wp2
            go_ret
            exact ⟨by first | rfl | (simp [errW_none, errW_some] <;> rfl) | (simp [*, errW_none, errW_some] <;> rfl), by repeat (first | (with_reducible first | exact HB.out | apply below_alloc | apply pw_below_drewN | apply below_drew1 | refine below_set ?_ GE116.out | refine below_set ?_ GE122.out) | exact HB.out)⟩
          · rw [if_neg c26] at H
            have c26b0 : decide ((wrap64 (65536 * a0_1)) ≤ (wrap64 (a1 - a0_3))) = false := decide_eq_false c26
            clear c26
            by_cases c30 : t119 ≥ a0_2
            · rw [if_pos c30] at H
              have c30b0 : decide (a0_2 ≤ t119) = true := decide_eq_true c30
              clear c30
              by_cases c31 : t117 = a0_0
              · rw [if_pos c31] at H
                have c31b0 : (t117 == a0_0) = true := beq_iff_eq.mpr c31
                have c31b1 : (t117 != a0_0) = false := bne_eq_false_iff_eq.mpr c31
                clear c31
                obtain rfl := Option.some.inj H
                have hnb32 := NB116_122.out
                have hnc32 := NB122_116.out
                have hcz33_0 : wc.cell? ⟨gb116, 0, none⟩ = some (.int .i64 a0_0) := (blk_cell BK116.out 0).trans rfl
                have hcz33_1 : wc.cell? ⟨gb116, 1, none⟩ = some (.int .i64 a0_1) := (blk_cell BK116.out 1).trans rfl
                have hcz33_2 : wc.cell? ⟨gb116, 2, none⟩ = some (.int .i64 a0_2) := (blk_cell BK116.out 2).trans rfl
                have hcz33_3 : wc.cell? ⟨gb116, 3, none⟩ = some (.int .i64 a0_3) := (blk_cell BK116.out 3).trans rfl
                have hfz33_0 := blk_frozen BK116.out 0
                have hfz33_1 := blk_frozen BK116.out 1
                have hfz33_2 := blk_frozen BK116.out 2
                have hfz33_3 := blk_frozen BK116.out 3
                have hcz34_0 : wc.cell? ⟨gb122, 0, none⟩ = some (.int .i64 t117) := (blk_cell BK122.out 0).trans rfl
                have hcz34_1 : wc.cell? ⟨gb122, 1, none⟩ = some (.int .i64 t118) := (blk_cell BK122.out 1).trans rfl
                have hcz34_2 : wc.cell? ⟨gb122, 2, none⟩ = some (.int .i64 t119) := (blk_cell BK122.out 2).trans rfl
                have hcz34_3 : wc.cell? ⟨gb122, 3, none⟩ = some (.int .i64 t120) := (blk_cell BK122.out 3).trans rfl
                have hfz34_0 := blk_frozen BK122.out 0
                have hfz34_1 := blk_frozen BK122.out 1
                have hfz34_2 := blk_frozen BK122.out 2
                have hfz34_3 := blk_frozen BK122.out 3
                go_wp2
                go_ret
                exact ⟨by first | rfl | (simp [errW_none, errW_some] <;> rfl) | (simp [*, errW_none, errW_some] <;> rfl), by repeat (first | (with_reducible first | exact HB.out | apply below_alloc | apply pw_below_drewN | apply below_drew1 | refine below_set ?_ GE116.out | refine below_set ?_ GE122.out) | exact HB.out)⟩
              · rw [if_neg c31] at H
                have c31b0 : (t117 == a0_0) = false := beq_eq_false_iff_ne.mpr c31
                have c31b1 : (t117 != a0_0) = true := bne_iff_ne.mpr c31
                obtain rfl := Option.some.inj H
                have hnb35 := NB116_122.out
                have hnc35 := NB122_116.out
                have hcz36_0 : wc.cell? ⟨gb116, 0, none⟩ = some (.int .i64 a0_0) := (blk_cell BK116.out 0).trans rfl
                have hcz36_1 : wc.cell? ⟨gb116, 1, none⟩ = some (.int .i64 a0_1) := (blk_cell BK116.out 1).trans rfl
                have hcz36_2 : wc.cell? ⟨gb116, 2, none⟩ = some (.int .i64 a0_2) := (blk_cell BK116.out 2).trans rfl
                have hcz36_3 : wc.cell? ⟨gb116, 3, none⟩ = some (.int .i64 a0_3) := (blk_cell BK116.out 3).trans rfl
                have hfz36_0 := blk_frozen BK116.out 0
                have hfz36_1 := blk_frozen BK116.out 1
                have hfz36_2 := blk_frozen BK116.out 2
                have hfz36_3 := blk_frozen BK116.out 3
                have hcz37_0 : wc.cell? ⟨gb122, 0, none⟩ = some (.int .i64 t117) := (blk_cell BK122.out 0).trans rfl
                have hcz37_1 : wc.cell? ⟨gb122, 1, none⟩ = some (.int .i64 t118) := (blk_cell BK122.out 1).trans rfl
                have hcz37_2 : wc.cell? ⟨gb122, 2, none⟩ = some (.int .i64 t119) := (blk_cell BK122.out 2).trans rfl
                have hcz37_3 : wc.cell? ⟨gb122, 3, none⟩ = some (.int .i64 t120) := (blk_cell BK122.out 3).trans rfl
                have hfz37_0 := blk_frozen BK122.out 0
                have hfz37_1 := blk_frozen BK122.out 1
                have hfz37_2 := blk_frozen BK122.out 2
                have hfz37_3 := blk_frozen BK122.out 3
                go_wp2
                go_ret
                exact ⟨by first | rfl | (simp [errW_none, errW_some] <;> rfl) | (simp [*, errW_none, errW_some] <;> rfl), by repeat (first | (with_reducible first | exact HB.out | apply below_alloc | apply pw_below_drewN | apply below_drew1 | refine below_set ?_ GE116.out | refine below_set ?_ GE122.out) | exact HB.out)⟩
            · rw [if_neg c30] at H
              have c30b0 : decide (a0_2 ≤ t119) = false := decide_eq_false c30
              clear c30
              obtain rfl := Option.some.inj H
              have hnb38 := NB116_122.out
              have hnc38 := NB122_116.out
              have hcz39_0 : wc.cell? ⟨gb116, 0, none⟩ = some (.int .i64 a0_0) := (blk_cell BK116.out 0).trans rfl
              have hcz39_1 : wc.cell? ⟨gb116, 1, none⟩ = some (.int .i64 a0_1) := (blk_cell BK116.out 1).trans rfl
              have hcz39_2 : wc.cell? ⟨gb116, 2, none⟩ = some (.int .i64 a0_2) := (blk_cell BK116.out 2).trans rfl
              have hcz39_3 : wc.cell? ⟨gb116, 3, none⟩ = some (.int .i64 a0_3) := (blk_cell BK116.out 3).trans rfl
              have hfz39_0 := blk_frozen BK116.out 0
              have hfz39_1 := blk_frozen BK116.out 1
              have hfz39_2 := blk_frozen BK116.out 2
              have hfz39_3 := blk_frozen BK116.out 3
              have hcz40_0 : wc.cell? ⟨gb122, 0, none⟩ = some (.int .i64 t117) := (blk_cell BK122.out 0).trans rfl
              have hcz40_1 : wc.cell? ⟨gb122, 1, none⟩ = some (.int .i64 t118) := (blk_cell BK122.out 1).trans rfl
              have hcz40_2 : wc.cell? ⟨gb122, 2, none⟩ = some (.int .i64 t119) := (blk_cell BK122.out 2).trans rfl
              have hcz40_3 : wc.cell? ⟨gb122, 3, none⟩ = some (.int .i64 t120) := (blk_cell BK122.out 3).trans rfl
              have hfz40_0 := blk_frozen BK122.out 0
              have hfz40_1 := blk_frozen BK122.out 1
              have hfz40_2 := blk_frozen BK122.out 2
              have hfz40_3 := blk_frozen BK122.out 3
              go_wp2
              go_ret
              exact ⟨by first | rfl | (simp [errW_none, errW_some] <;> rfl) | (simp [*, errW_none, errW_some] <;> rfl), by repeat (first | (with_reducible first | exact HB.out | apply below_alloc | apply pw_below_drewN | apply below_drew1 | refine below_set ?_ GE116.out | refine below_set ?_ GE122.out) | exact HB.out)⟩

end Go.Proofs.Ytbmnkfpodkdpeaa.Q
