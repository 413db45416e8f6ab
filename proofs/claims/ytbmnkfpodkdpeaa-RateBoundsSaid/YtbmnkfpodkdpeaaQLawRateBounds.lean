/- The law RateBounds: its walk. (The kit's print tool wrote these lines; they are laid out in texts of this claim's own.) -/
import Derived.Test.YtbmnkfpodkdpeaaQ0
import Derived.Test.YtbmnkfpodkdpeaaQrateTake
import Derived.Test.YtbmnkfpodkdpeaaQstowagelaw09awake
namespace Go.Proofs.Ytbmnkfpodkdpeaa.Q
open Go.RowKit Go.Proofs.YtbmnkfpodkdpeaaW.PrintWords Go.Proofs.YtbmnkfpodkdpeaaW.PrintLast Go.Proofs.YtbmnkfpodkdpeaaW.PrintMore
attribute [local go_sem] max2_int min2_int max_two min_two max_three min_three max_four min_four   -- for this text's walks alone
set_option linter.unusedVariables false
set_option linter.unusedSimpArgs false

/-! ### stowagelaw09_RateBounds: function 8 -/
mutual
def stowagelaw09_RateBounds.j4 : Nat → Int → Int → Int → Int → Int → Int → Option (Bool)
  | 0, _, _, _, _, _, _ => none
  | k + 1, x7, x8, x117000, x117001, x117002, x117003 => (stowagelaw09_awake.f).bind fun t126 => (if t126 = true then (stowagelaw09_RateBounds.j5 k x7 x8 (x8 == 0) x117000 x117001 x117002 x117003) else (stowagelaw09_RateBounds.j5 k x7 x8 true x117000 x117001 x117002 x117003))
def stowagelaw09_RateBounds.j5 : Nat → Int → Int → Bool → Int → Int → Int → Int → Option (Bool)
  | 0, _, _, _, _, _, _, _ => none
  | k + 1, x7, x8, x73, x117000, x117001, x117002, x117003 => if x73 = true then ((stowagelaw09_awake.f).bind fun t127 => (some t127)) else (if x117000 > 0 then (if (wrap64 (x117003 - x7)) > 1073741824 then (some true) else (some (decide ((wrap64 (65536 * x8)) ≤ (wrap64 ((wrap64 (65536 * x117001)) + (wrap64 (x117000 * (wrap64 (x117003 - x7)))))))))) else (some (decide ((wrap64 (65536 * x8)) ≤ (wrap64 ((wrap64 (65536 * x117001)) + (wrap64 (x117000 * (wrap64 (x117003 - x7))))))))))
def stowagelaw09_RateBounds.l0 : Nat → List Int → List Int → Int → Int → Int → Int → Int → Int → Int → Option (Bool)
  | 0, _, _, _, _, _, _, _, _, _ => none
  | k + 1, x1, x2, x7, x8, x9, x117000, x117001, x117002, x117003 => if x9 < (x1.length : Int) then (stowagelaw09_RateBounds.j1 k x1 x2 x7 x8 x9 (decide (x9 < 200)) x117000 x117001 x117002 x117003) else (stowagelaw09_RateBounds.j1 k x1 x2 x7 x8 x9 false x117000 x117001 x117002 x117003)
def stowagelaw09_RateBounds.j1 : Nat → List Int → List Int → Int → Int → Int → Bool → Int → Int → Int → Int → Option (Bool)
  | 0, _, _, _, _, _, _, _, _, _, _ => none
  | k + 1, x1, x2, x7, x8, x9, x23, x117000, x117001, x117002, x117003 => if x23 = true then (if x9 < (x2.length : Int) then (stowagelaw09_RateBounds.j2 k x1 x2 x7 x8 x9 x117003 (decide (x117003 < 1099511557776)) x117000 x117001 x117002 x117003) else (stowagelaw09_RateBounds.j2 k x1 x2 x7 x8 x9 x117003 false x117000 x117001 x117002 x117003)) else (stowagelaw09_RateBounds.j4 k x7 x8 x117000 x117001 x117002 x117003)
def stowagelaw09_RateBounds.j2 : Nat → List Int → List Int → Int → Int → Int → Int → Bool → Int → Int → Int → Int → Option (Bool)
  | 0, _, _, _, _, _, _, _, _, _, _, _ => none
  | k + 1, x1, x2, x7, x8, x9, x10, x35, x117000, x117001, x117002, x117003 => if x35 = true then (if 0 ≤ x9 then (if x9 < (x2.length : Int) then (stowagelaw09_RateBounds.j3 k x1 x2 x7 x8 x9 (wrap64 (x10 + (wrap64 (rd x2 x9)))) x117000 x117001 x117002 x117003) else (none)) else (none)) else (stowagelaw09_RateBounds.j3 k x1 x2 x7 x8 x9 x10 x117000 x117001 x117002 x117003)
def stowagelaw09_RateBounds.j3 : Nat → List Int → List Int → Int → Int → Int → Int → Int → Int → Int → Int → Option (Bool)
  | 0, _, _, _, _, _, _, _, _, _, _ => none
  | k + 1, x1, x2, x7, x8, x9, x10, x117000, x117001, x117002, x117003 => if 0 ≤ x9 then (if x9 < (x1.length : Int) then ((rate_Take.f k x117000 x117001 x117002 x117003 (wrap64 (Int.tmod (rd x1 x9) 70)) x10).bind fun bt119 => (if bt119.2.2.2.2 = 0 then (stowagelaw09_RateBounds.l0 k x1 x2 x7 (wrap64 (x8 + (wrap64 (Int.tmod (rd x1 x9) 70)))) (wrap64 (x9 + 1)) bt119.1 bt119.2.1 bt119.2.2.1 bt119.2.2.2.1) else (if bt119.2.2.2.2 = 2 then (stowagelaw09_RateBounds.j4 k x7 x8 x117000 x117001 x117002 x117003) else (stowagelaw09_RateBounds.l0 k x1 x2 x7 x8 (wrap64 (x9 + 1)) x117000 x117001 x117002 x117003)))) else (none)) else (none)
end
def stowagelaw09_RateBounds.f (k : Nat) (a0_0 : Int) (a0_1 : Int) (a0_2 : Int) (a0_3 : Int) (l1 : List Int) (l2 : List Int) : Option (Bool) := stowagelaw09_RateBounds.l0 k l1 l2 a0_3 0 0 a0_0 a0_1 a0_2 a0_3
theorem stowagelaw09_RateBounds.mono_l : ∀ k, (∀ y0 y1 y2 y3 y4 y5, LeO (stowagelaw09_RateBounds.j4 k y0 y1 y2 y3 y4 y5) (stowagelaw09_RateBounds.j4 (k + 1) y0 y1 y2 y3 y4 y5)) ∧ (∀ y0 y1 y2 y3 y4 y5 y6, LeO (stowagelaw09_RateBounds.j5 k y0 y1 y2 y3 y4 y5 y6) (stowagelaw09_RateBounds.j5 (k + 1) y0 y1 y2 y3 y4 y5 y6)) ∧ (∀ y0 y1 y2 y3 y4 y5 y6 y7 y8, LeO (stowagelaw09_RateBounds.l0 k y0 y1 y2 y3 y4 y5 y6 y7 y8) (stowagelaw09_RateBounds.l0 (k + 1) y0 y1 y2 y3 y4 y5 y6 y7 y8)) ∧ (∀ y0 y1 y2 y3 y4 y5 y6 y7 y8 y9, LeO (stowagelaw09_RateBounds.j1 k y0 y1 y2 y3 y4 y5 y6 y7 y8 y9) (stowagelaw09_RateBounds.j1 (k + 1) y0 y1 y2 y3 y4 y5 y6 y7 y8 y9)) ∧ (∀ y0 y1 y2 y3 y4 y5 y6 y7 y8 y9 y10, LeO (stowagelaw09_RateBounds.j2 k y0 y1 y2 y3 y4 y5 y6 y7 y8 y9 y10) (stowagelaw09_RateBounds.j2 (k + 1) y0 y1 y2 y3 y4 y5 y6 y7 y8 y9 y10)) ∧ (∀ y0 y1 y2 y3 y4 y5 y6 y7 y8 y9, LeO (stowagelaw09_RateBounds.j3 k y0 y1 y2 y3 y4 y5 y6 y7 y8 y9) (stowagelaw09_RateBounds.j3 (k + 1) y0 y1 y2 y3 y4 y5 y6 y7 y8 y9))
  | 0 => ⟨fun _ _ _ _ _ _ r h => by simp [stowagelaw09_RateBounds.j4] at h, fun _ _ _ _ _ _ _ r h => by simp [stowagelaw09_RateBounds.j5] at h, fun _ _ _ _ _ _ _ _ _ r h => by simp [stowagelaw09_RateBounds.l0] at h, fun _ _ _ _ _ _ _ _ _ _ r h => by simp [stowagelaw09_RateBounds.j1] at h, fun _ _ _ _ _ _ _ _ _ _ _ r h => by simp [stowagelaw09_RateBounds.j2] at h, fun _ _ _ _ _ _ _ _ _ _ r h => by simp [stowagelaw09_RateBounds.j3] at h⟩
  | k + 1 => by
    obtain ⟨ih0, ih1, ih2, ih3, ih4, ih5⟩ := stowagelaw09_RateBounds.mono_l k
    refine ⟨?_, ?_, ?_, ?_, ?_, ?_⟩
    · intro y0 y1 y2 y3 y4 y5
      unfold stowagelaw09_RateBounds.j4
      repeat' first
      | (with_reducible exact ih0 _ _ _ _ _ _)
      | (with_reducible exact ih1 _ _ _ _ _ _ _)
      | (with_reducible exact ih2 _ _ _ _ _ _ _ _ _)
      | (with_reducible exact ih3 _ _ _ _ _ _ _ _ _ _)
      | (with_reducible exact ih4 _ _ _ _ _ _ _ _ _ _ _)
      | (with_reducible exact ih5 _ _ _ _ _ _ _ _ _ _)
      | (with_reducible exact rate_Take.mono _ _ _ _ _ _ _)
      | (with_reducible exact LeO.refl _)
      | (with_reducible exact LeO.none _)
      | (with_reducible refine LeO.ite ?_ ?_)
      | (with_reducible refine LeO.bind ?_ (fun _ => ?_))
      | exact ih0 _ _ _ _ _ _
      | exact ih1 _ _ _ _ _ _ _
      | exact ih2 _ _ _ _ _ _ _ _ _
      | exact ih3 _ _ _ _ _ _ _ _ _ _
      | exact ih4 _ _ _ _ _ _ _ _ _ _ _
      | exact ih5 _ _ _ _ _ _ _ _ _ _
      | exact rate_Take.mono _ _ _ _ _ _ _
      | exact LeO.none _
      | refine LeO.ite ?_ ?_
      | refine LeO.bind ?_ (fun _ => ?_)
    · intro y0 y1 y2 y3 y4 y5 y6
      unfold stowagelaw09_RateBounds.j5
      repeat' first
      | (with_reducible exact ih0 _ _ _ _ _ _)
      | (with_reducible exact ih1 _ _ _ _ _ _ _)
      | (with_reducible exact ih2 _ _ _ _ _ _ _ _ _)
      | (with_reducible exact ih3 _ _ _ _ _ _ _ _ _ _)
      | (with_reducible exact ih4 _ _ _ _ _ _ _ _ _ _ _)
      | (with_reducible exact ih5 _ _ _ _ _ _ _ _ _ _)
      | (with_reducible exact rate_Take.mono _ _ _ _ _ _ _)
      | (with_reducible exact LeO.refl _)
      | (with_reducible exact LeO.none _)
      | (with_reducible refine LeO.ite ?_ ?_)
      | (with_reducible refine LeO.bind ?_ (fun _ => ?_))
      | exact ih0 _ _ _ _ _ _
      | exact ih1 _ _ _ _ _ _ _
      | exact ih2 _ _ _ _ _ _ _ _ _
      | exact ih3 _ _ _ _ _ _ _ _ _ _
      | exact ih4 _ _ _ _ _ _ _ _ _ _ _
      | exact ih5 _ _ _ _ _ _ _ _ _ _
      | exact rate_Take.mono _ _ _ _ _ _ _
      | exact LeO.none _
      | refine LeO.ite ?_ ?_
      | refine LeO.bind ?_ (fun _ => ?_)
    · intro y0 y1 y2 y3 y4 y5 y6 y7 y8
      unfold stowagelaw09_RateBounds.l0
      repeat' first
      | (with_reducible exact ih0 _ _ _ _ _ _)
      | (with_reducible exact ih1 _ _ _ _ _ _ _)
      | (with_reducible exact ih2 _ _ _ _ _ _ _ _ _)
      | (with_reducible exact ih3 _ _ _ _ _ _ _ _ _ _)
      | (with_reducible exact ih4 _ _ _ _ _ _ _ _ _ _ _)
      | (with_reducible exact ih5 _ _ _ _ _ _ _ _ _ _)
      | (with_reducible exact rate_Take.mono _ _ _ _ _ _ _)
      | (with_reducible exact LeO.refl _)
      | (with_reducible exact LeO.none _)
      | (with_reducible refine LeO.ite ?_ ?_)
      | (with_reducible refine LeO.bind ?_ (fun _ => ?_))
      | exact ih0 _ _ _ _ _ _
      | exact ih1 _ _ _ _ _ _ _
      | exact ih2 _ _ _ _ _ _ _ _ _
      | exact ih3 _ _ _ _ _ _ _ _ _ _
      | exact ih4 _ _ _ _ _ _ _ _ _ _ _
      | exact ih5 _ _ _ _ _ _ _ _ _ _
      | exact rate_Take.mono _ _ _ _ _ _ _
      | exact LeO.none _
      | refine LeO.ite ?_ ?_
      | refine LeO.bind ?_ (fun _ => ?_)
    · intro y0 y1 y2 y3 y4 y5 y6 y7 y8 y9
      unfold stowagelaw09_RateBounds.j1
      repeat' first
      | (with_reducible exact ih0 _ _ _ _ _ _)
      | (with_reducible exact ih1 _ _ _ _ _ _ _)
      | (with_reducible exact ih2 _ _ _ _ _ _ _ _ _)
      | (with_reducible exact ih3 _ _ _ _ _ _ _ _ _ _)
      | (with_reducible exact ih4 _ _ _ _ _ _ _ _ _ _ _)
      | (with_reducible exact ih5 _ _ _ _ _ _ _ _ _ _)
      | (with_reducible exact rate_Take.mono _ _ _ _ _ _ _)
      | (with_reducible exact LeO.refl _)
      | (with_reducible exact LeO.none _)
      | (with_reducible refine LeO.ite ?_ ?_)
      | (with_reducible refine LeO.bind ?_ (fun _ => ?_))
      | exact ih0 _ _ _ _ _ _
      | exact ih1 _ _ _ _ _ _ _
      | exact ih2 _ _ _ _ _ _ _ _ _
      | exact ih3 _ _ _ _ _ _ _ _ _ _
      | exact ih4 _ _ _ _ _ _ _ _ _ _ _
      | exact ih5 _ _ _ _ _ _ _ _ _ _
      | exact rate_Take.mono _ _ _ _ _ _ _
      | exact LeO.none _
      | refine LeO.ite ?_ ?_
      | refine LeO.bind ?_ (fun _ => ?_)
    · intro y0 y1 y2 y3 y4 y5 y6 y7 y8 y9 y10
      unfold stowagelaw09_RateBounds.j2
      repeat' first
      | (with_reducible exact ih0 _ _ _ _ _ _)
      | (with_reducible exact ih1 _ _ _ _ _ _ _)
      | (with_reducible exact ih2 _ _ _ _ _ _ _ _ _)
      | (with_reducible exact ih3 _ _ _ _ _ _ _ _ _ _)
      | (with_reducible exact ih4 _ _ _ _ _ _ _ _ _ _ _)
      | (with_reducible exact ih5 _ _ _ _ _ _ _ _ _ _)
      | (with_reducible exact rate_Take.mono _ _ _ _ _ _ _)
      | (with_reducible exact LeO.refl _)
      | (with_reducible exact LeO.none _)
      | (with_reducible refine LeO.ite ?_ ?_)
      | (with_reducible refine LeO.bind ?_ (fun _ => ?_))
      | exact ih0 _ _ _ _ _ _
      | exact ih1 _ _ _ _ _ _ _
      | exact ih2 _ _ _ _ _ _ _ _ _
      | exact ih3 _ _ _ _ _ _ _ _ _ _
      | exact ih4 _ _ _ _ _ _ _ _ _ _ _
      | exact ih5 _ _ _ _ _ _ _ _ _ _
      | exact rate_Take.mono _ _ _ _ _ _ _
      | exact LeO.none _
      | refine LeO.ite ?_ ?_
      | refine LeO.bind ?_ (fun _ => ?_)
    · intro y0 y1 y2 y3 y4 y5 y6 y7 y8 y9
      unfold stowagelaw09_RateBounds.j3
      repeat' first
      | (with_reducible exact ih0 _ _ _ _ _ _)
      | (with_reducible exact ih1 _ _ _ _ _ _ _)
      | (with_reducible exact ih2 _ _ _ _ _ _ _ _ _)
      | (with_reducible exact ih3 _ _ _ _ _ _ _ _ _ _)
      | (with_reducible exact ih4 _ _ _ _ _ _ _ _ _ _ _)
      | (with_reducible exact ih5 _ _ _ _ _ _ _ _ _ _)
      | (with_reducible exact rate_Take.mono _ _ _ _ _ _ _)
      | (with_reducible exact LeO.refl _)
      | (with_reducible exact LeO.none _)
      | (with_reducible refine LeO.ite ?_ ?_)
      | (with_reducible refine LeO.bind ?_ (fun _ => ?_))
      | exact ih0 _ _ _ _ _ _
      | exact ih1 _ _ _ _ _ _ _
      | exact ih2 _ _ _ _ _ _ _ _ _
      | exact ih3 _ _ _ _ _ _ _ _ _ _
      | exact ih4 _ _ _ _ _ _ _ _ _ _ _
      | exact ih5 _ _ _ _ _ _ _ _ _ _
      | exact rate_Take.mono _ _ _ _ _ _ _
      | exact LeO.none _
      | refine LeO.ite ?_ ?_
      | refine LeO.bind ?_ (fun _ => ?_)
theorem stowagelaw09_RateBounds.mono : ∀ a0 a1 a2 a3 a4 a5 k, LeO (stowagelaw09_RateBounds.f k a0 a1 a2 a3 a4 a5) (stowagelaw09_RateBounds.f (k + 1) a0 a1 a2 a3 a4 a5) := by
  intro a0 a1 a2 a3 a4 a5 k
  obtain ⟨ih0, ih1, ih2, ih3, ih4, ih5⟩ := stowagelaw09_RateBounds.mono_l k
  unfold stowagelaw09_RateBounds.f
  repeat' first
      | (with_reducible exact ih0 _ _ _ _ _ _)
      | (with_reducible exact ih1 _ _ _ _ _ _ _)
      | (with_reducible exact ih2 _ _ _ _ _ _ _ _ _)
      | (with_reducible exact ih3 _ _ _ _ _ _ _ _ _ _)
      | (with_reducible exact ih4 _ _ _ _ _ _ _ _ _ _ _)
      | (with_reducible exact ih5 _ _ _ _ _ _ _ _ _ _)
      | (with_reducible exact rate_Take.mono _ _ _ _ _ _ _)
      | (with_reducible exact LeO.refl _)
      | (with_reducible exact LeO.none _)
      | (with_reducible refine LeO.ite ?_ ?_)
      | (with_reducible refine LeO.bind ?_ (fun _ => ?_))
      | exact ih0 _ _ _ _ _ _
      | exact ih1 _ _ _ _ _ _ _
      | exact ih2 _ _ _ _ _ _ _ _ _
      | exact ih3 _ _ _ _ _ _ _ _ _ _
      | exact ih4 _ _ _ _ _ _ _ _ _ _ _
      | exact ih5 _ _ _ _ _ _ _ _ _ _
      | exact rate_Take.mono _ _ _ _ _ _ _
      | exact LeO.none _
      | refine LeO.ite ?_ ?_
      | refine LeO.bind ?_ (fun _ => ?_)
def stowagelaw09_RateBounds.T9 : Bool × List (List Nat × List Nat) := (true, [([], []), ([], []), ([], []), ([1, 2], [1, 2]), ([3], [3]), ([4], [4]), ([5], [5]), ([], []), ([0, 6, 7], [0, 6, 7]), ([8], [8]), ([9], [9]), ([9], [9]), ([], []), ([12, 10, 8, 0, 1, 2, 3, 4, 5, 6, 7, 8, 9, 10, 12], [10, 12]), ([11, 13, 0, 1, 2, 3, 4, 5, 6, 7, 8, 9, 10, 11, 12, 13], [11])])
def stowagelaw09_RateBounds.B9 : List Nat := [0, 0, 0, 6, 14, 30, 62, 0, 255, 511, 1023, 1023, 0, 6143, 16383]
theorem stowagelaw09_RateBounds.tab9 : rtab .any (opsOf Try.f8 9) = stowagelaw09_RateBounds.T9 := by kernel_rfl
theorem stowagelaw09_RateBounds.bits9 : waitsOk stowagelaw09_RateBounds.T9.2 stowagelaw09_RateBounds.B9 = true := by kernel_rfl
set_option maxHeartbeats 8000000 in
set_option maxRecDepth 100000 in
theorem stowagelaw09_RateBounds.calls (k : Nat) (a0_0 : Int) (a0_1 : Int) (a0_2 : Int) (a0_3 : Int) (A1 : Option Addr) (c1 : Nat) (l1 : List Int) (A2 : Option Addr) (c2 : Nat) (l2 : List Int) (r : Bool) (w : World) (hr1 : Kd.C (Kd.int .u8) w A1 l1.length l1) (hc1 : l1.length ≤ c1) (hr2 : Kd.C (Kd.int .u16) w A2 l2.length l2) (hc2 : l2.length ≤ c2) (h : stowagelaw09_RateBounds.f k a0_0 a0_1 a0_2 a0_3 l1 l2 = some r) :
    Calls Try.prog 8 #[.agg #[.int .i64 a0_0, .int .i64 a0_1, .int .i64 a0_2, .int .i64 a0_3], .slice A1 l1.length c1, .slice A2 l2.length c2] w fun e w' => e = .returned (.bool r) ∧ Below w.heap.size w w' := by
  have hu29 := Try.underlying29
  have HR1 := Aside0.mk hr1
  have HC1 := Aside0.mk hc1
  clear hr1 hc1
  have HR2 := Aside0.mk hr2
  have HC2 := Aside0.mk hc2
  clear hr2 hc2
  have HB := Aside0.mk (Below.refl w.heap.size w)
  have H : (stowagelaw09_RateBounds.l0 k l1 l2 a0_3 0 0 a0_0 a0_1 a0_2 a0_3) = some r := h
  clear h
  have HC4 := Aside0.mk H
  clear H
  go_enter Try.func8, Try.ntmps8
  go_upto_block 0 with (first | ((with_reducible refine gate_dst (N := 3) rfl ?_); refine box_event ?hg (N := 3) ?hd (cs := #[.int .i64 a0_0, .int .i64 a0_1, .int .i64 a0_2, .int .i64 a0_3]) (t := 29) ?hr ?_; (case hd => rfl); (case hg => rfl); (case hr => first | (go_simp; done) | (go_simp; rfl)); intro gb116 hg w5 hbox hb; have n0_ := Aside0.mk (below_step (by repeat (first | (with_reducible first | exact HB.out | apply below_alloc | apply pw_below_drewN | apply below_drew1) | exact HB.out)) hb); have n1_ := Aside0.mk (hbox); have n2_ := Aside0.mk ((by rw [hg]; exact (below_size (by repeat (first | (with_reducible first | exact HB.out | apply below_alloc | apply pw_below_drewN | apply below_drew1) | exact HB.out))) : w.heap.size ≤ gb116)); have n3_ := Aside0.mk ((by rw [hg]; exact (below_size (by repeat (first | (with_reducible first | exact HB.out | apply below_alloc | apply pw_below_drewN | apply below_drew1) | exact HB.out))) : w.heap.size ≤ gb116)); clear HB; have HB := n0_; have BK116 := n1_; have GW116 := n2_; have GE116 := n3_; clear n0_ n1_ n2_ n3_; clear hb hbox hg; have hcz6_0 : w5.cell? ⟨gb116, 0, none⟩ = some (.int .i64 a0_0) := (blk_cell BK116.out 0).trans rfl; have hcz6_1 : w5.cell? ⟨gb116, 1, none⟩ = some (.int .i64 a0_1) := (blk_cell BK116.out 1).trans rfl; have hcz6_2 : w5.cell? ⟨gb116, 2, none⟩ = some (.int .i64 a0_2) := (blk_cell BK116.out 2).trans rfl; have hcz6_3 : w5.cell? ⟨gb116, 3, none⟩ = some (.int .i64 a0_3) := (blk_cell BK116.out 3).trans rfl; have hfz6_0 := blk_frozen BK116.out 0; have hfz6_1 := blk_frozen BK116.out 1; have hfz6_2 := blk_frozen BK116.out 2; have hfz6_3 := blk_frozen BK116.out 3))
  (try simp only [Act.put, List.setIfInBounds_toArray, List.set_cons_zero, List.set_cons_succ])
  go_cut [8] (fun v8 wc => ∃ (kq : Nat) (x8_3 : Int) (x117000_3 : Int) (x117001_3 : Int) (x117002_3 : Int) (x117003_3 : Int), v8 = .int .i64 x8_3 ∧ Aside0 (stowagelaw09_RateBounds.j4 kq a0_3 x8_3 x117000_3 x117001_3 x117002_3 x117003_3 = some r) ∧ Aside0 (kq ≤ k) ∧ Aside0 (wc.heap[gb116]? = some (.cells #[.int .i64 x117000_3, .int .i64 x117001_3, .int .i64 x117002_3, .int .i64 x117003_3] 29 (0, 0))) ∧ Aside0 (Below w.heap.size w wc))
  case first =>
    have H := HC4.out
    clear HC4
    have H' := Aside0.mk H
    clear H
    go_wp2
    go_loopg [8, 9] k (fun kq v8 v9 w' => ∃ (x8_1 : Int) (x9_1 : Int) (x117000_1 : Int) (x117001_1 : Int) (x117002_1 : Int) (x117003_1 : Int), v8 = .int .i64 x8_1 ∧ v9 = .int .i64 x9_1 ∧ Aside0 (stowagelaw09_RateBounds.l0 kq l1 l2 a0_3 x8_1 x9_1 x117000_1 x117001_1 x117002_1 x117003_1 = some r) ∧ Aside0 (kq ≤ k) ∧ Aside0 (w'.heap[gb116]? = some (.cells #[.int .i64 x117000_1, .int .i64 x117001_1, .int .i64 x117002_1, .int .i64 x117003_1] 29 (0, 0))) ∧ Aside0 (Below w.heap.size w w'))
    case atStart => exact ⟨(0), (0), (a0_0), (a0_1), (a0_2), (a0_3), (by first | rfl | (simp; done) | (simp [*]; done)), (by first | rfl | (simp; done) | (simp [*]; done)), H', ⟨Nat.le_refl _⟩, ⟨by (with_reducible repeat (first | refine blk_drewN ?_ _ | refine blk_drew ?_ | refine blk_alloc ?_ _)); exact BK116.out⟩, ⟨by repeat (first | (with_reducible first | exact HB.out | apply below_alloc | apply pw_below_drewN | apply below_drew1 | refine below_set ?_ GE116.out) | exact HB.out)⟩⟩
    case round =>
      clear H'
      try clear c1
      try clear c2
      try clear p2
      try clear hcz6_0
      try clear hcz6_1
      try clear hcz6_2
      try clear hcz6_3
      try clear hfz6_0
      try clear hfz6_1
      try clear hfz6_2
      try clear hfz6_3
      obtain ⟨x8_1, x9_1, x117000_1, x117001_1, x117002_1, x117003_1, rfl, rfl, HA, HK1, BK116, HB⟩ := hrel
      cases gk with
      | zero => exact absurd HA.out (by simp [stowagelaw09_RateBounds.l0])
      | succ k1 =>
        have H := HA.out
        clear HA
        simp only [stowagelaw09_RateBounds.l0] at H
        have HC7 := Aside0.mk H
        clear H
        go_upto_region 4 with (fail)
        go_cut [23] (fun v23 wc => ∃ (kq : Nat) (x23_6 : Bool), v23 = .bool x23_6 ∧ Aside0 (stowagelaw09_RateBounds.j1 kq l1 l2 a0_3 x8_1 x9_1 x23_6 x117000_1 x117001_1 x117002_1 x117003_1 = some r) ∧ Aside0 (kq ≤ k1) ∧ Aside0 (wc.heap[gb116]? = some (.cells #[.int .i64 x117000_1, .int .i64 x117001_1, .int .i64 x117002_1, .int .i64 x117003_1] 29 (0, 0))) ∧ Aside0 (Below w.heap.size w wc))
        case first =>
          have H := HC7.out
          clear HC7
          by_cases c8 : x9_1 < (l1.length : Int)
          · rw [if_pos c8] at H
            have c8b0 : decide (x9_1 < (l1.length : Int)) = true := decide_eq_true c8
            clear c8
            (first | rw [c8b0] | (simp only [i64_w, i32_w]; rw [c8b0]) | skip)
            have H' := Aside0.mk H
            clear H
            go_wp2
            go_meet
            case rel => exact ⟨_, (decide (x9_1 < 200)), (by first | rfl | (simp; done) | (simp [*]; done)), H', ⟨by have := HK1.out; first | omega | exact Nat.le_refl _⟩, ⟨by (with_reducible repeat (first | refine blk_drewN ?_ _ | refine blk_drew ?_ | refine blk_alloc ?_ _)); exact BK116.out⟩, ⟨by repeat (first | (with_reducible first | exact HB.out | apply below_alloc | apply pw_below_drewN | apply below_drew1 | refine below_set ?_ GE116.out) | exact HB.out)⟩⟩
          · rw [if_neg c8] at H
            have c8b0 : decide (x9_1 < (l1.length : Int)) = false := decide_eq_false c8
            clear c8
            (first | rw [c8b0] | (simp only [i64_w, i32_w]; rw [c8b0]) | skip)
            have H' := Aside0.mk H
            clear H
            go_wp2
            go_meet
            case rel => exact ⟨_, (false), (by first | rfl | (simp; done) | (simp [*]; done)), H', ⟨by have := HK1.out; first | omega | exact Nat.le_refl _⟩, ⟨by (with_reducible repeat (first | refine blk_drewN ?_ _ | refine blk_drew ?_ | refine blk_alloc ?_ _)); exact BK116.out⟩, ⟨by repeat (first | (with_reducible first | exact HB.out | apply below_alloc | apply pw_below_drewN | apply below_drew1 | refine below_set ?_ GE116.out) | exact HB.out)⟩⟩
        case rest =>
          clear HC7
          try clear c1
          try clear c2
          try clear p2
          try clear c8
          try clear c8b0
          try clear hcz6_0
          try clear hcz6_1
          try clear hcz6_2
          try clear hcz6_3
          try clear hfz6_0
          try clear hfz6_1
          try clear hfz6_2
          try clear hfz6_3
          try clear p2
          obtain ⟨kq, x23_6, rfl, HA, HJ6, BK116, HB⟩ := hcut
          cases kq with
          | zero => exact absurd HA.out (by simp [stowagelaw09_RateBounds.j1])
          | succ kj6 =>
            have H := HA.out
            clear HA
            simp only [stowagelaw09_RateBounds.j1] at H
            by_cases c9 : x23_6 = true
            · subst c9
              have H1 : (if x9_1 < (l2.length : Int) then (stowagelaw09_RateBounds.j2 kj6 l1 l2 a0_3 x8_1 x9_1 x117003_1 (decide (x117003_1 < 1099511557776)) x117000_1 x117001_1 x117002_1 x117003_1) else (stowagelaw09_RateBounds.j2 kj6 l1 l2 a0_3 x8_1 x9_1 x117003_1 false x117000_1 x117001_1 x117002_1 x117003_1)) = some r := by rw [if_pos rfl] at H; exact H
              clear H
              have H := H1
              clear H1
              have HC10 := Aside0.mk H
              clear H
              have hcz11_0 : wc.cell? ⟨gb116, 0, none⟩ = some (.int .i64 x117000_1) := (blk_cell BK116.out 0).trans rfl
              have hcz11_1 : wc.cell? ⟨gb116, 1, none⟩ = some (.int .i64 x117001_1) := (blk_cell BK116.out 1).trans rfl
              have hcz11_2 : wc.cell? ⟨gb116, 2, none⟩ = some (.int .i64 x117002_1) := (blk_cell BK116.out 2).trans rfl
              have hcz11_3 : wc.cell? ⟨gb116, 3, none⟩ = some (.int .i64 x117003_1) := (blk_cell BK116.out 3).trans rfl
              have hfz11_0 := blk_frozen BK116.out 0
              have hfz11_1 := blk_frozen BK116.out 1
              have hfz11_2 := blk_frozen BK116.out 2
              have hfz11_3 := blk_frozen BK116.out 3
              go_upto_region 7 with (fail)
              go_cut [35] (fun v35 wc => ∃ (kq : Nat) (x35_9 : Bool), v35 = .bool x35_9 ∧ Aside0 (stowagelaw09_RateBounds.j2 kq l1 l2 a0_3 x8_1 x9_1 x117003_1 x35_9 x117000_1 x117001_1 x117002_1 x117003_1 = some r) ∧ Aside0 (kq ≤ kj6) ∧ Aside0 (wc.heap[gb116]? = some (.cells #[.int .i64 x117000_1, .int .i64 x117001_1, .int .i64 x117002_1, .int .i64 x117003_1] 29 (0, 0))) ∧ Aside0 (Below w.heap.size w wc))
              case first =>
                have H := HC10.out
                clear HC10
                by_cases c12 : x9_1 < (l2.length : Int)
                · rw [if_pos c12] at H
                  have c12b0 : decide (x9_1 < (l2.length : Int)) = true := decide_eq_true c12
                  clear c12
                  (first | rw [c12b0] | (simp only [i64_w, i32_w]; rw [c12b0]) | skip)
                  have H' := Aside0.mk H
                  clear H
                  go_wp2
                  go_meet
                  case rel => exact ⟨_, (decide (x117003_1 < 1099511557776)), (by first | rfl | (simp; done) | (simp [*]; done)), H', ⟨by have := HK1.out; have := HJ6.out; first | omega | exact Nat.le_refl _⟩, ⟨by (with_reducible repeat (first | refine blk_drewN ?_ _ | refine blk_drew ?_ | refine blk_alloc ?_ _)); exact BK116.out⟩, ⟨by repeat (first | (with_reducible first | exact HB.out | apply below_alloc | apply pw_below_drewN | apply below_drew1 | refine below_set ?_ GE116.out) | exact HB.out)⟩⟩
                · rw [if_neg c12] at H
                  have c12b0 : decide (x9_1 < (l2.length : Int)) = false := decide_eq_false c12
                  clear c12
                  (first | rw [c12b0] | (simp only [i64_w, i32_w]; rw [c12b0]) | skip)
                  have H' := Aside0.mk H
                  clear H
                  go_wp2
                  go_meet
                  case rel => exact ⟨_, (false), (by first | rfl | (simp; done) | (simp [*]; done)), H', ⟨by have := HK1.out; have := HJ6.out; first | omega | exact Nat.le_refl _⟩, ⟨by (with_reducible repeat (first | refine blk_drewN ?_ _ | refine blk_drew ?_ | refine blk_alloc ?_ _)); exact BK116.out⟩, ⟨by repeat (first | (with_reducible first | exact HB.out | apply below_alloc | apply pw_below_drewN | apply below_drew1 | refine below_set ?_ GE116.out) | exact HB.out)⟩⟩
              case rest =>
                clear HC10
                try clear c1
                try clear c2
                try clear p2
                try clear c8
                try clear c8b0
                try clear c9
                try clear c12
                try clear c12b0
                try clear hcz11_0
                try clear hcz11_1
                try clear hcz11_2
                try clear hcz11_3
                try clear hcz6_0
                try clear hcz6_1
                try clear hcz6_2
                try clear hcz6_3
                try clear hfz11_0
                try clear hfz11_1
                try clear hfz11_2
                try clear hfz11_3
                try clear hfz6_0
                try clear hfz6_1
                try clear hfz6_2
                try clear hfz6_3
                try clear p2
                obtain ⟨kq, x35_9, rfl, HA, HJ9, BK116, HB⟩ := hcut
                cases kq with
                | zero => exact absurd HA.out (by simp [stowagelaw09_RateBounds.j2])
                | succ kj9 =>
                  have H := HA.out
                  clear HA
                  simp only [stowagelaw09_RateBounds.j2] at H
                  have HC13 := Aside0.mk H
                  clear H
                  go_upto_if 35 with (fail)
                  go_cut [10] (fun v10 wc => ∃ (kq : Nat) (x10_12 : Int), v10 = .int .i64 x10_12 ∧ Aside0 (stowagelaw09_RateBounds.j3 kq l1 l2 a0_3 x8_1 x9_1 x10_12 x117000_1 x117001_1 x117002_1 x117003_1 = some r) ∧ Aside0 (kq ≤ kj9) ∧ Aside0 (wc.heap[gb116]? = some (.cells #[.int .i64 x117000_1, .int .i64 x117001_1, .int .i64 x117002_1, .int .i64 x117003_1] 29 (0, 0))) ∧ Aside0 (Below w.heap.size w wc))
                  case first =>
                    have H := HC13.out
                    clear HC13
                    by_cases c14 : x35_9 = true
                    · subst c14
                      have H1 : (if 0 ≤ x9_1 then (if x9_1 < (l2.length : Int) then (stowagelaw09_RateBounds.j3 kj9 l1 l2 a0_3 x8_1 x9_1 (wrap64 (x117003_1 + (wrap64 (rd l2 x9_1)))) x117000_1 x117001_1 x117002_1 x117003_1) else (none)) else (none)) = some r := by rw [if_pos rfl] at H; exact H
                      clear H
                      have H := H1
                      clear H1
                      by_cases c15 : 0 ≤ x9_1
                      · rw [if_pos c15] at H
                        have c15b0 : decide (0 ≤ x9_1) = true := decide_eq_true c15
                        clear c15
                        (first | rw [c15b0] | (simp only [i64_w, i32_w]; rw [c15b0]) | skip)
                        by_cases c16 : x9_1 < (l2.length : Int)
                        · rw [if_pos c16] at H
                          have c16b0 : decide (x9_1 < (l2.length : Int)) = true := decide_eq_true c16
                          clear c16
                          have H' := Aside0.mk H
                          clear H
                          have p117 : 0 ≤ (x9_1 : Int) := of_decide_eq_true (by first | (with_reducible assumption) | assumption)
                          have q117 : x9_1 < (l2.length : Int) := of_decide_eq_true (by first | (with_reducible assumption) | assumption)
                          obtain ⟨ad117, e117, hx117_0⟩ := Kd.at_int HR2.out x9_1 p117 q117
                          cases e117
                          replace hx117_0 := (HB.out.cell (World.block_lt_of_cell? w _ hx117_0)).trans hx117_0
                          replace p117 := eq_true p117
                          replace q117 := eq_true q117
                          go_wp2
                          go_meet
                          case rel => exact ⟨_, (wrap64 (x117003_1 + (wrap64 (rd l2 x9_1)))), (by first | rfl | (simp; done) | (simp [*]; done)), H', ⟨by have := HK1.out; have := HJ6.out; have := HJ9.out; first | omega | exact Nat.le_refl _⟩, ⟨by (with_reducible repeat (first | refine blk_drewN ?_ _ | refine blk_drew ?_ | refine blk_alloc ?_ _)); exact BK116.out⟩, ⟨by repeat (first | (with_reducible first | exact HB.out | apply below_alloc | apply pw_below_drewN | apply below_drew1 | refine below_set ?_ GE116.out) | exact HB.out)⟩⟩
                        · rw [if_neg c16] at H
                          exact absurd H (by simp)
                      · rw [if_neg c15] at H
                        exact absurd H (by simp)
                    · replace c14 := Bool.eq_false_iff.mpr c14
                      subst c14
                      have H1 : (stowagelaw09_RateBounds.j3 kj9 l1 l2 a0_3 x8_1 x9_1 x117003_1 x117000_1 x117001_1 x117002_1 x117003_1) = some r := by rw [if_neg (show ¬ (false = true) by decide)] at H; exact H
                      clear H
                      have H := H1
                      clear H1
                      have H' := Aside0.mk H
                      clear H
                      go_wp2
                      go_meet
                      case rel => exact ⟨_, (x117003_1), (by first | rfl | (simp; done) | (simp [*]; done)), H', ⟨by have := HK1.out; have := HJ6.out; have := HJ9.out; first | omega | exact Nat.le_refl _⟩, ⟨by (with_reducible repeat (first | refine blk_drewN ?_ _ | refine blk_drew ?_ | refine blk_alloc ?_ _)); exact BK116.out⟩, ⟨by repeat (first | (with_reducible first | exact HB.out | apply below_alloc | apply pw_below_drewN | apply below_drew1 | refine below_set ?_ GE116.out) | exact HB.out)⟩⟩
                  case rest =>
                    clear HC13
                    try clear c1
                    try clear p1
                    try clear q1
                    try clear hx1
                    try clear c2
                    try clear p2
                    try clear p6
                    try clear c8
                    try clear c8b0
                    try clear c9
                    try clear p11
                    try clear q11
                    try clear hx11
                    try clear c12
                    try clear c12b0
                    try clear c14
                    try clear c15
                    try clear c15b0
                    try clear c16
                    try clear c16b0
                    try clear hcz11_0
                    try clear hcz11_1
                    try clear hcz11_2
                    try clear hcz11_3
                    try clear hcz6_0
                    try clear hcz6_1
                    try clear hcz6_2
                    try clear hcz6_3
                    try clear hfz11_0
                    try clear hfz11_1
                    try clear hfz11_2
                    try clear hfz11_3
                    try clear hfz6_0
                    try clear hfz6_1
                    try clear hfz6_2
                    try clear hfz6_3
                    try clear hx117_0
                    try clear p117
                    try clear p2
                    try clear q117
                    obtain ⟨kq, x10_12, rfl, HA, HJ12, BK116, HB⟩ := hcut
                    cases kq with
                    | zero => exact absurd HA.out (by simp [stowagelaw09_RateBounds.j3])
                    | succ kj12 =>
                      have H := HA.out
                      clear HA
                      simp only [stowagelaw09_RateBounds.j3] at H
                      by_cases c17 : 0 ≤ x9_1
                      · rw [if_pos c17] at H
                        have c17b0 : decide (0 ≤ x9_1) = true := decide_eq_true c17
                        clear c17
                        by_cases c18 : x9_1 < (l1.length : Int)
                        · rw [if_pos c18] at H
                          have c18b0 : decide (x9_1 < (l1.length : Int)) = true := decide_eq_true c18
                          clear c18
                          replace H := Option.bind_eq_some_iff.mp H
                          obtain ⟨⟨t119, t120, t121, t122, t123⟩, A190, H⟩ := H
                          replace H : (if t123 = 0 then (stowagelaw09_RateBounds.l0 kj12 l1 l2 a0_3 (wrap64 (x8_1 + (wrap64 (Int.tmod (rd l1 x9_1) 70)))) (wrap64 (x9_1 + 1)) t119 t120 t121 t122) else (if t123 = 2 then (stowagelaw09_RateBounds.j4 kj12 a0_3 x8_1 x117000_1 x117001_1 x117002_1 x117003_1) else (stowagelaw09_RateBounds.l0 kj12 l1 l2 a0_3 x8_1 (wrap64 (x9_1 + 1)) x117000_1 x117001_1 x117002_1 x117003_1))) = some r := H
                          have A19 := Aside0.mk A190
                          clear A190
                          by_cases c20 : t123 = 0
                          · rw [if_pos c20] at H
                            have c20b0 : (t123 == 0) = true := beq_iff_eq.mpr c20
                            have c20b1 : (t123 != 0) = false := bne_eq_false_iff_eq.mpr c20
                            clear c20
                            have H' := Aside0.mk H
                            clear H
                            try go_wp2
                            have n0_ := Aside0.mk (blk_drew BK116.out)
                            have n1_ := Aside0.mk (below_drew1 HB.out)
                            clear BK116
                            clear HB
                            have BK116 := n0_
                            have HB := n1_
                            clear n0_ n1_
                            have p118 : 0 ≤ (x9_1 : Int) := of_decide_eq_true (by first | (with_reducible assumption) | assumption)
                            have q118 : x9_1 < (l1.length : Int) := of_decide_eq_true (by first | (with_reducible assumption) | assumption)
                            obtain ⟨ad118, e118, hx118_0⟩ := Kd.at_int HR1.out x9_1 p118 q118
                            have hw118_0 := hx118_0
                            cases e118
                            replace hx118_0 := (HB.out.cell (World.block_lt_of_cell? w _ hx118_0)).trans hx118_0
                            replace p118 := eq_true p118
                            replace q118 := eq_true q118
                            refine start_ (n := 15) (S := fun w' => w'.cell? ⟨gb116, 0, none⟩ = some (.int .i64 x117000_1) ∧ w'.cell? ⟨gb116, 1, none⟩ = some (.int .i64 x117001_1) ∧ w'.cell? ⟨gb116, 2, none⟩ = some (.int .i64 x117002_1) ∧ w'.cell? ⟨gb116, 3, none⟩ = some (.int .i64 x117003_1) ∧ w'.cell? (ad118.add (x9_1).toNat) = some (.int .u8 (rd l1 x9_1))) (ds := []) #[false, false, false, false, false, false, false, false, false, false, false, false, false, false, false] (by kernel_rfl) rfl rfl ⟨(blk_cell BK116.out 0).trans rfl, (blk_cell BK116.out 1).trans rfl, (blk_cell BK116.out 2).trans rfl, (blk_cell BK116.out 3).trans rfl, ((HB.out.cell (World.block_lt_of_cell? w _ hw118_0)).trans hw118_0)⟩ (fun hHeld => ?_); refine with_tabW stowagelaw09_RateBounds.tab9 stowagelaw09_RateBounds.bits9 (fun HT_ HW_ => ?_)
                            generalize wc.drew = w21 at BK116 HB hx118_0 hHeld ⊢
                            refine pure_ (i := 1) (N := some 45) (v := ?_) (a' := ?_) #[false, true, false, false, false, false, false, false, false, false, false, false, false, false, false] rfl rfl (any_of HT_.out (by kernel_rfl)) (fun _ _ _ h => h) (Or.inl ⟨by rfl, ?_⟩) ?_ ?_
                            rotate_left
                            · intro w'
                              go_simp
                              with_reducible rfl
                            rotate_left
                            · simp only [Act.put, List.setIfInBounds_toArray, List.set_cons_zero, List.set_cons_succ, i64_w, i32_w]
                              rfl
                            refine pure_ (i := 2) (N := some 46) (v := ?_) (a' := ?_) #[false, true, true, false, false, false, false, false, false, false, false, false, false, false, false] rfl rfl (any_of HT_.out (by kernel_rfl)) (fun _ _ _ h => h) (Or.inl ⟨by rfl, ?_⟩) ?_ ?_
                            rotate_left
                            · intro w'
                              go_simp
                              with_reducible rfl
                            rotate_left
                            · simp only [Act.put, List.setIfInBounds_toArray, List.set_cons_zero, List.set_cons_succ, i64_w, i32_w]
                              rfl
                            refine pure_ (i := 3) (N := some 47) (v := ?_) (a' := ?_) #[false, true, true, true, false, false, false, false, false, false, false, false, false, false, false] rfl rfl (any_of HT_.out (by kernel_rfl)) (fun _ _ _ h => h) (Or.inl ⟨by rfl, ?_⟩) ?_ ?_
                            rotate_left
                            · intro w'
                              go_simp
                              with_reducible rfl
                            rotate_left
                            · simp only [Act.put, List.setIfInBounds_toArray, List.set_cons_zero, List.set_cons_succ, i64_w, i32_w]
                              rfl
                            refine pure_ (i := 7) (N := some 51) (v := ?_) (a' := ?_) #[false, true, true, true, false, false, false, true, false, false, false, false, false, false, false] rfl rfl (any_of HT_.out (by kernel_rfl)) (fun _ _ _ h => h) (Or.inl ⟨by rfl, ?_⟩) ?_ ?_
                            rotate_left
                            · intro w'
                              go_simp
                              with_reducible rfl
                            rotate_left
                            · simp only [Act.put, List.setIfInBounds_toArray, List.set_cons_zero, List.set_cons_succ, i64_w, i32_w]
                              rfl
                            refine take_ (i := 0) (N := some 44) (v := ?_) (a' := ?_) #[true, true, true, true, false, false, false, true, false, false, false, false, false, false, false] rfl rfl (take_ofW HT_.out HW_.out (by kernel_rfl)) (fun _ _ _ h => h) (Or.inl ⟨by rfl, ?_⟩) hHeld ?_ ?_
                            rotate_left
                            · rintro w' ⟨s0, s1, s2, s3, s4⟩
                              go_simp
                              with_reducible rfl
                            rotate_left
                            · simp only [Act.put, List.setIfInBounds_toArray, List.set_cons_zero, List.set_cons_succ, i64_w, i32_w]
                              rfl
                            refine take_ (i := 4) (N := some 48) (v := ?_) (a' := ?_) #[true, true, true, true, true, false, false, true, false, false, false, false, false, false, false] rfl rfl (take_ofW HT_.out HW_.out (by kernel_rfl)) (fun _ _ _ h => h) (Or.inl ⟨by rfl, ?_⟩) hHeld ?_ ?_
                            rotate_left
                            · rintro w' ⟨s0, s1, s2, s3, s4⟩
                              go_simp
                              with_reducible rfl
                            rotate_left
                            · simp only [Act.put, List.setIfInBounds_toArray, List.set_cons_zero, List.set_cons_succ, i64_w, i32_w]
                              rfl
                            refine pure_ (i := 5) (N := some 49) (v := ?_) (a' := ?_) #[true, true, true, true, true, true, false, true, false, false, false, false, false, false, false] rfl rfl (any_of HT_.out (by kernel_rfl)) (fun _ _ _ h => h) (Or.inl ⟨by rfl, ?_⟩) ?_ ?_
                            rotate_left
                            · intro w'
                              go_simp
                              with_reducible rfl
                            rotate_left
                            · simp only [Act.put, List.setIfInBounds_toArray, List.set_cons_zero, List.set_cons_succ, i64_w, i32_w]
                              rfl
                            refine pure_ (i := 6) (N := some 50) (v := ?_) (a' := ?_) #[true, true, true, true, true, true, true, true, false, false, false, false, false, false, false] rfl rfl (any_of HT_.out (by kernel_rfl)) (fun _ _ _ h => h) (Or.inl ⟨by rfl, ?_⟩) ?_ ?_
                            rotate_left
                            · intro w'
                              go_simp
                              with_reducible rfl
                            rotate_left
                            · simp only [Act.put, List.setIfInBounds_toArray, List.set_cons_zero, List.set_cons_succ, i64_w, i32_w]
                              rfl
                            refine join_ (σ := Nat) 2 #[true, true, true, true, true, true, true, true, true, true, true, true, true, false, false] (fun s_ => [(52, .tuple #[.agg #[.int .i64 t119, .int .i64 t120, .int .i64 t121, .int .i64 t122], .int .i64 t123]), (11, .pointer (some ⟨s_, 0, none⟩)), (43, .tuple #[.agg #[.int .i64 t119, .int .i64 t120, .int .i64 t121, .int .i64 t122], .int .i64 t123]), (53, .agg #[.int .i64 t119, .int .i64 t120, .int .i64 t121, .int .i64 t122]), (54, .int .i64 t123)]) (fun s_ w' => (w'.cell? ⟨gb116, 0, none⟩ = some (.int .i64 x117000_1) ∧ w'.cell? ⟨gb116, 1, none⟩ = some (.int .i64 x117001_1) ∧ w'.cell? ⟨gb116, 2, none⟩ = some (.int .i64 x117002_1) ∧ w'.cell? ⟨gb116, 3, none⟩ = some (.int .i64 x117003_1) ∧ w'.cell? (ad118.add (x9_1).toNat) = some (.int .u8 (rd l1 x9_1))) ∧ (w'.heap[gb116]? = some (.cells #[.int .i64 x117000_1, .int .i64 x117001_1, .int .i64 x117002_1, .int .i64 x117003_1] 29 (0, 0))) ∧ (w'.heap[s_]? = some (.cells #[.int .i64 0, .int .i64 0, .int .i64 0, .int .i64 0] 29 (0, 0))) ∧ (w.heap.size ≤ s_) ∧ (w.heap.size ≤ s_) ∧ (gb116 ≠ s_) ∧ (s_ ≠ gb116) ∧ (Below w.heap.size w w')) ?_ ?_
                            rotate_left
                            · intro hCont
                              refine two_ (i := 8) (j := 12) (Ni := some 52) (Nj := some 11) #[true, true, true, true, true, true, true, true, true, false, false, false, false, false, false] #[true, true, true, true, true, true, true, true, false, false, false, false, true, false, false] rfl rfl rfl rfl (two_of HT_.out (by kernel_rfl)) (by decide) (by decide) (fun K hK => ?_) (fun K hK => ?_)
                              · skip
                                refine goes_ Try.func22 (by kernel_rfl) rfl #[.agg #[.int .i64 x117000_1, .int .i64 x117001_1, .int .i64 x117002_1, .int .i64 x117003_1], .int .i64 (wrap64 (Int.tmod (rd l1 x9_1) 70)), .int .i64 x10_12] (by rfl) rfl rfl (by (try simp only [List.map_toArray, List.map_cons, List.map_nil]); first | done | rfl | (simp only [List.length_drop, List.length_take]; rfl)) ?_
                                with_reducible refine (rate_Take.calls kj12 x117000_1 x117001_1 x117002_1 x117003_1 (wrap64 (Int.tmod (rd l1 x9_1) 70)) x10_12 t119 t120 t121 t122 t123 _ A19.out).mono ?_
                                rintro e w22 ⟨rfl, hb⟩
                                refine ⟨_, rfl, ?_⟩
                                have n0_ := Aside0.mk (blk_below (g := gb116) (o := .cells #[.int .i64 x117000_1, .int .i64 x117001_1, .int .i64 x117002_1, .int .i64 x117003_1] 29 (0, 0)) (by (with_reducible repeat (first | refine blk_drewN ?_ _ | refine blk_drew ?_ | refine blk_alloc ?_ _)); exact BK116.out) hb)
                                have n1_ := Aside0.mk (below_step (by repeat (first | (with_reducible first | exact HB.out | apply below_alloc | apply pw_below_drewN | apply below_drew1 | refine below_set ?_ GE116.out) | exact HB.out)) hb)
                                clear BK116
                                clear HB
                                have BK116 := n0_
                                have HB := n1_
                                clear n0_ n1_
                                (try clear hb)
                                (try clear hb2)
                                (try clear hk)
                                (try clear hi)
                                refine hK.out _ _ ⟨(blk_cell BK116.out 0).trans rfl, (blk_cell BK116.out 1).trans rfl, (blk_cell BK116.out 2).trans rfl, (blk_cell BK116.out 3).trans rfl, ((HB.out.cell (World.block_lt_of_cell? w _ hw118_0)).trans hw118_0)⟩ (fun hHeld => ?_)
                                clear hK K
                                refine norm_ (a' := ?_) ?_ ?_
                                rotate_left
                                · show Act.put _ (some 52) _ = _
                                  simp only [Act.put, List.setIfInBounds_toArray, List.set_cons_zero, List.set_cons_succ, i64_w, i32_w]
                                  rfl
                                refine pure_ (i := 9) (N := some 43) (v := ?_) (a' := ?_) #[true, true, true, true, true, true, true, true, true, true, false, false, false, false, false] rfl rfl (any_of HT_.out (by kernel_rfl)) (fun _ _ _ h => h) (Or.inl ⟨by rfl, ?_⟩) ?_ ?_
                                rotate_left
                                · intro w'
                                  go_simp
                                  with_reducible rfl
                                rotate_left
                                · simp only [Act.put, List.setIfInBounds_toArray, List.set_cons_zero, List.set_cons_succ, i64_w, i32_w]
                                  rfl
                                refine pure_ (i := 10) (N := some 53) (v := ?_) (a' := ?_) #[true, true, true, true, true, true, true, true, true, true, true, false, false, false, false] rfl rfl (any_of HT_.out (by kernel_rfl)) (fun _ _ _ h => h) (Or.inl ⟨by rfl, ?_⟩) ?_ ?_
                                rotate_left
                                · intro w'
                                  go_simp
                                  with_reducible rfl
                                rotate_left
                                · simp only [Act.put, List.setIfInBounds_toArray, List.set_cons_zero, List.set_cons_succ, i64_w, i32_w]
                                  rfl
                                refine pure_ (i := 11) (N := some 54) (v := ?_) (a' := ?_) #[true, true, true, true, true, true, true, true, true, true, true, true, false, false, false] rfl rfl (any_of HT_.out (by kernel_rfl)) (fun _ _ _ h => h) (Or.inl ⟨by rfl, ?_⟩) ?_ ?_
                                rotate_left
                                · intro w'
                                  go_simp
                                  with_reducible rfl
                                rotate_left
                                · simp only [Act.put, List.setIfInBounds_toArray, List.set_cons_zero, List.set_cons_succ, i64_w, i32_w]
                                  rfl
                                refine one_ (i := 12) (N := some 11) #[true, true, true, true, true, true, true, true, true, true, true, true, true, false, false] rfl rfl (one_of HT_.out (by kernel_rfl)) (by decide) (fun K hK => ?_)
                                refine box_step ?hg (N := 11) ?hd (cs := #[.int .i64 0, .int .i64 0, .int .i64 0, .int .i64 0]) (t := 29) ?hr ?_; (case hd => rfl); (case hg => rfl); (case hr => first | (go_simp; done) | (go_simp; rfl))
                                intro gb124 hg w23 hbox hb
                                have n0_ := Aside0.mk (blk_below (g := gb116) (o := .cells #[.int .i64 x117000_1, .int .i64 x117001_1, .int .i64 x117002_1, .int .i64 x117003_1] 29 (0, 0)) (by (with_reducible repeat (first | refine blk_drewN ?_ _ | refine blk_drew ?_ | refine blk_alloc ?_ _)); exact BK116.out) hb)
                                have n1_ := Aside0.mk (below_step (by repeat (first | (with_reducible first | exact HB.out | apply below_alloc | apply pw_below_drewN | apply below_drew1 | refine below_set ?_ GE116.out) | exact HB.out)) hb)
                                have n2_ := Aside0.mk (hbox)
                                have n3_ := Aside0.mk ((by rw [hg]; exact (below_size (by repeat (first | (with_reducible first | exact HB.out | apply below_alloc | apply pw_below_drewN | apply below_drew1 | refine below_set ?_ GE116.out) | exact HB.out))) : w.heap.size ≤ gb124))
                                have n4_ := Aside0.mk ((by rw [hg]; exact (below_size (by repeat (first | (with_reducible first | exact HB.out | apply below_alloc | apply pw_below_drewN | apply below_drew1 | refine below_set ?_ GE116.out) | exact HB.out))) : w.heap.size ≤ gb124))
                                have n5_ := Aside0.mk ((by rw [hg]; exact Nat.ne_of_lt (blk_lt (g := gb116) (o := .cells #[.int .i64 x117000_1, .int .i64 x117001_1, .int .i64 x117002_1, .int .i64 x117003_1] 29 (0, 0)) (by (with_reducible repeat (first | refine blk_drewN ?_ _ | refine blk_drew ?_ | refine blk_alloc ?_ _)); exact BK116.out)) : gb116 ≠ gb124))
                                have n6_ := Aside0.mk ((by rw [hg]; exact Nat.ne_of_gt (blk_lt (g := gb116) (o := .cells #[.int .i64 x117000_1, .int .i64 x117001_1, .int .i64 x117002_1, .int .i64 x117003_1] 29 (0, 0)) (by (with_reducible repeat (first | refine blk_drewN ?_ _ | refine blk_drew ?_ | refine blk_alloc ?_ _)); exact BK116.out)) : gb124 ≠ gb116))
                                clear BK116
                                clear HB
                                have BK116 := n0_
                                have HB := n1_
                                have BK124 := n2_
                                have GW124 := n3_
                                have GE124 := n4_
                                have NB116_124 := n5_
                                have NB124_116 := n6_
                                clear n0_ n1_ n2_ n3_ n4_ n5_ n6_
                                clear hb hbox hg
                                refine hK.out _ _ ⟨(blk_cell BK116.out 0).trans rfl, (blk_cell BK116.out 1).trans rfl, (blk_cell BK116.out 2).trans rfl, (blk_cell BK116.out 3).trans rfl, ((HB.out.cell (World.block_lt_of_cell? w _ hw118_0)).trans hw118_0)⟩ (fun hHeld => ?_)
                                clear hK K
                                refine norm_ (a' := ?_) ?_ ?_
                                rotate_left
                                · show Act.put _ (some 11) _ = _
                                  simp only [Act.put, List.setIfInBounds_toArray, List.set_cons_zero, List.set_cons_succ, i64_w, i32_w]
                                  rfl
                                exact norm_ (by simp only [putAll, Act.put, List.setIfInBounds_toArray, List.set_cons_zero, List.set_cons_succ]) (hCont (gb124) _ ⟨hHeld, (by (with_reducible repeat (first | refine blk_drewN ?_ _ | refine blk_drew ?_ | refine blk_alloc ?_ _)); exact BK116.out), (by (with_reducible repeat (first | refine blk_drewN ?_ _ | refine blk_drew ?_ | refine blk_alloc ?_ _)); exact BK124.out), GW124.out, GE124.out, NB116_124.out, NB124_116.out, (by repeat (first | (with_reducible first | exact HB.out | apply below_alloc | apply pw_below_drewN | apply below_drew1 | refine below_set ?_ GE116.out | refine below_set ?_ GE124.out) | exact HB.out))⟩)
                              · skip
                                refine box_step ?hg (N := 11) ?hd (cs := #[.int .i64 0, .int .i64 0, .int .i64 0, .int .i64 0]) (t := 29) ?hr ?_; (case hd => rfl); (case hg => rfl); (case hr => first | (go_simp; done) | (go_simp; rfl))
                                intro gb124 hg w22 hbox hb
                                have n0_ := Aside0.mk (blk_below (g := gb116) (o := .cells #[.int .i64 x117000_1, .int .i64 x117001_1, .int .i64 x117002_1, .int .i64 x117003_1] 29 (0, 0)) (by (with_reducible repeat (first | refine blk_drewN ?_ _ | refine blk_drew ?_ | refine blk_alloc ?_ _)); exact BK116.out) hb)
                                have n1_ := Aside0.mk (below_step (by repeat (first | (with_reducible first | exact HB.out | apply below_alloc | apply pw_below_drewN | apply below_drew1 | refine below_set ?_ GE116.out) | exact HB.out)) hb)
                                have n2_ := Aside0.mk (hbox)
                                have n3_ := Aside0.mk ((by rw [hg]; exact (below_size (by repeat (first | (with_reducible first | exact HB.out | apply below_alloc | apply pw_below_drewN | apply below_drew1 | refine below_set ?_ GE116.out) | exact HB.out))) : w.heap.size ≤ gb124))
                                have n4_ := Aside0.mk ((by rw [hg]; exact (below_size (by repeat (first | (with_reducible first | exact HB.out | apply below_alloc | apply pw_below_drewN | apply below_drew1 | refine below_set ?_ GE116.out) | exact HB.out))) : w.heap.size ≤ gb124))
                                have n5_ := Aside0.mk ((by rw [hg]; exact Nat.ne_of_lt (blk_lt (g := gb116) (o := .cells #[.int .i64 x117000_1, .int .i64 x117001_1, .int .i64 x117002_1, .int .i64 x117003_1] 29 (0, 0)) (by (with_reducible repeat (first | refine blk_drewN ?_ _ | refine blk_drew ?_ | refine blk_alloc ?_ _)); exact BK116.out)) : gb116 ≠ gb124))
                                have n6_ := Aside0.mk ((by rw [hg]; exact Nat.ne_of_gt (blk_lt (g := gb116) (o := .cells #[.int .i64 x117000_1, .int .i64 x117001_1, .int .i64 x117002_1, .int .i64 x117003_1] 29 (0, 0)) (by (with_reducible repeat (first | refine blk_drewN ?_ _ | refine blk_drew ?_ | refine blk_alloc ?_ _)); exact BK116.out)) : gb124 ≠ gb116))
                                clear BK116
                                clear HB
                                have BK116 := n0_
                                have HB := n1_
                                have BK124 := n2_
                                have GW124 := n3_
                                have GE124 := n4_
                                have NB116_124 := n5_
                                have NB124_116 := n6_
                                clear n0_ n1_ n2_ n3_ n4_ n5_ n6_
                                clear hb hbox hg
                                refine hK.out _ _ ⟨(blk_cell BK116.out 0).trans rfl, (blk_cell BK116.out 1).trans rfl, (blk_cell BK116.out 2).trans rfl, (blk_cell BK116.out 3).trans rfl, ((HB.out.cell (World.block_lt_of_cell? w _ hw118_0)).trans hw118_0)⟩ (fun hHeld => ?_)
                                clear hK K
                                refine norm_ (a' := ?_) ?_ ?_
                                rotate_left
                                · show Act.put _ (some 11) _ = _
                                  simp only [Act.put, List.setIfInBounds_toArray, List.set_cons_zero, List.set_cons_succ, i64_w, i32_w]
                                  rfl
                                refine one_ (i := 8) (N := some 52) #[true, true, true, true, true, true, true, true, true, false, false, false, true, false, false] rfl rfl (one_of HT_.out (by kernel_rfl)) (by decide) (fun K hK => ?_)
                                refine goes_ Try.func22 (by kernel_rfl) rfl #[.agg #[.int .i64 x117000_1, .int .i64 x117001_1, .int .i64 x117002_1, .int .i64 x117003_1], .int .i64 (wrap64 (Int.tmod (rd l1 x9_1) 70)), .int .i64 x10_12] (by rfl) rfl rfl (by (try simp only [List.map_toArray, List.map_cons, List.map_nil]); first | done | rfl | (simp only [List.length_drop, List.length_take]; rfl)) ?_
                                with_reducible refine (rate_Take.calls kj12 x117000_1 x117001_1 x117002_1 x117003_1 (wrap64 (Int.tmod (rd l1 x9_1) 70)) x10_12 t119 t120 t121 t122 t123 _ A19.out).mono ?_
                                rintro e w23 ⟨rfl, hb⟩
                                refine ⟨_, rfl, ?_⟩
                                have n0_ := Aside0.mk (blk_below (g := gb116) (o := .cells #[.int .i64 x117000_1, .int .i64 x117001_1, .int .i64 x117002_1, .int .i64 x117003_1] 29 (0, 0)) (by (with_reducible repeat (first | refine blk_drewN ?_ _ | refine blk_drew ?_ | refine blk_alloc ?_ _)); exact BK116.out) hb)
                                have n1_ := Aside0.mk (blk_below (g := gb124) (o := .cells #[.int .i64 0, .int .i64 0, .int .i64 0, .int .i64 0] 29 (0, 0)) (by (with_reducible repeat (first | refine blk_drewN ?_ _ | refine blk_drew ?_ | refine blk_alloc ?_ _)); exact BK124.out) hb)
                                have n2_ := Aside0.mk (below_step (by repeat (first | (with_reducible first | exact HB.out | apply below_alloc | apply pw_below_drewN | apply below_drew1 | refine below_set ?_ GE116.out | refine below_set ?_ GE124.out) | exact HB.out)) hb)
                                clear BK116
                                clear BK124
                                clear HB
                                have BK116 := n0_
                                have BK124 := n1_
                                have HB := n2_
                                clear n0_ n1_ n2_
                                (try clear hb)
                                (try clear hb2)
                                (try clear hk)
                                (try clear hi)
                                refine hK.out _ _ ⟨(blk_cell BK116.out 0).trans rfl, (blk_cell BK116.out 1).trans rfl, (blk_cell BK116.out 2).trans rfl, (blk_cell BK116.out 3).trans rfl, ((HB.out.cell (World.block_lt_of_cell? w _ hw118_0)).trans hw118_0)⟩ (fun hHeld => ?_)
                                clear hK K
                                refine norm_ (a' := ?_) ?_ ?_
                                rotate_left
                                · show Act.put _ (some 52) _ = _
                                  simp only [Act.put, List.setIfInBounds_toArray, List.set_cons_zero, List.set_cons_succ, i64_w, i32_w]
                                  rfl
                                refine pure_ (i := 9) (N := some 43) (v := ?_) (a' := ?_) #[true, true, true, true, true, true, true, true, true, true, false, false, true, false, false] rfl rfl (any_of HT_.out (by kernel_rfl)) (fun _ _ _ h => h) (Or.inl ⟨by rfl, ?_⟩) ?_ ?_
                                rotate_left
                                · intro w'
                                  go_simp
                                  with_reducible rfl
                                rotate_left
                                · simp only [Act.put, List.setIfInBounds_toArray, List.set_cons_zero, List.set_cons_succ, i64_w, i32_w]
                                  rfl
                                refine pure_ (i := 10) (N := some 53) (v := ?_) (a' := ?_) #[true, true, true, true, true, true, true, true, true, true, true, false, true, false, false] rfl rfl (any_of HT_.out (by kernel_rfl)) (fun _ _ _ h => h) (Or.inl ⟨by rfl, ?_⟩) ?_ ?_
                                rotate_left
                                · intro w'
                                  go_simp
                                  with_reducible rfl
                                rotate_left
                                · simp only [Act.put, List.setIfInBounds_toArray, List.set_cons_zero, List.set_cons_succ, i64_w, i32_w]
                                  rfl
                                refine pure_ (i := 11) (N := some 54) (v := ?_) (a' := ?_) #[true, true, true, true, true, true, true, true, true, true, true, true, true, false, false] rfl rfl (any_of HT_.out (by kernel_rfl)) (fun _ _ _ h => h) (Or.inl ⟨by rfl, ?_⟩) ?_ ?_
                                rotate_left
                                · intro w'
                                  go_simp
                                  with_reducible rfl
                                rotate_left
                                · simp only [Act.put, List.setIfInBounds_toArray, List.set_cons_zero, List.set_cons_succ, i64_w, i32_w]
                                  rfl
                                exact norm_ (by simp only [putAll, Act.put, List.setIfInBounds_toArray, List.set_cons_zero, List.set_cons_succ]) (hCont (gb124) _ ⟨hHeld, (by (with_reducible repeat (first | refine blk_drewN ?_ _ | refine blk_drew ?_ | refine blk_alloc ?_ _)); exact BK116.out), (by (with_reducible repeat (first | refine blk_drewN ?_ _ | refine blk_drew ?_ | refine blk_alloc ?_ _)); exact BK124.out), GW124.out, GE124.out, NB116_124.out, NB124_116.out, (by repeat (first | (with_reducible first | exact HB.out | apply below_alloc | apply pw_below_drewN | apply below_drew1 | refine below_set ?_ GE116.out | refine below_set ?_ GE124.out) | exact HB.out))⟩)
                            rintro gb124 w24 ⟨hS_, h0_, h1_, h2_, h3_, h4_, h5_, h6_⟩
                            have n0_ : Aside0 (w24.heap[gb116]? = some (.cells #[.int .i64 x117000_1, .int .i64 x117001_1, .int .i64 x117002_1, .int .i64 x117003_1] 29 (0, 0))) := ⟨h0_⟩
                            have n1_ : Aside0 (w24.heap[gb124]? = some (.cells #[.int .i64 0, .int .i64 0, .int .i64 0, .int .i64 0] 29 (0, 0))) := ⟨h1_⟩
                            have n2_ : Aside0 (w.heap.size ≤ gb124) := ⟨h2_⟩
                            have n3_ : Aside0 (w.heap.size ≤ gb124) := ⟨h3_⟩
                            have n4_ : Aside0 (gb116 ≠ gb124) := ⟨h4_⟩
                            have n5_ : Aside0 (gb124 ≠ gb116) := ⟨h5_⟩
                            have n6_ : Aside0 (Below w.heap.size w w24) := ⟨h6_⟩
                            clear BK116
                            clear HB
                            clear h0_ h1_ h2_ h3_ h4_ h5_ h6_
                            have BK116 := n0_
                            have BK124 := n1_
                            have GW124 := n2_
                            have GE124 := n3_
                            have NB116_124 := n4_
                            have NB124_116 := n5_
                            have HB := n6_
                            clear n0_ n1_ n2_ n3_ n4_ n5_ n6_
                            have hHeld : w24.cell? ⟨gb116, 0, none⟩ = some (.int .i64 x117000_1) ∧ w24.cell? ⟨gb116, 1, none⟩ = some (.int .i64 x117001_1) ∧ w24.cell? ⟨gb116, 2, none⟩ = some (.int .i64 x117002_1) ∧ w24.cell? ⟨gb116, 3, none⟩ = some (.int .i64 x117003_1) ∧ w24.cell? (ad118.add (x9_1).toNat) = some (.int .u8 (rd l1 x9_1)) := hS_
                            refine norm_ (a' := ?_) ?_ ?_
                            rotate_left
                            · simp only [putAll, Act.put, List.setIfInBounds_toArray, List.set_cons_zero, List.set_cons_succ]
                              rfl
                            refine one_ (i := 13) (N := none) #[true, true, true, true, true, true, true, true, true, true, true, true, true, true, false] rfl rfl (one_of HT_.out (by kernel_rfl)) (by decide) (fun K hK => ?_)
                            have hs25 : w24.cell? ⟨gb124, 0, none⟩ = some (.int .i64 0) := (blk_cell BK124.out 0).trans rfl
                            have hfs25 := blk_frozen BK124.out 0
                            have hns25_0 := NB116_124.out
                            have hms25_0 := NB124_116.out
                            have hs26 : w24.cell? ⟨gb124, 1, none⟩ = some (.int .i64 0) := (blk_cell BK124.out 1).trans rfl
                            have hfs26 := blk_frozen BK124.out 1
                            have hns26_0 := NB116_124.out
                            have hms26_0 := NB124_116.out
                            have hs27 : w24.cell? ⟨gb124, 2, none⟩ = some (.int .i64 0) := (blk_cell BK124.out 2).trans rfl
                            have hfs27 := blk_frozen BK124.out 2
                            have hns27_0 := NB116_124.out
                            have hms27_0 := NB124_116.out
                            have hs28 : w24.cell? ⟨gb124, 3, none⟩ = some (.int .i64 0) := (blk_cell BK124.out 3).trans rfl
                            have hfs28 := blk_frozen BK124.out 3
                            have hns28_0 := NB116_124.out
                            have hms28_0 := NB124_116.out
                            refine skip_ (w1 := ?_) (by rfl) rfl ?_ ?_
                            rotate_left
                            · go_simp
                              rfl
                            refine hK.out _ _ ⟨((cell_far (p := ⟨gb124, _, none⟩) NB116_124.out _).trans (((cell_far (p := ⟨gb124, _, none⟩) NB116_124.out _).trans (((cell_far (p := ⟨gb124, _, none⟩) NB116_124.out _).trans (((cell_far (p := ⟨gb124, _, none⟩) NB116_124.out _).trans (hHeld.1)))))))), ((cell_far (p := ⟨gb124, _, none⟩) NB116_124.out _).trans (((cell_far (p := ⟨gb124, _, none⟩) NB116_124.out _).trans (((cell_far (p := ⟨gb124, _, none⟩) NB116_124.out _).trans (((cell_far (p := ⟨gb124, _, none⟩) NB116_124.out _).trans (hHeld.2.1)))))))), ((cell_far (p := ⟨gb124, _, none⟩) NB116_124.out _).trans (((cell_far (p := ⟨gb124, _, none⟩) NB116_124.out _).trans (((cell_far (p := ⟨gb124, _, none⟩) NB116_124.out _).trans (((cell_far (p := ⟨gb124, _, none⟩) NB116_124.out _).trans (hHeld.2.2.1)))))))), ((cell_far (p := ⟨gb124, _, none⟩) NB116_124.out _).trans (((cell_far (p := ⟨gb124, _, none⟩) NB116_124.out _).trans (((cell_far (p := ⟨gb124, _, none⟩) NB116_124.out _).trans (((cell_far (p := ⟨gb124, _, none⟩) NB116_124.out _).trans (hHeld.2.2.2.1)))))))), ((cell_far (p := ⟨gb124, _, none⟩) (by first | exact Nat.ne_of_lt (Nat.lt_of_lt_of_le (by have := World.block_lt_of_cell? _ _ hw118_0; first | rwa [add_block] at this | exact this) GW124.out) | (rw [add_block]; exact Nat.ne_of_lt (Nat.lt_of_lt_of_le (by have := World.block_lt_of_cell? _ _ hw118_0; first | rwa [add_block] at this | exact this) GW124.out)) | (show (Addr.add _ _).block ≠ _; rw [add_block]; exact Nat.ne_of_lt (Nat.lt_of_lt_of_le (by have := World.block_lt_of_cell? _ _ hw118_0; first | rwa [add_block] at this | exact this) GW124.out)) | (dsimp only; exact Nat.ne_of_lt (Nat.lt_of_lt_of_le (by have := World.block_lt_of_cell? _ _ hw118_0; first | rwa [add_block] at this | exact this) GW124.out))) _).trans (((cell_far (p := ⟨gb124, _, none⟩) (by first | exact Nat.ne_of_lt (Nat.lt_of_lt_of_le (by have := World.block_lt_of_cell? _ _ hw118_0; first | rwa [add_block] at this | exact this) GW124.out) | (rw [add_block]; exact Nat.ne_of_lt (Nat.lt_of_lt_of_le (by have := World.block_lt_of_cell? _ _ hw118_0; first | rwa [add_block] at this | exact this) GW124.out)) | (show (Addr.add _ _).block ≠ _; rw [add_block]; exact Nat.ne_of_lt (Nat.lt_of_lt_of_le (by have := World.block_lt_of_cell? _ _ hw118_0; first | rwa [add_block] at this | exact this) GW124.out)) | (dsimp only; exact Nat.ne_of_lt (Nat.lt_of_lt_of_le (by have := World.block_lt_of_cell? _ _ hw118_0; first | rwa [add_block] at this | exact this) GW124.out))) _).trans (((cell_far (p := ⟨gb124, _, none⟩) (by first | exact Nat.ne_of_lt (Nat.lt_of_lt_of_le (by have := World.block_lt_of_cell? _ _ hw118_0; first | rwa [add_block] at this | exact this) GW124.out) | (rw [add_block]; exact Nat.ne_of_lt (Nat.lt_of_lt_of_le (by have := World.block_lt_of_cell? _ _ hw118_0; first | rwa [add_block] at this | exact this) GW124.out)) | (show (Addr.add _ _).block ≠ _; rw [add_block]; exact Nat.ne_of_lt (Nat.lt_of_lt_of_le (by have := World.block_lt_of_cell? _ _ hw118_0; first | rwa [add_block] at this | exact this) GW124.out)) | (dsimp only; exact Nat.ne_of_lt (Nat.lt_of_lt_of_le (by have := World.block_lt_of_cell? _ _ hw118_0; first | rwa [add_block] at this | exact this) GW124.out))) _).trans (((cell_far (p := ⟨gb124, _, none⟩) (by first | exact Nat.ne_of_lt (Nat.lt_of_lt_of_le (by have := World.block_lt_of_cell? _ _ hw118_0; first | rwa [add_block] at this | exact this) GW124.out) | (rw [add_block]; exact Nat.ne_of_lt (Nat.lt_of_lt_of_le (by have := World.block_lt_of_cell? _ _ hw118_0; first | rwa [add_block] at this | exact this) GW124.out)) | (show (Addr.add _ _).block ≠ _; rw [add_block]; exact Nat.ne_of_lt (Nat.lt_of_lt_of_le (by have := World.block_lt_of_cell? _ _ hw118_0; first | rwa [add_block] at this | exact this) GW124.out)) | (dsimp only; exact Nat.ne_of_lt (Nat.lt_of_lt_of_le (by have := World.block_lt_of_cell? _ _ hw118_0; first | rwa [add_block] at this | exact this) GW124.out))) _).trans (hHeld.2.2.2.2))))))))⟩ (fun hHeld => ?_)
                            clear hK K
                            refine pure_ (i := 14) (N := some 12) (v := ?_) (a' := ?_) #[true, true, true, true, true, true, true, true, true, true, true, true, true, true, true] rfl rfl (any_of HT_.out (by kernel_rfl)) (fun _ _ _ h => h) (Or.inl ⟨by rfl, ?_⟩) ?_ ?_
                            rotate_left
                            · intro w'
                              go_simp
                              with_reducible rfl
                            rotate_left
                            · simp only [Act.put, List.setIfInBounds_toArray, List.set_cons_zero, List.set_cons_succ, i64_w, i32_w]
                              rfl
                            refine done_ (done_of HT_.out (by kernel_rfl)) ?_
                            have p125 : 0 ≤ (x9_1 : Int) := of_decide_eq_true (by first | (with_reducible assumption) | assumption)
                            have q125 : x9_1 < (l1.length : Int) := of_decide_eq_true (by first | (with_reducible assumption) | assumption)
                            obtain ⟨ad125, e125, hx125_0⟩ := Kd.at_int HR1.out x9_1 p125 q125
                            obtain rfl : ad118 = ad125 := (by injection e125)
                            have hn125_0 : ad118.block ≠ gb124 := Nat.ne_of_lt (Nat.lt_of_lt_of_le (by have := World.block_lt_of_cell? _ _ hx125_0; first | rwa [add_block] at this | exact this) GW124.out)
                            have hn125_1 : ad118.block ≠ gb124 := Nat.ne_of_lt (Nat.lt_of_lt_of_le (by have := World.block_lt_of_cell? _ _ hx125_0; first | rwa [add_block] at this | exact this) GW124.out)
                            have hn125_2 : ad118.block ≠ gb124 := Nat.ne_of_lt (Nat.lt_of_lt_of_le (by have := World.block_lt_of_cell? _ _ hx125_0; first | rwa [add_block] at this | exact this) GW124.out)
                            have hn125_3 : ad118.block ≠ gb124 := Nat.ne_of_lt (Nat.lt_of_lt_of_le (by have := World.block_lt_of_cell? _ _ hx125_0; first | rwa [add_block] at this | exact this) GW124.out)
                            replace hx125_0 := (HB.out.cell (World.block_lt_of_cell? w _ hx125_0)).trans hx125_0
                            replace hx125_0 := (cell_far (p := ⟨gb124, 0, none⟩) (by first | (rw [add_block]; exact hn125_0) | (show (Addr.add _ _).block ≠ _; rw [add_block]; exact hn125_0) | exact hn125_0) (.int .i64 t119)).trans hx125_0
                            replace hx125_0 := (cell_far (p := ⟨gb124, 1, none⟩) (by first | (rw [add_block]; exact hn125_1) | (show (Addr.add _ _).block ≠ _; rw [add_block]; exact hn125_1) | exact hn125_1) (.int .i64 t120)).trans hx125_0
                            replace hx125_0 := (cell_far (p := ⟨gb124, 2, none⟩) (by first | (rw [add_block]; exact hn125_2) | (show (Addr.add _ _).block ≠ _; rw [add_block]; exact hn125_2) | exact hn125_2) (.int .i64 t121)).trans hx125_0
                            replace hx125_0 := (cell_far (p := ⟨gb124, 3, none⟩) (by first | (rw [add_block]; exact hn125_3) | (show (Addr.add _ _).block ≠ _; rw [add_block]; exact hn125_3) | exact hn125_3) (.int .i64 t122)).trans hx125_0
                            clear hn125_0
                            clear hn125_1
                            clear hn125_2
                            clear hn125_3
                            replace p125 := eq_true p125
                            replace q125 := eq_true q125
                            have hnb29 := NB124_116.out
                            have hnc29 := NB116_124.out
                            have hcz30_0 : w24.cell? ⟨gb124, 0, none⟩ = some (.int .i64 0) := (blk_cell BK124.out 0).trans rfl
                            have hcz30_1 : w24.cell? ⟨gb124, 1, none⟩ = some (.int .i64 0) := (blk_cell BK124.out 1).trans rfl
                            have hcz30_2 : w24.cell? ⟨gb124, 2, none⟩ = some (.int .i64 0) := (blk_cell BK124.out 2).trans rfl
                            have hcz30_3 : w24.cell? ⟨gb124, 3, none⟩ = some (.int .i64 0) := (blk_cell BK124.out 3).trans rfl
                            have hfz30_0 := blk_frozen BK124.out 0
                            have hfz30_1 := blk_frozen BK124.out 1
                            have hfz30_2 := blk_frozen BK124.out 2
                            have hfz30_3 := blk_frozen BK124.out 3
                            have hcz31_0 : w24.cell? ⟨gb116, 0, none⟩ = some (.int .i64 x117000_1) := (blk_cell BK116.out 0).trans rfl
                            have hcz31_1 : w24.cell? ⟨gb116, 1, none⟩ = some (.int .i64 x117001_1) := (blk_cell BK116.out 1).trans rfl
                            have hcz31_2 : w24.cell? ⟨gb116, 2, none⟩ = some (.int .i64 x117002_1) := (blk_cell BK116.out 2).trans rfl
                            have hcz31_3 : w24.cell? ⟨gb116, 3, none⟩ = some (.int .i64 x117003_1) := (blk_cell BK116.out 3).trans rfl
                            have hfz31_0 := blk_frozen BK116.out 0
                            have hfz31_1 := blk_frozen BK116.out 1
                            have hfz31_2 := blk_frozen BK116.out 2
                            have hfz31_3 := blk_frozen BK116.out 3
                            try go_wp2
                            go_roundg kj12
                            case measure => have := HK1.out; have := HJ6.out; have := HJ9.out; have := HJ12.out; omega
                            case rel => exact ⟨(wrap64 (x8_1 + (wrap64 (Int.tmod (rd l1 x9_1) 70)))), (wrap64 (x9_1 + 1)), (t119), (t120), (t121), (t122), (by first | rfl | (simp; done) | (simp [*]; done)), (by first | rfl | (simp; done) | (simp [*]; done)), H', ⟨by have := HK1.out; have := HJ6.out; have := HJ9.out; have := HJ12.out; omega⟩, ⟨by (with_reducible repeat (first | refine blk_drewN ?_ _ | refine blk_drew ?_ | refine blk_alloc ?_ _)); refine blk_put (cs := #[.int .i64 t119, .int .i64 t120, .int .i64 t121, .int .i64 x117003_1]) ?_ 3 _ rfl; (with_reducible repeat (first | refine blk_drewN ?_ _ | refine blk_drew ?_ | refine blk_alloc ?_ _)); refine blk_put (cs := #[.int .i64 t119, .int .i64 t120, .int .i64 x117002_1, .int .i64 x117003_1]) ?_ 2 _ rfl; (with_reducible repeat (first | refine blk_drewN ?_ _ | refine blk_drew ?_ | refine blk_alloc ?_ _)); refine blk_put (cs := #[.int .i64 t119, .int .i64 x117001_1, .int .i64 x117002_1, .int .i64 x117003_1]) ?_ 1 _ rfl; (with_reducible repeat (first | refine blk_drewN ?_ _ | refine blk_drew ?_ | refine blk_alloc ?_ _)); refine blk_put (cs := #[.int .i64 x117000_1, .int .i64 x117001_1, .int .i64 x117002_1, .int .i64 x117003_1]) ?_ 0 _ rfl; (with_reducible repeat (first | refine blk_drewN ?_ _ | refine blk_drew ?_ | refine blk_alloc ?_ _)); refine blk_far ?_ NB116_124.out _; (with_reducible repeat (first | refine blk_drewN ?_ _ | refine blk_drew ?_ | refine blk_alloc ?_ _)); refine blk_far ?_ NB116_124.out _; (with_reducible repeat (first | refine blk_drewN ?_ _ | refine blk_drew ?_ | refine blk_alloc ?_ _)); refine blk_far ?_ NB116_124.out _; (with_reducible repeat (first | refine blk_drewN ?_ _ | refine blk_drew ?_ | refine blk_alloc ?_ _)); refine blk_far ?_ NB116_124.out _; (with_reducible repeat (first | refine blk_drewN ?_ _ | refine blk_drew ?_ | refine blk_alloc ?_ _)); exact BK116.out⟩, ⟨by repeat (first | (with_reducible first | exact HB.out | apply below_alloc | apply pw_below_drewN | apply below_drew1 | refine below_set ?_ GE116.out | refine below_set ?_ GE124.out) | exact HB.out)⟩⟩
                          · rw [if_neg c20] at H
                            have c20b0 : (t123 == 0) = false := beq_eq_false_iff_ne.mpr c20
                            have c20b1 : (t123 != 0) = true := bne_iff_ne.mpr c20
                            by_cases c32 : t123 = 2
                            · rw [if_pos c32] at H
                              have c32b0 : (t123 == 2) = true := beq_iff_eq.mpr c32
                              have c32b1 : (t123 != 2) = false := bne_eq_false_iff_eq.mpr c32
                              clear c32
                              have H' := Aside0.mk H
                              clear H
                              try go_wp2
                              have n0_ := Aside0.mk (blk_drew BK116.out)
                              have n1_ := Aside0.mk (below_drew1 HB.out)
                              clear BK116
                              clear HB
                              have BK116 := n0_
                              have HB := n1_
                              clear n0_ n1_
                              have p118 : 0 ≤ (x9_1 : Int) := of_decide_eq_true (by first | (with_reducible assumption) | assumption)
                              have q118 : x9_1 < (l1.length : Int) := of_decide_eq_true (by first | (with_reducible assumption) | assumption)
                              obtain ⟨ad118, e118, hx118_0⟩ := Kd.at_int HR1.out x9_1 p118 q118
                              have hw118_0 := hx118_0
                              cases e118
                              replace hx118_0 := (HB.out.cell (World.block_lt_of_cell? w _ hx118_0)).trans hx118_0
                              replace p118 := eq_true p118
                              replace q118 := eq_true q118
                              refine start_ (n := 15) (S := fun w' => w'.cell? ⟨gb116, 0, none⟩ = some (.int .i64 x117000_1) ∧ w'.cell? ⟨gb116, 1, none⟩ = some (.int .i64 x117001_1) ∧ w'.cell? ⟨gb116, 2, none⟩ = some (.int .i64 x117002_1) ∧ w'.cell? ⟨gb116, 3, none⟩ = some (.int .i64 x117003_1) ∧ w'.cell? (ad118.add (x9_1).toNat) = some (.int .u8 (rd l1 x9_1))) (ds := []) #[false, false, false, false, false, false, false, false, false, false, false, false, false, false, false] (by kernel_rfl) rfl rfl ⟨(blk_cell BK116.out 0).trans rfl, (blk_cell BK116.out 1).trans rfl, (blk_cell BK116.out 2).trans rfl, (blk_cell BK116.out 3).trans rfl, ((HB.out.cell (World.block_lt_of_cell? w _ hw118_0)).trans hw118_0)⟩ (fun hHeld => ?_); refine with_tabW stowagelaw09_RateBounds.tab9 stowagelaw09_RateBounds.bits9 (fun HT_ HW_ => ?_)
                              generalize wc.drew = w33 at BK116 HB hx118_0 hHeld ⊢
                              refine pure_ (i := 1) (N := some 45) (v := ?_) (a' := ?_) #[false, true, false, false, false, false, false, false, false, false, false, false, false, false, false] rfl rfl (any_of HT_.out (by kernel_rfl)) (fun _ _ _ h => h) (Or.inl ⟨by rfl, ?_⟩) ?_ ?_
                              rotate_left
                              · intro w'
                                go_simp
                                with_reducible rfl
                              rotate_left
                              · simp only [Act.put, List.setIfInBounds_toArray, List.set_cons_zero, List.set_cons_succ, i64_w, i32_w]
                                rfl
                              refine pure_ (i := 2) (N := some 46) (v := ?_) (a' := ?_) #[false, true, true, false, false, false, false, false, false, false, false, false, false, false, false] rfl rfl (any_of HT_.out (by kernel_rfl)) (fun _ _ _ h => h) (Or.inl ⟨by rfl, ?_⟩) ?_ ?_
                              rotate_left
                              · intro w'
                                go_simp
                                with_reducible rfl
                              rotate_left
                              · simp only [Act.put, List.setIfInBounds_toArray, List.set_cons_zero, List.set_cons_succ, i64_w, i32_w]
                                rfl
                              refine pure_ (i := 3) (N := some 47) (v := ?_) (a' := ?_) #[false, true, true, true, false, false, false, false, false, false, false, false, false, false, false] rfl rfl (any_of HT_.out (by kernel_rfl)) (fun _ _ _ h => h) (Or.inl ⟨by rfl, ?_⟩) ?_ ?_
                              rotate_left
                              · intro w'
                                go_simp
                                with_reducible rfl
                              rotate_left
                              · simp only [Act.put, List.setIfInBounds_toArray, List.set_cons_zero, List.set_cons_succ, i64_w, i32_w]
                                rfl
                              refine pure_ (i := 7) (N := some 51) (v := ?_) (a' := ?_) #[false, true, true, true, false, false, false, true, false, false, false, false, false, false, false] rfl rfl (any_of HT_.out (by kernel_rfl)) (fun _ _ _ h => h) (Or.inl ⟨by rfl, ?_⟩) ?_ ?_
                              rotate_left
                              · intro w'
                                go_simp
                                with_reducible rfl
                              rotate_left
                              · simp only [Act.put, List.setIfInBounds_toArray, List.set_cons_zero, List.set_cons_succ, i64_w, i32_w]
                                rfl
                              refine take_ (i := 0) (N := some 44) (v := ?_) (a' := ?_) #[true, true, true, true, false, false, false, true, false, false, false, false, false, false, false] rfl rfl (take_ofW HT_.out HW_.out (by kernel_rfl)) (fun _ _ _ h => h) (Or.inl ⟨by rfl, ?_⟩) hHeld ?_ ?_
                              rotate_left
                              · rintro w' ⟨s0, s1, s2, s3, s4⟩
                                go_simp
                                with_reducible rfl
                              rotate_left
                              · simp only [Act.put, List.setIfInBounds_toArray, List.set_cons_zero, List.set_cons_succ, i64_w, i32_w]
                                rfl
                              refine take_ (i := 4) (N := some 48) (v := ?_) (a' := ?_) #[true, true, true, true, true, false, false, true, false, false, false, false, false, false, false] rfl rfl (take_ofW HT_.out HW_.out (by kernel_rfl)) (fun _ _ _ h => h) (Or.inl ⟨by rfl, ?_⟩) hHeld ?_ ?_
                              rotate_left
                              · rintro w' ⟨s0, s1, s2, s3, s4⟩
                                go_simp
                                with_reducible rfl
                              rotate_left
                              · simp only [Act.put, List.setIfInBounds_toArray, List.set_cons_zero, List.set_cons_succ, i64_w, i32_w]
                                rfl
                              refine pure_ (i := 5) (N := some 49) (v := ?_) (a' := ?_) #[true, true, true, true, true, true, false, true, false, false, false, false, false, false, false] rfl rfl (any_of HT_.out (by kernel_rfl)) (fun _ _ _ h => h) (Or.inl ⟨by rfl, ?_⟩) ?_ ?_
                              rotate_left
                              · intro w'
                                go_simp
                                with_reducible rfl
                              rotate_left
                              · simp only [Act.put, List.setIfInBounds_toArray, List.set_cons_zero, List.set_cons_succ, i64_w, i32_w]
                                rfl
                              refine pure_ (i := 6) (N := some 50) (v := ?_) (a' := ?_) #[true, true, true, true, true, true, true, true, false, false, false, false, false, false, false] rfl rfl (any_of HT_.out (by kernel_rfl)) (fun _ _ _ h => h) (Or.inl ⟨by rfl, ?_⟩) ?_ ?_
                              rotate_left
                              · intro w'
                                go_simp
                                with_reducible rfl
                              rotate_left
                              · simp only [Act.put, List.setIfInBounds_toArray, List.set_cons_zero, List.set_cons_succ, i64_w, i32_w]
                                rfl
                              refine join_ (σ := Nat) 2 #[true, true, true, true, true, true, true, true, true, true, true, true, true, false, false] (fun s_ => [(52, .tuple #[.agg #[.int .i64 t119, .int .i64 t120, .int .i64 t121, .int .i64 t122], .int .i64 t123]), (11, .pointer (some ⟨s_, 0, none⟩)), (43, .tuple #[.agg #[.int .i64 t119, .int .i64 t120, .int .i64 t121, .int .i64 t122], .int .i64 t123]), (53, .agg #[.int .i64 t119, .int .i64 t120, .int .i64 t121, .int .i64 t122]), (54, .int .i64 t123)]) (fun s_ w' => (w'.cell? ⟨gb116, 0, none⟩ = some (.int .i64 x117000_1) ∧ w'.cell? ⟨gb116, 1, none⟩ = some (.int .i64 x117001_1) ∧ w'.cell? ⟨gb116, 2, none⟩ = some (.int .i64 x117002_1) ∧ w'.cell? ⟨gb116, 3, none⟩ = some (.int .i64 x117003_1) ∧ w'.cell? (ad118.add (x9_1).toNat) = some (.int .u8 (rd l1 x9_1))) ∧ (w'.heap[gb116]? = some (.cells #[.int .i64 x117000_1, .int .i64 x117001_1, .int .i64 x117002_1, .int .i64 x117003_1] 29 (0, 0))) ∧ (w'.heap[s_]? = some (.cells #[.int .i64 0, .int .i64 0, .int .i64 0, .int .i64 0] 29 (0, 0))) ∧ (w.heap.size ≤ s_) ∧ (w.heap.size ≤ s_) ∧ (gb116 ≠ s_) ∧ (s_ ≠ gb116) ∧ (Below w.heap.size w w')) ?_ ?_
                              rotate_left
                              · intro hCont
                                refine two_ (i := 8) (j := 12) (Ni := some 52) (Nj := some 11) #[true, true, true, true, true, true, true, true, true, false, false, false, false, false, false] #[true, true, true, true, true, true, true, true, false, false, false, false, true, false, false] rfl rfl rfl rfl (two_of HT_.out (by kernel_rfl)) (by decide) (by decide) (fun K hK => ?_) (fun K hK => ?_)
                                · skip
                                  refine goes_ Try.func22 (by kernel_rfl) rfl #[.agg #[.int .i64 x117000_1, .int .i64 x117001_1, .int .i64 x117002_1, .int .i64 x117003_1], .int .i64 (wrap64 (Int.tmod (rd l1 x9_1) 70)), .int .i64 x10_12] (by rfl) rfl rfl (by (try simp only [List.map_toArray, List.map_cons, List.map_nil]); first | done | rfl | (simp only [List.length_drop, List.length_take]; rfl)) ?_
                                  with_reducible refine (rate_Take.calls kj12 x117000_1 x117001_1 x117002_1 x117003_1 (wrap64 (Int.tmod (rd l1 x9_1) 70)) x10_12 t119 t120 t121 t122 t123 _ A19.out).mono ?_
                                  rintro e w34 ⟨rfl, hb⟩
                                  refine ⟨_, rfl, ?_⟩
                                  have n0_ := Aside0.mk (blk_below (g := gb116) (o := .cells #[.int .i64 x117000_1, .int .i64 x117001_1, .int .i64 x117002_1, .int .i64 x117003_1] 29 (0, 0)) (by (with_reducible repeat (first | refine blk_drewN ?_ _ | refine blk_drew ?_ | refine blk_alloc ?_ _)); exact BK116.out) hb)
                                  have n1_ := Aside0.mk (below_step (by repeat (first | (with_reducible first | exact HB.out | apply below_alloc | apply pw_below_drewN | apply below_drew1 | refine below_set ?_ GE116.out) | exact HB.out)) hb)
                                  clear BK116
                                  clear HB
                                  have BK116 := n0_
                                  have HB := n1_
                                  clear n0_ n1_
                                  (try clear hb)
                                  (try clear hb2)
                                  (try clear hk)
                                  (try clear hi)
                                  refine hK.out _ _ ⟨(blk_cell BK116.out 0).trans rfl, (blk_cell BK116.out 1).trans rfl, (blk_cell BK116.out 2).trans rfl, (blk_cell BK116.out 3).trans rfl, ((HB.out.cell (World.block_lt_of_cell? w _ hw118_0)).trans hw118_0)⟩ (fun hHeld => ?_)
                                  clear hK K
                                  refine norm_ (a' := ?_) ?_ ?_
                                  rotate_left
                                  · show Act.put _ (some 52) _ = _
                                    simp only [Act.put, List.setIfInBounds_toArray, List.set_cons_zero, List.set_cons_succ, i64_w, i32_w]
                                    rfl
                                  refine pure_ (i := 9) (N := some 43) (v := ?_) (a' := ?_) #[true, true, true, true, true, true, true, true, true, true, false, false, false, false, false] rfl rfl (any_of HT_.out (by kernel_rfl)) (fun _ _ _ h => h) (Or.inl ⟨by rfl, ?_⟩) ?_ ?_
                                  rotate_left
                                  · intro w'
                                    go_simp
                                    with_reducible rfl
                                  rotate_left
                                  · simp only [Act.put, List.setIfInBounds_toArray, List.set_cons_zero, List.set_cons_succ, i64_w, i32_w]
                                    rfl
                                  refine pure_ (i := 10) (N := some 53) (v := ?_) (a' := ?_) #[true, true, true, true, true, true, true, true, true, true, true, false, false, false, false] rfl rfl (any_of HT_.out (by kernel_rfl)) (fun _ _ _ h => h) (Or.inl ⟨by rfl, ?_⟩) ?_ ?_
                                  rotate_left
                                  · intro w'
                                    go_simp
                                    with_reducible rfl
                                  rotate_left
                                  · simp only [Act.put, List.setIfInBounds_toArray, List.set_cons_zero, List.set_cons_succ, i64_w, i32_w]
                                    rfl
                                  refine pure_ (i := 11) (N := some 54) (v := ?_) (a' := ?_) #[true, true, true, true, true, true, true, true, true, true, true, true, false, false, false] rfl rfl (any_of HT_.out (by kernel_rfl)) (fun _ _ _ h => h) (Or.inl ⟨by rfl, ?_⟩) ?_ ?_
                                  rotate_left
                                  · intro w'
                                    go_simp
                                    with_reducible rfl
                                  rotate_left
                                  · simp only [Act.put, List.setIfInBounds_toArray, List.set_cons_zero, List.set_cons_succ, i64_w, i32_w]
                                    rfl
                                  refine one_ (i := 12) (N := some 11) #[true, true, true, true, true, true, true, true, true, true, true, true, true, false, false] rfl rfl (one_of HT_.out (by kernel_rfl)) (by decide) (fun K hK => ?_)
                                  refine box_step ?hg (N := 11) ?hd (cs := #[.int .i64 0, .int .i64 0, .int .i64 0, .int .i64 0]) (t := 29) ?hr ?_; (case hd => rfl); (case hg => rfl); (case hr => first | (go_simp; done) | (go_simp; rfl))
                                  intro gb124 hg w35 hbox hb
                                  have n0_ := Aside0.mk (blk_below (g := gb116) (o := .cells #[.int .i64 x117000_1, .int .i64 x117001_1, .int .i64 x117002_1, .int .i64 x117003_1] 29 (0, 0)) (by (with_reducible repeat (first | refine blk_drewN ?_ _ | refine blk_drew ?_ | refine blk_alloc ?_ _)); exact BK116.out) hb)
                                  have n1_ := Aside0.mk (below_step (by repeat (first | (with_reducible first | exact HB.out | apply below_alloc | apply pw_below_drewN | apply below_drew1 | refine below_set ?_ GE116.out) | exact HB.out)) hb)
                                  have n2_ := Aside0.mk (hbox)
                                  have n3_ := Aside0.mk ((by rw [hg]; exact (below_size (by repeat (first | (with_reducible first | exact HB.out | apply below_alloc | apply pw_below_drewN | apply below_drew1 | refine below_set ?_ GE116.out) | exact HB.out))) : w.heap.size ≤ gb124))
                                  have n4_ := Aside0.mk ((by rw [hg]; exact (below_size (by repeat (first | (with_reducible first | exact HB.out | apply below_alloc | apply pw_below_drewN | apply below_drew1 | refine below_set ?_ GE116.out) | exact HB.out))) : w.heap.size ≤ gb124))
                                  have n5_ := Aside0.mk ((by rw [hg]; exact Nat.ne_of_lt (blk_lt (g := gb116) (o := .cells #[.int .i64 x117000_1, .int .i64 x117001_1, .int .i64 x117002_1, .int .i64 x117003_1] 29 (0, 0)) (by (with_reducible repeat (first | refine blk_drewN ?_ _ | refine blk_drew ?_ | refine blk_alloc ?_ _)); exact BK116.out)) : gb116 ≠ gb124))
                                  have n6_ := Aside0.mk ((by rw [hg]; exact Nat.ne_of_gt (blk_lt (g := gb116) (o := .cells #[.int .i64 x117000_1, .int .i64 x117001_1, .int .i64 x117002_1, .int .i64 x117003_1] 29 (0, 0)) (by (with_reducible repeat (first | refine blk_drewN ?_ _ | refine blk_drew ?_ | refine blk_alloc ?_ _)); exact BK116.out)) : gb124 ≠ gb116))
                                  clear BK116
                                  clear HB
                                  have BK116 := n0_
                                  have HB := n1_
                                  have BK124 := n2_
                                  have GW124 := n3_
                                  have GE124 := n4_
                                  have NB116_124 := n5_
                                  have NB124_116 := n6_
                                  clear n0_ n1_ n2_ n3_ n4_ n5_ n6_
                                  clear hb hbox hg
                                  refine hK.out _ _ ⟨(blk_cell BK116.out 0).trans rfl, (blk_cell BK116.out 1).trans rfl, (blk_cell BK116.out 2).trans rfl, (blk_cell BK116.out 3).trans rfl, ((HB.out.cell (World.block_lt_of_cell? w _ hw118_0)).trans hw118_0)⟩ (fun hHeld => ?_)
                                  clear hK K
                                  refine norm_ (a' := ?_) ?_ ?_
                                  rotate_left
                                  · show Act.put _ (some 11) _ = _
                                    simp only [Act.put, List.setIfInBounds_toArray, List.set_cons_zero, List.set_cons_succ, i64_w, i32_w]
                                    rfl
                                  exact norm_ (by simp only [putAll, Act.put, List.setIfInBounds_toArray, List.set_cons_zero, List.set_cons_succ]) (hCont (gb124) _ ⟨hHeld, (by (with_reducible repeat (first | refine blk_drewN ?_ _ | refine blk_drew ?_ | refine blk_alloc ?_ _)); exact BK116.out), (by (with_reducible repeat (first | refine blk_drewN ?_ _ | refine blk_drew ?_ | refine blk_alloc ?_ _)); exact BK124.out), GW124.out, GE124.out, NB116_124.out, NB124_116.out, (by repeat (first | (with_reducible first | exact HB.out | apply below_alloc | apply pw_below_drewN | apply below_drew1 | refine below_set ?_ GE116.out | refine below_set ?_ GE124.out) | exact HB.out))⟩)
                                · skip
                                  refine box_step ?hg (N := 11) ?hd (cs := #[.int .i64 0, .int .i64 0, .int .i64 0, .int .i64 0]) (t := 29) ?hr ?_; (case hd => rfl); (case hg => rfl); (case hr => first | (go_simp; done) | (go_simp; rfl))
                                  intro gb124 hg w34 hbox hb
                                  have n0_ := Aside0.mk (blk_below (g := gb116) (o := .cells #[.int .i64 x117000_1, .int .i64 x117001_1, .int .i64 x117002_1, .int .i64 x117003_1] 29 (0, 0)) (by (with_reducible repeat (first | refine blk_drewN ?_ _ | refine blk_drew ?_ | refine blk_alloc ?_ _)); exact BK116.out) hb)
                                  have n1_ := Aside0.mk (below_step (by repeat (first | (with_reducible first | exact HB.out | apply below_alloc | apply pw_below_drewN | apply below_drew1 | refine below_set ?_ GE116.out) | exact HB.out)) hb)
                                  have n2_ := Aside0.mk (hbox)
                                  have n3_ := Aside0.mk ((by rw [hg]; exact (below_size (by repeat (first | (with_reducible first | exact HB.out | apply below_alloc | apply pw_below_drewN | apply below_drew1 | refine below_set ?_ GE116.out) | exact HB.out))) : w.heap.size ≤ gb124))
                                  have n4_ := Aside0.mk ((by rw [hg]; exact (below_size (by repeat (first | (with_reducible first | exact HB.out | apply below_alloc | apply pw_below_drewN | apply below_drew1 | refine below_set ?_ GE116.out) | exact HB.out))) : w.heap.size ≤ gb124))
                                  have n5_ := Aside0.mk ((by rw [hg]; exact Nat.ne_of_lt (blk_lt (g := gb116) (o := .cells #[.int .i64 x117000_1, .int .i64 x117001_1, .int .i64 x117002_1, .int .i64 x117003_1] 29 (0, 0)) (by (with_reducible repeat (first | refine blk_drewN ?_ _ | refine blk_drew ?_ | refine blk_alloc ?_ _)); exact BK116.out)) : gb116 ≠ gb124))
                                  have n6_ := Aside0.mk ((by rw [hg]; exact Nat.ne_of_gt (blk_lt (g := gb116) (o := .cells #[.int .i64 x117000_1, .int .i64 x117001_1, .int .i64 x117002_1, .int .i64 x117003_1] 29 (0, 0)) (by (with_reducible repeat (first | refine blk_drewN ?_ _ | refine blk_drew ?_ | refine blk_alloc ?_ _)); exact BK116.out)) : gb124 ≠ gb116))
                                  clear BK116
                                  clear HB
                                  have BK116 := n0_
                                  have HB := n1_
                                  have BK124 := n2_
                                  have GW124 := n3_
                                  have GE124 := n4_
                                  have NB116_124 := n5_
                                  have NB124_116 := n6_
                                  clear n0_ n1_ n2_ n3_ n4_ n5_ n6_
                                  clear hb hbox hg
                                  refine hK.out _ _ ⟨(blk_cell BK116.out 0).trans rfl, (blk_cell BK116.out 1).trans rfl, (blk_cell BK116.out 2).trans rfl, (blk_cell BK116.out 3).trans rfl, ((HB.out.cell (World.block_lt_of_cell? w _ hw118_0)).trans hw118_0)⟩ (fun hHeld => ?_)
                                  clear hK K
                                  refine norm_ (a' := ?_) ?_ ?_
                                  rotate_left
                                  · show Act.put _ (some 11) _ = _
                                    simp only [Act.put, List.setIfInBounds_toArray, List.set_cons_zero, List.set_cons_succ, i64_w, i32_w]
                                    rfl
                                  refine one_ (i := 8) (N := some 52) #[true, true, true, true, true, true, true, true, true, false, false, false, true, false, false] rfl rfl (one_of HT_.out (by kernel_rfl)) (by decide) (fun K hK => ?_)
                                  refine goes_ Try.func22 (by kernel_rfl) rfl #[.agg #[.int .i64 x117000_1, .int .i64 x117001_1, .int .i64 x117002_1, .int .i64 x117003_1], .int .i64 (wrap64 (Int.tmod (rd l1 x9_1) 70)), .int .i64 x10_12] (by rfl) rfl rfl (by (try simp only [List.map_toArray, List.map_cons, List.map_nil]); first | done | rfl | (simp only [List.length_drop, List.length_take]; rfl)) ?_
                                  with_reducible refine (rate_Take.calls kj12 x117000_1 x117001_1 x117002_1 x117003_1 (wrap64 (Int.tmod (rd l1 x9_1) 70)) x10_12 t119 t120 t121 t122 t123 _ A19.out).mono ?_
                                  rintro e w35 ⟨rfl, hb⟩
                                  refine ⟨_, rfl, ?_⟩
                                  have n0_ := Aside0.mk (blk_below (g := gb116) (o := .cells #[.int .i64 x117000_1, .int .i64 x117001_1, .int .i64 x117002_1, .int .i64 x117003_1] 29 (0, 0)) (by (with_reducible repeat (first | refine blk_drewN ?_ _ | refine blk_drew ?_ | refine blk_alloc ?_ _)); exact BK116.out) hb)
                                  have n1_ := Aside0.mk (blk_below (g := gb124) (o := .cells #[.int .i64 0, .int .i64 0, .int .i64 0, .int .i64 0] 29 (0, 0)) (by (with_reducible repeat (first | refine blk_drewN ?_ _ | refine blk_drew ?_ | refine blk_alloc ?_ _)); exact BK124.out) hb)
                                  have n2_ := Aside0.mk (below_step (by repeat (first | (with_reducible first | exact HB.out | apply below_alloc | apply pw_below_drewN | apply below_drew1 | refine below_set ?_ GE116.out | refine below_set ?_ GE124.out) | exact HB.out)) hb)
                                  clear BK116
                                  clear BK124
                                  clear HB
                                  have BK116 := n0_
                                  have BK124 := n1_
                                  have HB := n2_
                                  clear n0_ n1_ n2_
                                  (try clear hb)
                                  (try clear hb2)
                                  (try clear hk)
                                  (try clear hi)
                                  refine hK.out _ _ ⟨(blk_cell BK116.out 0).trans rfl, (blk_cell BK116.out 1).trans rfl, (blk_cell BK116.out 2).trans rfl, (blk_cell BK116.out 3).trans rfl, ((HB.out.cell (World.block_lt_of_cell? w _ hw118_0)).trans hw118_0)⟩ (fun hHeld => ?_)
                                  clear hK K
                                  refine norm_ (a' := ?_) ?_ ?_
                                  rotate_left
                                  · show Act.put _ (some 52) _ = _
                                    simp only [Act.put, List.setIfInBounds_toArray, List.set_cons_zero, List.set_cons_succ, i64_w, i32_w]
                                    rfl
                                  refine pure_ (i := 9) (N := some 43) (v := ?_) (a' := ?_) #[true, true, true, true, true, true, true, true, true, true, false, false, true, false, false] rfl rfl (any_of HT_.out (by kernel_rfl)) (fun _ _ _ h => h) (Or.inl ⟨by rfl, ?_⟩) ?_ ?_
                                  rotate_left
                                  · intro w'
                                    go_simp
                                    with_reducible rfl
                                  rotate_left
                                  · simp only [Act.put, List.setIfInBounds_toArray, List.set_cons_zero, List.set_cons_succ, i64_w, i32_w]
                                    rfl
                                  refine pure_ (i := 10) (N := some 53) (v := ?_) (a' := ?_) #[true, true, true, true, true, true, true, true, true, true, true, false, true, false, false] rfl rfl (any_of HT_.out (by kernel_rfl)) (fun _ _ _ h => h) (Or.inl ⟨by rfl, ?_⟩) ?_ ?_
                                  rotate_left
                                  · intro w'
                                    go_simp
                                    with_reducible rfl
                                  rotate_left
                                  · simp only [Act.put, List.setIfInBounds_toArray, List.set_cons_zero, List.set_cons_succ, i64_w, i32_w]
                                    rfl
                                  refine pure_ (i := 11) (N := some 54) (v := ?_) (a' := ?_) #[true, true, true, true, true, true, true, true, true, true, true, true, true, false, false] rfl rfl (any_of HT_.out (by kernel_rfl)) (fun _ _ _ h => h) (Or.inl ⟨by rfl, ?_⟩) ?_ ?_
                                  rotate_left
                                  · intro w'
                                    go_simp
                                    with_reducible rfl
                                  rotate_left
                                  · simp only [Act.put, List.setIfInBounds_toArray, List.set_cons_zero, List.set_cons_succ, i64_w, i32_w]
                                    rfl
                                  exact norm_ (by simp only [putAll, Act.put, List.setIfInBounds_toArray, List.set_cons_zero, List.set_cons_succ]) (hCont (gb124) _ ⟨hHeld, (by (with_reducible repeat (first | refine blk_drewN ?_ _ | refine blk_drew ?_ | refine blk_alloc ?_ _)); exact BK116.out), (by (with_reducible repeat (first | refine blk_drewN ?_ _ | refine blk_drew ?_ | refine blk_alloc ?_ _)); exact BK124.out), GW124.out, GE124.out, NB116_124.out, NB124_116.out, (by repeat (first | (with_reducible first | exact HB.out | apply below_alloc | apply pw_below_drewN | apply below_drew1 | refine below_set ?_ GE116.out | refine below_set ?_ GE124.out) | exact HB.out))⟩)
                              rintro gb124 w36 ⟨hS_, h0_, h1_, h2_, h3_, h4_, h5_, h6_⟩
                              have n0_ : Aside0 (w36.heap[gb116]? = some (.cells #[.int .i64 x117000_1, .int .i64 x117001_1, .int .i64 x117002_1, .int .i64 x117003_1] 29 (0, 0))) := ⟨h0_⟩
                              have n1_ : Aside0 (w36.heap[gb124]? = some (.cells #[.int .i64 0, .int .i64 0, .int .i64 0, .int .i64 0] 29 (0, 0))) := ⟨h1_⟩
                              have n2_ : Aside0 (w.heap.size ≤ gb124) := ⟨h2_⟩
                              have n3_ : Aside0 (w.heap.size ≤ gb124) := ⟨h3_⟩
                              have n4_ : Aside0 (gb116 ≠ gb124) := ⟨h4_⟩
                              have n5_ : Aside0 (gb124 ≠ gb116) := ⟨h5_⟩
                              have n6_ : Aside0 (Below w.heap.size w w36) := ⟨h6_⟩
                              clear BK116
                              clear HB
                              clear h0_ h1_ h2_ h3_ h4_ h5_ h6_
                              have BK116 := n0_
                              have BK124 := n1_
                              have GW124 := n2_
                              have GE124 := n3_
                              have NB116_124 := n4_
                              have NB124_116 := n5_
                              have HB := n6_
                              clear n0_ n1_ n2_ n3_ n4_ n5_ n6_
                              have hHeld : w36.cell? ⟨gb116, 0, none⟩ = some (.int .i64 x117000_1) ∧ w36.cell? ⟨gb116, 1, none⟩ = some (.int .i64 x117001_1) ∧ w36.cell? ⟨gb116, 2, none⟩ = some (.int .i64 x117002_1) ∧ w36.cell? ⟨gb116, 3, none⟩ = some (.int .i64 x117003_1) ∧ w36.cell? (ad118.add (x9_1).toNat) = some (.int .u8 (rd l1 x9_1)) := hS_
                              refine norm_ (a' := ?_) ?_ ?_
                              rotate_left
                              · simp only [putAll, Act.put, List.setIfInBounds_toArray, List.set_cons_zero, List.set_cons_succ]
                                rfl
                              refine one_ (i := 13) (N := none) #[true, true, true, true, true, true, true, true, true, true, true, true, true, true, false] rfl rfl (one_of HT_.out (by kernel_rfl)) (by decide) (fun K hK => ?_)
                              have hs37 : w36.cell? ⟨gb124, 0, none⟩ = some (.int .i64 0) := (blk_cell BK124.out 0).trans rfl
                              have hfs37 := blk_frozen BK124.out 0
                              have hns37_0 := NB116_124.out
                              have hms37_0 := NB124_116.out
                              have hs38 : w36.cell? ⟨gb124, 1, none⟩ = some (.int .i64 0) := (blk_cell BK124.out 1).trans rfl
                              have hfs38 := blk_frozen BK124.out 1
                              have hns38_0 := NB116_124.out
                              have hms38_0 := NB124_116.out
                              have hs39 : w36.cell? ⟨gb124, 2, none⟩ = some (.int .i64 0) := (blk_cell BK124.out 2).trans rfl
                              have hfs39 := blk_frozen BK124.out 2
                              have hns39_0 := NB116_124.out
                              have hms39_0 := NB124_116.out
                              have hs40 : w36.cell? ⟨gb124, 3, none⟩ = some (.int .i64 0) := (blk_cell BK124.out 3).trans rfl
                              have hfs40 := blk_frozen BK124.out 3
                              have hns40_0 := NB116_124.out
                              have hms40_0 := NB124_116.out
                              refine skip_ (w1 := ?_) (by rfl) rfl ?_ ?_
                              rotate_left
                              · go_simp
                                rfl
                              refine hK.out _ _ ⟨((cell_far (p := ⟨gb124, _, none⟩) NB116_124.out _).trans (((cell_far (p := ⟨gb124, _, none⟩) NB116_124.out _).trans (((cell_far (p := ⟨gb124, _, none⟩) NB116_124.out _).trans (((cell_far (p := ⟨gb124, _, none⟩) NB116_124.out _).trans (hHeld.1)))))))), ((cell_far (p := ⟨gb124, _, none⟩) NB116_124.out _).trans (((cell_far (p := ⟨gb124, _, none⟩) NB116_124.out _).trans (((cell_far (p := ⟨gb124, _, none⟩) NB116_124.out _).trans (((cell_far (p := ⟨gb124, _, none⟩) NB116_124.out _).trans (hHeld.2.1)))))))), ((cell_far (p := ⟨gb124, _, none⟩) NB116_124.out _).trans (((cell_far (p := ⟨gb124, _, none⟩) NB116_124.out _).trans (((cell_far (p := ⟨gb124, _, none⟩) NB116_124.out _).trans (((cell_far (p := ⟨gb124, _, none⟩) NB116_124.out _).trans (hHeld.2.2.1)))))))), ((cell_far (p := ⟨gb124, _, none⟩) NB116_124.out _).trans (((cell_far (p := ⟨gb124, _, none⟩) NB116_124.out _).trans (((cell_far (p := ⟨gb124, _, none⟩) NB116_124.out _).trans (((cell_far (p := ⟨gb124, _, none⟩) NB116_124.out _).trans (hHeld.2.2.2.1)))))))), ((cell_far (p := ⟨gb124, _, none⟩) (by first | exact Nat.ne_of_lt (Nat.lt_of_lt_of_le (by have := World.block_lt_of_cell? _ _ hw118_0; first | rwa [add_block] at this | exact this) GW124.out) | (rw [add_block]; exact Nat.ne_of_lt (Nat.lt_of_lt_of_le (by have := World.block_lt_of_cell? _ _ hw118_0; first | rwa [add_block] at this | exact this) GW124.out)) | (show (Addr.add _ _).block ≠ _; rw [add_block]; exact Nat.ne_of_lt (Nat.lt_of_lt_of_le (by have := World.block_lt_of_cell? _ _ hw118_0; first | rwa [add_block] at this | exact this) GW124.out)) | (dsimp only; exact Nat.ne_of_lt (Nat.lt_of_lt_of_le (by have := World.block_lt_of_cell? _ _ hw118_0; first | rwa [add_block] at this | exact this) GW124.out))) _).trans (((cell_far (p := ⟨gb124, _, none⟩) (by first | exact Nat.ne_of_lt (Nat.lt_of_lt_of_le (by have := World.block_lt_of_cell? _ _ hw118_0; first | rwa [add_block] at this | exact this) GW124.out) | (rw [add_block]; exact Nat.ne_of_lt (Nat.lt_of_lt_of_le (by have := World.block_lt_of_cell? _ _ hw118_0; first | rwa [add_block] at this | exact this) GW124.out)) | (show (Addr.add _ _).block ≠ _; rw [add_block]; exact Nat.ne_of_lt (Nat.lt_of_lt_of_le (by have := World.block_lt_of_cell? _ _ hw118_0; first | rwa [add_block] at this | exact this) GW124.out)) | (dsimp only; exact Nat.ne_of_lt (Nat.lt_of_lt_of_le (by have := World.block_lt_of_cell? _ _ hw118_0; first | rwa [add_block] at this | exact this) GW124.out))) _).trans (((cell_far (p := ⟨gb124, _, none⟩) (by first | exact Nat.ne_of_lt (Nat.lt_of_lt_of_le (by have := World.block_lt_of_cell? _ _ hw118_0; first | rwa [add_block] at this | exact this) GW124.out) | (rw [add_block]; exact Nat.ne_of_lt (Nat.lt_of_lt_of_le (by have := World.block_lt_of_cell? _ _ hw118_0; first | rwa [add_block] at this | exact this) GW124.out)) | (show (Addr.add _ _).block ≠ _; rw [add_block]; exact Nat.ne_of_lt (Nat.lt_of_lt_of_le (by have := World.block_lt_of_cell? _ _ hw118_0; first | rwa [add_block] at this | exact this) GW124.out)) | (dsimp only; exact Nat.ne_of_lt (Nat.lt_of_lt_of_le (by have := World.block_lt_of_cell? _ _ hw118_0; first | rwa [add_block] at this | exact this) GW124.out))) _).trans (((cell_far (p := ⟨gb124, _, none⟩) (by first | exact Nat.ne_of_lt (Nat.lt_of_lt_of_le (by have := World.block_lt_of_cell? _ _ hw118_0; first | rwa [add_block] at this | exact this) GW124.out) | (rw [add_block]; exact Nat.ne_of_lt (Nat.lt_of_lt_of_le (by have := World.block_lt_of_cell? _ _ hw118_0; first | rwa [add_block] at this | exact this) GW124.out)) | (show (Addr.add _ _).block ≠ _; rw [add_block]; exact Nat.ne_of_lt (Nat.lt_of_lt_of_le (by have := World.block_lt_of_cell? _ _ hw118_0; first | rwa [add_block] at this | exact this) GW124.out)) | (dsimp only; exact Nat.ne_of_lt (Nat.lt_of_lt_of_le (by have := World.block_lt_of_cell? _ _ hw118_0; first | rwa [add_block] at this | exact this) GW124.out))) _).trans (hHeld.2.2.2.2))))))))⟩ (fun hHeld => ?_)
                              clear hK K
                              refine pure_ (i := 14) (N := some 12) (v := ?_) (a' := ?_) #[true, true, true, true, true, true, true, true, true, true, true, true, true, true, true] rfl rfl (any_of HT_.out (by kernel_rfl)) (fun _ _ _ h => h) (Or.inl ⟨by rfl, ?_⟩) ?_ ?_
                              rotate_left
                              · intro w'
                                go_simp
                                with_reducible rfl
                              rotate_left
                              · simp only [Act.put, List.setIfInBounds_toArray, List.set_cons_zero, List.set_cons_succ, i64_w, i32_w]
                                rfl
                              refine done_ (done_of HT_.out (by kernel_rfl)) ?_
                              try go_wp2
                              go_meet
                              case rel => exact ⟨_, (x8_1), (x117000_1), (x117001_1), (x117002_1), (x117003_1), (by first | rfl | (simp; done) | (simp [*]; done)), H', ⟨by have := HK1.out; have := HJ6.out; have := HJ9.out; have := HJ12.out; first | omega | exact Nat.le_refl _⟩, ⟨by (with_reducible repeat (first | refine blk_drewN ?_ _ | refine blk_drew ?_ | refine blk_alloc ?_ _)); refine blk_far ?_ NB116_124.out _; (with_reducible repeat (first | refine blk_drewN ?_ _ | refine blk_drew ?_ | refine blk_alloc ?_ _)); refine blk_far ?_ NB116_124.out _; (with_reducible repeat (first | refine blk_drewN ?_ _ | refine blk_drew ?_ | refine blk_alloc ?_ _)); refine blk_far ?_ NB116_124.out _; (with_reducible repeat (first | refine blk_drewN ?_ _ | refine blk_drew ?_ | refine blk_alloc ?_ _)); refine blk_far ?_ NB116_124.out _; (with_reducible repeat (first | refine blk_drewN ?_ _ | refine blk_drew ?_ | refine blk_alloc ?_ _)); exact BK116.out⟩, ⟨by repeat (first | (with_reducible first | exact HB.out | apply below_alloc | apply pw_below_drewN | apply below_drew1 | refine below_set ?_ GE116.out | refine below_set ?_ GE124.out) | exact HB.out)⟩⟩
                            · rw [if_neg c32] at H
                              have c32b0 : (t123 == 2) = false := beq_eq_false_iff_ne.mpr c32
                              have c32b1 : (t123 != 2) = true := bne_iff_ne.mpr c32
                              have H' := Aside0.mk H
                              clear H
                              try go_wp2
                              have n0_ := Aside0.mk (blk_drew BK116.out)
                              have n1_ := Aside0.mk (below_drew1 HB.out)
                              clear BK116
                              clear HB
                              have BK116 := n0_
                              have HB := n1_
                              clear n0_ n1_
                              have p118 : 0 ≤ (x9_1 : Int) := of_decide_eq_true (by first | (with_reducible assumption) | assumption)
                              have q118 : x9_1 < (l1.length : Int) := of_decide_eq_true (by first | (with_reducible assumption) | assumption)
                              obtain ⟨ad118, e118, hx118_0⟩ := Kd.at_int HR1.out x9_1 p118 q118
                              have hw118_0 := hx118_0
                              cases e118
                              replace hx118_0 := (HB.out.cell (World.block_lt_of_cell? w _ hx118_0)).trans hx118_0
                              replace p118 := eq_true p118
                              replace q118 := eq_true q118
                              refine start_ (n := 15) (S := fun w' => w'.cell? ⟨gb116, 0, none⟩ = some (.int .i64 x117000_1) ∧ w'.cell? ⟨gb116, 1, none⟩ = some (.int .i64 x117001_1) ∧ w'.cell? ⟨gb116, 2, none⟩ = some (.int .i64 x117002_1) ∧ w'.cell? ⟨gb116, 3, none⟩ = some (.int .i64 x117003_1) ∧ w'.cell? (ad118.add (x9_1).toNat) = some (.int .u8 (rd l1 x9_1))) (ds := []) #[false, false, false, false, false, false, false, false, false, false, false, false, false, false, false] (by kernel_rfl) rfl rfl ⟨(blk_cell BK116.out 0).trans rfl, (blk_cell BK116.out 1).trans rfl, (blk_cell BK116.out 2).trans rfl, (blk_cell BK116.out 3).trans rfl, ((HB.out.cell (World.block_lt_of_cell? w _ hw118_0)).trans hw118_0)⟩ (fun hHeld => ?_); refine with_tabW stowagelaw09_RateBounds.tab9 stowagelaw09_RateBounds.bits9 (fun HT_ HW_ => ?_)
                              generalize wc.drew = w41 at BK116 HB hx118_0 hHeld ⊢
                              refine pure_ (i := 1) (N := some 45) (v := ?_) (a' := ?_) #[false, true, false, false, false, false, false, false, false, false, false, false, false, false, false] rfl rfl (any_of HT_.out (by kernel_rfl)) (fun _ _ _ h => h) (Or.inl ⟨by rfl, ?_⟩) ?_ ?_
                              rotate_left
                              · intro w'
                                go_simp
                                with_reducible rfl
                              rotate_left
                              · simp only [Act.put, List.setIfInBounds_toArray, List.set_cons_zero, List.set_cons_succ, i64_w, i32_w]
                                rfl
                              refine pure_ (i := 2) (N := some 46) (v := ?_) (a' := ?_) #[false, true, true, false, false, false, false, false, false, false, false, false, false, false, false] rfl rfl (any_of HT_.out (by kernel_rfl)) (fun _ _ _ h => h) (Or.inl ⟨by rfl, ?_⟩) ?_ ?_
                              rotate_left
                              · intro w'
                                go_simp
                                with_reducible rfl
                              rotate_left
                              · simp only [Act.put, List.setIfInBounds_toArray, List.set_cons_zero, List.set_cons_succ, i64_w, i32_w]
                                rfl
                              refine pure_ (i := 3) (N := some 47) (v := ?_) (a' := ?_) #[false, true, true, true, false, false, false, false, false, false, false, false, false, false, false] rfl rfl (any_of HT_.out (by kernel_rfl)) (fun _ _ _ h => h) (Or.inl ⟨by rfl, ?_⟩) ?_ ?_
                              rotate_left
                              · intro w'
                                go_simp
                                with_reducible rfl
                              rotate_left
                              · simp only [Act.put, List.setIfInBounds_toArray, List.set_cons_zero, List.set_cons_succ, i64_w, i32_w]
                                rfl
                              refine pure_ (i := 7) (N := some 51) (v := ?_) (a' := ?_) #[false, true, true, true, false, false, false, true, false, false, false, false, false, false, false] rfl rfl (any_of HT_.out (by kernel_rfl)) (fun _ _ _ h => h) (Or.inl ⟨by rfl, ?_⟩) ?_ ?_
                              rotate_left
                              · intro w'
                                go_simp
                                with_reducible rfl
                              rotate_left
                              · simp only [Act.put, List.setIfInBounds_toArray, List.set_cons_zero, List.set_cons_succ, i64_w, i32_w]
                                rfl
                              refine take_ (i := 0) (N := some 44) (v := ?_) (a' := ?_) #[true, true, true, true, false, false, false, true, false, false, false, false, false, false, false] rfl rfl (take_ofW HT_.out HW_.out (by kernel_rfl)) (fun _ _ _ h => h) (Or.inl ⟨by rfl, ?_⟩) hHeld ?_ ?_
                              rotate_left
                              · rintro w' ⟨s0, s1, s2, s3, s4⟩
                                go_simp
                                with_reducible rfl
                              rotate_left
                              · simp only [Act.put, List.setIfInBounds_toArray, List.set_cons_zero, List.set_cons_succ, i64_w, i32_w]
                                rfl
                              refine take_ (i := 4) (N := some 48) (v := ?_) (a' := ?_) #[true, true, true, true, true, false, false, true, false, false, false, false, false, false, false] rfl rfl (take_ofW HT_.out HW_.out (by kernel_rfl)) (fun _ _ _ h => h) (Or.inl ⟨by rfl, ?_⟩) hHeld ?_ ?_
                              rotate_left
                              · rintro w' ⟨s0, s1, s2, s3, s4⟩
                                go_simp
                                with_reducible rfl
                              rotate_left
                              · simp only [Act.put, List.setIfInBounds_toArray, List.set_cons_zero, List.set_cons_succ, i64_w, i32_w]
                                rfl
                              refine pure_ (i := 5) (N := some 49) (v := ?_) (a' := ?_) #[true, true, true, true, true, true, false, true, false, false, false, false, false, false, false] rfl rfl (any_of HT_.out (by kernel_rfl)) (fun _ _ _ h => h) (Or.inl ⟨by rfl, ?_⟩) ?_ ?_
                              rotate_left
                              · intro w'
                                go_simp
                                with_reducible rfl
                              rotate_left
                              · simp only [Act.put, List.setIfInBounds_toArray, List.set_cons_zero, List.set_cons_succ, i64_w, i32_w]
                                rfl
                              refine pure_ (i := 6) (N := some 50) (v := ?_) (a' := ?_) #[true, true, true, true, true, true, true, true, false, false, false, false, false, false, false] rfl rfl (any_of HT_.out (by kernel_rfl)) (fun _ _ _ h => h) (Or.inl ⟨by rfl, ?_⟩) ?_ ?_
                              rotate_left
                              · intro w'
                                go_simp
                                with_reducible rfl
                              rotate_left
                              · simp only [Act.put, List.setIfInBounds_toArray, List.set_cons_zero, List.set_cons_succ, i64_w, i32_w]
                                rfl
                              refine join_ (σ := Nat) 2 #[true, true, true, true, true, true, true, true, true, true, true, true, true, false, false] (fun s_ => [(52, .tuple #[.agg #[.int .i64 t119, .int .i64 t120, .int .i64 t121, .int .i64 t122], .int .i64 t123]), (11, .pointer (some ⟨s_, 0, none⟩)), (43, .tuple #[.agg #[.int .i64 t119, .int .i64 t120, .int .i64 t121, .int .i64 t122], .int .i64 t123]), (53, .agg #[.int .i64 t119, .int .i64 t120, .int .i64 t121, .int .i64 t122]), (54, .int .i64 t123)]) (fun s_ w' => (w'.cell? ⟨gb116, 0, none⟩ = some (.int .i64 x117000_1) ∧ w'.cell? ⟨gb116, 1, none⟩ = some (.int .i64 x117001_1) ∧ w'.cell? ⟨gb116, 2, none⟩ = some (.int .i64 x117002_1) ∧ w'.cell? ⟨gb116, 3, none⟩ = some (.int .i64 x117003_1) ∧ w'.cell? (ad118.add (x9_1).toNat) = some (.int .u8 (rd l1 x9_1))) ∧ (w'.heap[gb116]? = some (.cells #[.int .i64 x117000_1, .int .i64 x117001_1, .int .i64 x117002_1, .int .i64 x117003_1] 29 (0, 0))) ∧ (w'.heap[s_]? = some (.cells #[.int .i64 0, .int .i64 0, .int .i64 0, .int .i64 0] 29 (0, 0))) ∧ (w.heap.size ≤ s_) ∧ (w.heap.size ≤ s_) ∧ (gb116 ≠ s_) ∧ (s_ ≠ gb116) ∧ (Below w.heap.size w w')) ?_ ?_
                              rotate_left
                              · intro hCont
                                refine two_ (i := 8) (j := 12) (Ni := some 52) (Nj := some 11) #[true, true, true, true, true, true, true, true, true, false, false, false, false, false, false] #[true, true, true, true, true, true, true, true, false, false, false, false, true, false, false] rfl rfl rfl rfl (two_of HT_.out (by kernel_rfl)) (by decide) (by decide) (fun K hK => ?_) (fun K hK => ?_)
                                · skip
                                  refine goes_ Try.func22 (by kernel_rfl) rfl #[.agg #[.int .i64 x117000_1, .int .i64 x117001_1, .int .i64 x117002_1, .int .i64 x117003_1], .int .i64 (wrap64 (Int.tmod (rd l1 x9_1) 70)), .int .i64 x10_12] (by rfl) rfl rfl (by (try simp only [List.map_toArray, List.map_cons, List.map_nil]); first | done | rfl | (simp only [List.length_drop, List.length_take]; rfl)) ?_
                                  with_reducible refine (rate_Take.calls kj12 x117000_1 x117001_1 x117002_1 x117003_1 (wrap64 (Int.tmod (rd l1 x9_1) 70)) x10_12 t119 t120 t121 t122 t123 _ A19.out).mono ?_
                                  rintro e w42 ⟨rfl, hb⟩
                                  refine ⟨_, rfl, ?_⟩
                                  have n0_ := Aside0.mk (blk_below (g := gb116) (o := .cells #[.int .i64 x117000_1, .int .i64 x117001_1, .int .i64 x117002_1, .int .i64 x117003_1] 29 (0, 0)) (by (with_reducible repeat (first | refine blk_drewN ?_ _ | refine blk_drew ?_ | refine blk_alloc ?_ _)); exact BK116.out) hb)
                                  have n1_ := Aside0.mk (below_step (by repeat (first | (with_reducible first | exact HB.out | apply below_alloc | apply pw_below_drewN | apply below_drew1 | refine below_set ?_ GE116.out) | exact HB.out)) hb)
                                  clear BK116
                                  clear HB
                                  have BK116 := n0_
                                  have HB := n1_
                                  clear n0_ n1_
                                  (try clear hb)
                                  (try clear hb2)
                                  (try clear hk)
                                  (try clear hi)
                                  refine hK.out _ _ ⟨(blk_cell BK116.out 0).trans rfl, (blk_cell BK116.out 1).trans rfl, (blk_cell BK116.out 2).trans rfl, (blk_cell BK116.out 3).trans rfl, ((HB.out.cell (World.block_lt_of_cell? w _ hw118_0)).trans hw118_0)⟩ (fun hHeld => ?_)
                                  clear hK K
                                  refine norm_ (a' := ?_) ?_ ?_
                                  rotate_left
                                  · show Act.put _ (some 52) _ = _
                                    simp only [Act.put, List.setIfInBounds_toArray, List.set_cons_zero, List.set_cons_succ, i64_w, i32_w]
                                    rfl
                                  refine pure_ (i := 9) (N := some 43) (v := ?_) (a' := ?_) #[true, true, true, true, true, true, true, true, true, true, false, false, false, false, false] rfl rfl (any_of HT_.out (by kernel_rfl)) (fun _ _ _ h => h) (Or.inl ⟨by rfl, ?_⟩) ?_ ?_
                                  rotate_left
                                  · intro w'
                                    go_simp
                                    with_reducible rfl
                                  rotate_left
                                  · simp only [Act.put, List.setIfInBounds_toArray, List.set_cons_zero, List.set_cons_succ, i64_w, i32_w]
                                    rfl
                                  refine pure_ (i := 10) (N := some 53) (v := ?_) (a' := ?_) #[true, true, true, true, true, true, true, true, true, true, true, false, false, false, false] rfl rfl (any_of HT_.out (by kernel_rfl)) (fun _ _ _ h => h) (Or.inl ⟨by rfl, ?_⟩) ?_ ?_
                                  rotate_left
                                  · intro w'
                                    go_simp
                                    with_reducible rfl
                                  rotate_left
                                  · simp only [Act.put, List.setIfInBounds_toArray, List.set_cons_zero, List.set_cons_succ, i64_w, i32_w]
                                    rfl
                                  refine pure_ (i := 11) (N := some 54) (v := ?_) (a' := ?_) #[true, true, true, true, true, true, true, true, true, true, true, true, false, false, false] rfl rfl (any_of HT_.out (by kernel_rfl)) (fun _ _ _ h => h) (Or.inl ⟨by rfl, ?_⟩) ?_ ?_
                                  rotate_left
                                  · intro w'
                                    go_simp
                                    with_reducible rfl
                                  rotate_left
                                  · simp only [Act.put, List.setIfInBounds_toArray, List.set_cons_zero, List.set_cons_succ, i64_w, i32_w]
                                    rfl
                                  refine one_ (i := 12) (N := some 11) #[true, true, true, true, true, true, true, true, true, true, true, true, true, false, false] rfl rfl (one_of HT_.out (by kernel_rfl)) (by decide) (fun K hK => ?_)
                                  refine box_step ?hg (N := 11) ?hd (cs := #[.int .i64 0, .int .i64 0, .int .i64 0, .int .i64 0]) (t := 29) ?hr ?_; (case hd => rfl); (case hg => rfl); (case hr => first | (go_simp; done) | (go_simp; rfl))
                                  intro gb124 hg w43 hbox hb
                                  have n0_ := Aside0.mk (blk_below (g := gb116) (o := .cells #[.int .i64 x117000_1, .int .i64 x117001_1, .int .i64 x117002_1, .int .i64 x117003_1] 29 (0, 0)) (by (with_reducible repeat (first | refine blk_drewN ?_ _ | refine blk_drew ?_ | refine blk_alloc ?_ _)); exact BK116.out) hb)
                                  have n1_ := Aside0.mk (below_step (by repeat (first | (with_reducible first | exact HB.out | apply below_alloc | apply pw_below_drewN | apply below_drew1 | refine below_set ?_ GE116.out) | exact HB.out)) hb)
                                  have n2_ := Aside0.mk (hbox)
                                  have n3_ := Aside0.mk ((by rw [hg]; exact (below_size (by repeat (first | (with_reducible first | exact HB.out | apply below_alloc | apply pw_below_drewN | apply below_drew1 | refine below_set ?_ GE116.out) | exact HB.out))) : w.heap.size ≤ gb124))
                                  have n4_ := Aside0.mk ((by rw [hg]; exact (below_size (by repeat (first | (with_reducible first | exact HB.out | apply below_alloc | apply pw_below_drewN | apply below_drew1 | refine below_set ?_ GE116.out) | exact HB.out))) : w.heap.size ≤ gb124))
                                  have n5_ := Aside0.mk ((by rw [hg]; exact Nat.ne_of_lt (blk_lt (g := gb116) (o := .cells #[.int .i64 x117000_1, .int .i64 x117001_1, .int .i64 x117002_1, .int .i64 x117003_1] 29 (0, 0)) (by (with_reducible repeat (first | refine blk_drewN ?_ _ | refine blk_drew ?_ | refine blk_alloc ?_ _)); exact BK116.out)) : gb116 ≠ gb124))
                                  have n6_ := Aside0.mk ((by rw [hg]; exact Nat.ne_of_gt (blk_lt (g := gb116) (o := .cells #[.int .i64 x117000_1, .int .i64 x117001_1, .int .i64 x117002_1, .int .i64 x117003_1] 29 (0, 0)) (by (with_reducible repeat (first | refine blk_drewN ?_ _ | refine blk_drew ?_ | refine blk_alloc ?_ _)); exact BK116.out)) : gb124 ≠ gb116))
                                  clear BK116
                                  clear HB
                                  have BK116 := n0_
                                  have HB := n1_
                                  have BK124 := n2_
                                  have GW124 := n3_
                                  have GE124 := n4_
                                  have NB116_124 := n5_
                                  have NB124_116 := n6_
                                  clear n0_ n1_ n2_ n3_ n4_ n5_ n6_
                                  clear hb hbox hg
                                  refine hK.out _ _ ⟨(blk_cell BK116.out 0).trans rfl, (blk_cell BK116.out 1).trans rfl, (blk_cell BK116.out 2).trans rfl, (blk_cell BK116.out 3).trans rfl, ((HB.out.cell (World.block_lt_of_cell? w _ hw118_0)).trans hw118_0)⟩ (fun hHeld => ?_)
                                  clear hK K
                                  refine norm_ (a' := ?_) ?_ ?_
                                  rotate_left
                                  · show Act.put _ (some 11) _ = _
                                    simp only [Act.put, List.setIfInBounds_toArray, List.set_cons_zero, List.set_cons_succ, i64_w, i32_w]
                                    rfl
                                  exact norm_ (by simp only [putAll, Act.put, List.setIfInBounds_toArray, List.set_cons_zero, List.set_cons_succ]) (hCont (gb124) _ ⟨hHeld, (by (with_reducible repeat (first | refine blk_drewN ?_ _ | refine blk_drew ?_ | refine blk_alloc ?_ _)); exact BK116.out), (by (with_reducible repeat (first | refine blk_drewN ?_ _ | refine blk_drew ?_ | refine blk_alloc ?_ _)); exact BK124.out), GW124.out, GE124.out, NB116_124.out, NB124_116.out, (by repeat (first | (with_reducible first | exact HB.out | apply below_alloc | apply pw_below_drewN | apply below_drew1 | refine below_set ?_ GE116.out | refine below_set ?_ GE124.out) | exact HB.out))⟩)
                                · skip
                                  refine box_step ?hg (N := 11) ?hd (cs := #[.int .i64 0, .int .i64 0, .int .i64 0, .int .i64 0]) (t := 29) ?hr ?_; (case hd => rfl); (case hg => rfl); (case hr => first | (go_simp; done) | (go_simp; rfl))
                                  intro gb124 hg w42 hbox hb
                                  have n0_ := Aside0.mk (blk_below (g := gb116) (o := .cells #[.int .i64 x117000_1, .int .i64 x117001_1, .int .i64 x117002_1, .int .i64 x117003_1] 29 (0, 0)) (by (with_reducible repeat (first | refine blk_drewN ?_ _ | refine blk_drew ?_ | refine blk_alloc ?_ _)); exact BK116.out) hb)
                                  have n1_ := Aside0.mk (below_step (by repeat (first | (with_reducible first | exact HB.out | apply below_alloc | apply pw_below_drewN | apply below_drew1 | refine below_set ?_ GE116.out) | exact HB.out)) hb)
                                  have n2_ := Aside0.mk (hbox)
                                  have n3_ := Aside0.mk ((by rw [hg]; exact (below_size (by repeat (first | (with_reducible first | exact HB.out | apply below_alloc | apply pw_below_drewN | apply below_drew1 | refine below_set ?_ GE116.out) | exact HB.out))) : w.heap.size ≤ gb124))
                                  have n4_ := Aside0.mk ((by rw [hg]; exact (below_size (by repeat (first | (with_reducible first | exact HB.out | apply below_alloc | apply pw_below_drewN | apply below_drew1 | refine below_set ?_ GE116.out) | exact HB.out))) : w.heap.size ≤ gb124))
                                  have n5_ := Aside0.mk ((by rw [hg]; exact Nat.ne_of_lt (blk_lt (g := gb116) (o := .cells #[.int .i64 x117000_1, .int .i64 x117001_1, .int .i64 x117002_1, .int .i64 x117003_1] 29 (0, 0)) (by (with_reducible repeat (first | refine blk_drewN ?_ _ | refine blk_drew ?_ | refine blk_alloc ?_ _)); exact BK116.out)) : gb116 ≠ gb124))
                                  have n6_ := Aside0.mk ((by rw [hg]; exact Nat.ne_of_gt (blk_lt (g := gb116) (o := .cells #[.int .i64 x117000_1, .int .i64 x117001_1, .int .i64 x117002_1, .int .i64 x117003_1] 29 (0, 0)) (by (with_reducible repeat (first | refine blk_drewN ?_ _ | refine blk_drew ?_ | refine blk_alloc ?_ _)); exact BK116.out)) : gb124 ≠ gb116))
                                  clear BK116
                                  clear HB
                                  have BK116 := n0_
                                  have HB := n1_
                                  have BK124 := n2_
                                  have GW124 := n3_
                                  have GE124 := n4_
                                  have NB116_124 := n5_
                                  have NB124_116 := n6_
                                  clear n0_ n1_ n2_ n3_ n4_ n5_ n6_
                                  clear hb hbox hg
                                  refine hK.out _ _ ⟨(blk_cell BK116.out 0).trans rfl, (blk_cell BK116.out 1).trans rfl, (blk_cell BK116.out 2).trans rfl, (blk_cell BK116.out 3).trans rfl, ((HB.out.cell (World.block_lt_of_cell? w _ hw118_0)).trans hw118_0)⟩ (fun hHeld => ?_)
                                  clear hK K
                                  refine norm_ (a' := ?_) ?_ ?_
                                  rotate_left
                                  · show Act.put _ (some 11) _ = _
                                    simp only [Act.put, List.setIfInBounds_toArray, List.set_cons_zero, List.set_cons_succ, i64_w, i32_w]
                                    rfl
                                  refine one_ (i := 8) (N := some 52) #[true, true, true, true, true, true, true, true, true, false, false, false, true, false, false] rfl rfl (one_of HT_.out (by kernel_rfl)) (by decide) (fun K hK => ?_)
                                  refine goes_ Try.func22 (by kernel_rfl) rfl #[.agg #[.int .i64 x117000_1, .int .i64 x117001_1, .int .i64 x117002_1, .int .i64 x117003_1], .int .i64 (wrap64 (Int.tmod (rd l1 x9_1) 70)), .int .i64 x10_12] (by rfl) rfl rfl (by (try simp only [List.map_toArray, List.map_cons, List.map_nil]); first | done | rfl | (simp only [List.length_drop, List.length_take]; rfl)) ?_
                                  with_reducible refine (rate_Take.calls kj12 x117000_1 x117001_1 x117002_1 x117003_1 (wrap64 (Int.tmod (rd l1 x9_1) 70)) x10_12 t119 t120 t121 t122 t123 _ A19.out).mono ?_
                                  rintro e w43 ⟨rfl, hb⟩
                                  refine ⟨_, rfl, ?_⟩
                                  have n0_ := Aside0.mk (blk_below (g := gb116) (o := .cells #[.int .i64 x117000_1, .int .i64 x117001_1, .int .i64 x117002_1, .int .i64 x117003_1] 29 (0, 0)) (by (with_reducible repeat (first | refine blk_drewN ?_ _ | refine blk_drew ?_ | refine blk_alloc ?_ _)); exact BK116.out) hb)
                                  have n1_ := Aside0.mk (blk_below (g := gb124) (o := .cells #[.int .i64 0, .int .i64 0, .int .i64 0, .int .i64 0] 29 (0, 0)) (by (with_reducible repeat (first | refine blk_drewN ?_ _ | refine blk_drew ?_ | refine blk_alloc ?_ _)); exact BK124.out) hb)
                                  have n2_ := Aside0.mk (below_step (by repeat (first | (with_reducible first | exact HB.out | apply below_alloc | apply pw_below_drewN | apply below_drew1 | refine below_set ?_ GE116.out | refine below_set ?_ GE124.out) | exact HB.out)) hb)
                                  clear BK116
                                  clear BK124
                                  clear HB
                                  have BK116 := n0_
                                  have BK124 := n1_
                                  have HB := n2_
                                  clear n0_ n1_ n2_
                                  (try clear hb)
                                  (try clear hb2)
                                  (try clear hk)
                                  (try clear hi)
                                  refine hK.out _ _ ⟨(blk_cell BK116.out 0).trans rfl, (blk_cell BK116.out 1).trans rfl, (blk_cell BK116.out 2).trans rfl, (blk_cell BK116.out 3).trans rfl, ((HB.out.cell (World.block_lt_of_cell? w _ hw118_0)).trans hw118_0)⟩ (fun hHeld => ?_)
                                  clear hK K
                                  refine norm_ (a' := ?_) ?_ ?_
                                  rotate_left
                                  · show Act.put _ (some 52) _ = _
                                    simp only [Act.put, List.setIfInBounds_toArray, List.set_cons_zero, List.set_cons_succ, i64_w, i32_w]
                                    rfl
                                  refine pure_ (i := 9) (N := some 43) (v := ?_) (a' := ?_) #[true, true, true, true, true, true, true, true, true, true, false, false, true, false, false] rfl rfl (any_of HT_.out (by kernel_rfl)) (fun _ _ _ h => h) (Or.inl ⟨by rfl, ?_⟩) ?_ ?_
                                  rotate_left
                                  · intro w'
                                    go_simp
                                    with_reducible rfl
                                  rotate_left
                                  · simp only [Act.put, List.setIfInBounds_toArray, List.set_cons_zero, List.set_cons_succ, i64_w, i32_w]
                                    rfl
                                  refine pure_ (i := 10) (N := some 53) (v := ?_) (a' := ?_) #[true, true, true, true, true, true, true, true, true, true, true, false, true, false, false] rfl rfl (any_of HT_.out (by kernel_rfl)) (fun _ _ _ h => h) (Or.inl ⟨by rfl, ?_⟩) ?_ ?_
                                  rotate_left
                                  · intro w'
                                    go_simp
                                    with_reducible rfl
                                  rotate_left
                                  · simp only [Act.put, List.setIfInBounds_toArray, List.set_cons_zero, List.set_cons_succ, i64_w, i32_w]
                                    rfl
                                  refine pure_ (i := 11) (N := some 54) (v := ?_) (a' := ?_) #[true, true, true, true, true, true, true, true, true, true, true, true, true, false, false] rfl rfl (any_of HT_.out (by kernel_rfl)) (fun _ _ _ h => h) (Or.inl ⟨by rfl, ?_⟩) ?_ ?_
                                  rotate_left
                                  · intro w'
                                    go_simp
                                    with_reducible rfl
                                  rotate_left
                                  · simp only [Act.put, List.setIfInBounds_toArray, List.set_cons_zero, List.set_cons_succ, i64_w, i32_w]
                                    rfl
                                  exact norm_ (by simp only [putAll, Act.put, List.setIfInBounds_toArray, List.set_cons_zero, List.set_cons_succ]) (hCont (gb124) _ ⟨hHeld, (by (with_reducible repeat (first | refine blk_drewN ?_ _ | refine blk_drew ?_ | refine blk_alloc ?_ _)); exact BK116.out), (by (with_reducible repeat (first | refine blk_drewN ?_ _ | refine blk_drew ?_ | refine blk_alloc ?_ _)); exact BK124.out), GW124.out, GE124.out, NB116_124.out, NB124_116.out, (by repeat (first | (with_reducible first | exact HB.out | apply below_alloc | apply pw_below_drewN | apply below_drew1 | refine below_set ?_ GE116.out | refine below_set ?_ GE124.out) | exact HB.out))⟩)
                              rintro gb124 w44 ⟨hS_, h0_, h1_, h2_, h3_, h4_, h5_, h6_⟩
                              have n0_ : Aside0 (w44.heap[gb116]? = some (.cells #[.int .i64 x117000_1, .int .i64 x117001_1, .int .i64 x117002_1, .int .i64 x117003_1] 29 (0, 0))) := ⟨h0_⟩
                              have n1_ : Aside0 (w44.heap[gb124]? = some (.cells #[.int .i64 0, .int .i64 0, .int .i64 0, .int .i64 0] 29 (0, 0))) := ⟨h1_⟩
                              have n2_ : Aside0 (w.heap.size ≤ gb124) := ⟨h2_⟩
                              have n3_ : Aside0 (w.heap.size ≤ gb124) := ⟨h3_⟩
                              have n4_ : Aside0 (gb116 ≠ gb124) := ⟨h4_⟩
                              have n5_ : Aside0 (gb124 ≠ gb116) := ⟨h5_⟩
                              have n6_ : Aside0 (Below w.heap.size w w44) := ⟨h6_⟩
                              clear BK116
                              clear HB
                              clear h0_ h1_ h2_ h3_ h4_ h5_ h6_
                              have BK116 := n0_
                              have BK124 := n1_
                              have GW124 := n2_
                              have GE124 := n3_
                              have NB116_124 := n4_
                              have NB124_116 := n5_
                              have HB := n6_
                              clear n0_ n1_ n2_ n3_ n4_ n5_ n6_
                              have hHeld : w44.cell? ⟨gb116, 0, none⟩ = some (.int .i64 x117000_1) ∧ w44.cell? ⟨gb116, 1, none⟩ = some (.int .i64 x117001_1) ∧ w44.cell? ⟨gb116, 2, none⟩ = some (.int .i64 x117002_1) ∧ w44.cell? ⟨gb116, 3, none⟩ = some (.int .i64 x117003_1) ∧ w44.cell? (ad118.add (x9_1).toNat) = some (.int .u8 (rd l1 x9_1)) := hS_
                              refine norm_ (a' := ?_) ?_ ?_
                              rotate_left
                              · simp only [putAll, Act.put, List.setIfInBounds_toArray, List.set_cons_zero, List.set_cons_succ]
                                rfl
                              refine one_ (i := 13) (N := none) #[true, true, true, true, true, true, true, true, true, true, true, true, true, true, false] rfl rfl (one_of HT_.out (by kernel_rfl)) (by decide) (fun K hK => ?_)
                              have hs45 : w44.cell? ⟨gb124, 0, none⟩ = some (.int .i64 0) := (blk_cell BK124.out 0).trans rfl
                              have hfs45 := blk_frozen BK124.out 0
                              have hns45_0 := NB116_124.out
                              have hms45_0 := NB124_116.out
                              have hs46 : w44.cell? ⟨gb124, 1, none⟩ = some (.int .i64 0) := (blk_cell BK124.out 1).trans rfl
                              have hfs46 := blk_frozen BK124.out 1
                              have hns46_0 := NB116_124.out
                              have hms46_0 := NB124_116.out
                              have hs47 : w44.cell? ⟨gb124, 2, none⟩ = some (.int .i64 0) := (blk_cell BK124.out 2).trans rfl
                              have hfs47 := blk_frozen BK124.out 2
                              have hns47_0 := NB116_124.out
                              have hms47_0 := NB124_116.out
                              have hs48 : w44.cell? ⟨gb124, 3, none⟩ = some (.int .i64 0) := (blk_cell BK124.out 3).trans rfl
                              have hfs48 := blk_frozen BK124.out 3
                              have hns48_0 := NB116_124.out
                              have hms48_0 := NB124_116.out
                              refine skip_ (w1 := ?_) (by rfl) rfl ?_ ?_
                              rotate_left
                              · go_simp
                                rfl
                              refine hK.out _ _ ⟨((cell_far (p := ⟨gb124, _, none⟩) NB116_124.out _).trans (((cell_far (p := ⟨gb124, _, none⟩) NB116_124.out _).trans (((cell_far (p := ⟨gb124, _, none⟩) NB116_124.out _).trans (((cell_far (p := ⟨gb124, _, none⟩) NB116_124.out _).trans (hHeld.1)))))))), ((cell_far (p := ⟨gb124, _, none⟩) NB116_124.out _).trans (((cell_far (p := ⟨gb124, _, none⟩) NB116_124.out _).trans (((cell_far (p := ⟨gb124, _, none⟩) NB116_124.out _).trans (((cell_far (p := ⟨gb124, _, none⟩) NB116_124.out _).trans (hHeld.2.1)))))))), ((cell_far (p := ⟨gb124, _, none⟩) NB116_124.out _).trans (((cell_far (p := ⟨gb124, _, none⟩) NB116_124.out _).trans (((cell_far (p := ⟨gb124, _, none⟩) NB116_124.out _).trans (((cell_far (p := ⟨gb124, _, none⟩) NB116_124.out _).trans (hHeld.2.2.1)))))))), ((cell_far (p := ⟨gb124, _, none⟩) NB116_124.out _).trans (((cell_far (p := ⟨gb124, _, none⟩) NB116_124.out _).trans (((cell_far (p := ⟨gb124, _, none⟩) NB116_124.out _).trans (((cell_far (p := ⟨gb124, _, none⟩) NB116_124.out _).trans (hHeld.2.2.2.1)))))))), ((cell_far (p := ⟨gb124, _, none⟩) (by first | exact Nat.ne_of_lt (Nat.lt_of_lt_of_le (by have := World.block_lt_of_cell? _ _ hw118_0; first | rwa [add_block] at this | exact this) GW124.out) | (rw [add_block]; exact Nat.ne_of_lt (Nat.lt_of_lt_of_le (by have := World.block_lt_of_cell? _ _ hw118_0; first | rwa [add_block] at this | exact this) GW124.out)) | (show (Addr.add _ _).block ≠ _; rw [add_block]; exact Nat.ne_of_lt (Nat.lt_of_lt_of_le (by have := World.block_lt_of_cell? _ _ hw118_0; first | rwa [add_block] at this | exact this) GW124.out)) | (dsimp only; exact Nat.ne_of_lt (Nat.lt_of_lt_of_le (by have := World.block_lt_of_cell? _ _ hw118_0; first | rwa [add_block] at this | exact this) GW124.out))) _).trans (((cell_far (p := ⟨gb124, _, none⟩) (by first | exact Nat.ne_of_lt (Nat.lt_of_lt_of_le (by have := World.block_lt_of_cell? _ _ hw118_0; first | rwa [add_block] at this | exact this) GW124.out) | (rw [add_block]; exact Nat.ne_of_lt (Nat.lt_of_lt_of_le (by have := World.block_lt_of_cell? _ _ hw118_0; first | rwa [add_block] at this | exact this) GW124.out)) | (show (Addr.add _ _).block ≠ _; rw [add_block]; exact Nat.ne_of_lt (Nat.lt_of_lt_of_le (by have := World.block_lt_of_cell? _ _ hw118_0; first | rwa [add_block] at this | exact this) GW124.out)) | (dsimp only; exact Nat.ne_of_lt (Nat.lt_of_lt_of_le (by have := World.block_lt_of_cell? _ _ hw118_0; first | rwa [add_block] at this | exact this) GW124.out))) _).trans (((cell_far (p := ⟨gb124, _, none⟩) (by first | exact Nat.ne_of_lt (Nat.lt_of_lt_of_le (by have := World.block_lt_of_cell? _ _ hw118_0; first | rwa [add_block] at this | exact this) GW124.out) | (rw [add_block]; exact Nat.ne_of_lt (Nat.lt_of_lt_of_le (by have := World.block_lt_of_cell? _ _ hw118_0; first | rwa [add_block] at this | exact this) GW124.out)) | (show (Addr.add _ _).block ≠ _; rw [add_block]; exact Nat.ne_of_lt (Nat.lt_of_lt_of_le (by have := World.block_lt_of_cell? _ _ hw118_0; first | rwa [add_block] at this | exact this) GW124.out)) | (dsimp only; exact Nat.ne_of_lt (Nat.lt_of_lt_of_le (by have := World.block_lt_of_cell? _ _ hw118_0; first | rwa [add_block] at this | exact this) GW124.out))) _).trans (((cell_far (p := ⟨gb124, _, none⟩) (by first | exact Nat.ne_of_lt (Nat.lt_of_lt_of_le (by have := World.block_lt_of_cell? _ _ hw118_0; first | rwa [add_block] at this | exact this) GW124.out) | (rw [add_block]; exact Nat.ne_of_lt (Nat.lt_of_lt_of_le (by have := World.block_lt_of_cell? _ _ hw118_0; first | rwa [add_block] at this | exact this) GW124.out)) | (show (Addr.add _ _).block ≠ _; rw [add_block]; exact Nat.ne_of_lt (Nat.lt_of_lt_of_le (by have := World.block_lt_of_cell? _ _ hw118_0; first | rwa [add_block] at this | exact this) GW124.out)) | (dsimp only; exact Nat.ne_of_lt (Nat.lt_of_lt_of_le (by have := World.block_lt_of_cell? _ _ hw118_0; first | rwa [add_block] at this | exact this) GW124.out))) _).trans (hHeld.2.2.2.2))))))))⟩ (fun hHeld => ?_)
                              clear hK K
                              refine pure_ (i := 14) (N := some 12) (v := ?_) (a' := ?_) #[true, true, true, true, true, true, true, true, true, true, true, true, true, true, true] rfl rfl (any_of HT_.out (by kernel_rfl)) (fun _ _ _ h => h) (Or.inl ⟨by rfl, ?_⟩) ?_ ?_
                              rotate_left
                              · intro w'
                                go_simp
                                with_reducible rfl
                              rotate_left
                              · simp only [Act.put, List.setIfInBounds_toArray, List.set_cons_zero, List.set_cons_succ, i64_w, i32_w]
                                rfl
                              refine done_ (done_of HT_.out (by kernel_rfl)) ?_
                              try go_wp2
                              go_roundg kj12
                              case measure => have := HK1.out; have := HJ6.out; have := HJ9.out; have := HJ12.out; omega
                              case rel => exact ⟨(x8_1), (wrap64 (x9_1 + 1)), (x117000_1), (x117001_1), (x117002_1), (x117003_1), (by first | rfl | (simp; done) | (simp [*]; done)), (by first | rfl | (simp; done) | (simp [*]; done)), H', ⟨by have := HK1.out; have := HJ6.out; have := HJ9.out; have := HJ12.out; omega⟩, ⟨by (with_reducible repeat (first | refine blk_drewN ?_ _ | refine blk_drew ?_ | refine blk_alloc ?_ _)); refine blk_far ?_ NB116_124.out _; (with_reducible repeat (first | refine blk_drewN ?_ _ | refine blk_drew ?_ | refine blk_alloc ?_ _)); refine blk_far ?_ NB116_124.out _; (with_reducible repeat (first | refine blk_drewN ?_ _ | refine blk_drew ?_ | refine blk_alloc ?_ _)); refine blk_far ?_ NB116_124.out _; (with_reducible repeat (first | refine blk_drewN ?_ _ | refine blk_drew ?_ | refine blk_alloc ?_ _)); refine blk_far ?_ NB116_124.out _; (with_reducible repeat (first | refine blk_drewN ?_ _ | refine blk_drew ?_ | refine blk_alloc ?_ _)); exact BK116.out⟩, ⟨by repeat (first | (with_reducible first | exact HB.out | apply below_alloc | apply pw_below_drewN | apply below_drew1 | refine below_set ?_ GE116.out | refine below_set ?_ GE124.out) | exact HB.out)⟩⟩
                        · rw [if_neg c18] at H
                          exact absurd H (by simp)
                      · rw [if_neg c17] at H
                        exact absurd H (by simp)
            · replace c9 := Bool.eq_false_iff.mpr c9
              subst c9
              have H1 : (stowagelaw09_RateBounds.j4 kj6 a0_3 x8_1 x117000_1 x117001_1 x117002_1 x117003_1) = some r := by rw [if_neg (show ¬ (false = true) by decide)] at H; exact H
              clear H
              have H := H1
              clear H1
              have H' := Aside0.mk H
              clear H
              go_wp2
              go_meet
              case rel => exact ⟨_, (x8_1), (x117000_1), (x117001_1), (x117002_1), (x117003_1), (by first | rfl | (simp; done) | (simp [*]; done)), H', ⟨by have := HK1.out; have := HJ6.out; first | omega | exact Nat.le_refl _⟩, ⟨by (with_reducible repeat (first | refine blk_drewN ?_ _ | refine blk_drew ?_ | refine blk_alloc ?_ _)); exact BK116.out⟩, ⟨by repeat (first | (with_reducible first | exact HB.out | apply below_alloc | apply pw_below_drewN | apply below_drew1 | refine below_set ?_ GE116.out) | exact HB.out)⟩⟩
  case rest =>
    clear HC4
    try clear c1
    try clear p1
    try clear q1
    try clear hx1
    try clear c2
    try clear p2
    try clear c3
    try clear p6
    try clear c9
    try clear p11
    try clear q11
    try clear hx11
    try clear c17
    try clear c18
    try clear c22
    try clear c32
    try clear c32b0
    try clear c32b1
    try clear hx118_0
    try clear p118
    try clear q118
    obtain ⟨kq, x8_3, x117000_3, x117001_3, x117002_3, x117003_3, rfl, HA, HJ3, BK116, HB⟩ := hcut
    cases kq with
    | zero => exact absurd HA.out (by simp [stowagelaw09_RateBounds.j4])
    | succ kj3 =>
      have H := HA.out
      clear HA
      simp only [stowagelaw09_RateBounds.j4] at H
      have HC49 := Aside0.mk H
      clear H
      go_upto_region 14 with (fail)
      go_cut [73] (fun v73 wc => ∃ (kq : Nat) (x73_48 : Bool), v73 = .bool x73_48 ∧ Aside0 (stowagelaw09_RateBounds.j5 kq a0_3 x8_3 x73_48 x117000_3 x117001_3 x117002_3 x117003_3 = some r) ∧ Aside0 (kq ≤ kj3) ∧ Aside0 (wc.heap[gb116]? = some (.cells #[.int .i64 x117000_3, .int .i64 x117001_3, .int .i64 x117002_3, .int .i64 x117003_3] 29 (0, 0))) ∧ Aside0 (Below w.heap.size w wc))
      case first =>
        have H := HC49.out
        clear HC49
        replace H := Option.bind_eq_some_iff.mp H
        obtain ⟨t126, A500, H⟩ := H
        replace H : (if t126 = true then (stowagelaw09_RateBounds.j5 kj3 a0_3 x8_3 (x8_3 == 0) x117000_3 x117001_3 x117002_3 x117003_3) else (stowagelaw09_RateBounds.j5 kj3 a0_3 x8_3 true x117000_3 x117001_3 x117002_3 x117003_3)) = some r := H
        have A50 := Aside0.mk A500
        clear A500
        by_cases c51 : t126 = true
        · subst c51
          have H1 : (stowagelaw09_RateBounds.j5 kj3 a0_3 x8_3 (x8_3 == 0) x117000_3 x117001_3 x117002_3 x117003_3) = some r := by rw [if_pos rfl] at H; exact H
          clear H
          have H := H1
          clear H1
          have H' := Aside0.mk H
          clear H
          go_wp2_with (first | ((with_reducible refine gate_callee (f := 15) rfl ?_); refine goesL_ (some 68) rfl rfl Try.func15 (by kernel_rfl) rfl #[] rfl (by (try simp only [List.map_toArray, List.map_cons, List.map_nil]); first | done | rfl | (simp only [List.length_drop, List.length_take]; rfl)) ?_; (with_reducible refine (stowagelaw09_awake.calls  true _ A50.out).mono ?_); rintro e w52 ⟨rfl, hb⟩; refine ⟨_, rfl, ?_⟩; have n0_ := Aside0.mk (blk_below (g := gb116) (o := .cells #[.int .i64 x117000_3, .int .i64 x117001_3, .int .i64 x117002_3, .int .i64 x117003_3] 29 (0, 0)) (by (with_reducible repeat (first | refine blk_drewN ?_ _ | refine blk_drew ?_ | refine blk_alloc ?_ _)); exact BK116.out) hb); have n1_ := Aside0.mk (below_step (by repeat (first | (with_reducible first | exact HB.out | apply below_alloc | apply pw_below_drewN | apply below_drew1 | refine below_set ?_ GE116.out) | exact HB.out)) hb); clear BK116; clear HB; have BK116 := n0_; have HB := n1_; clear n0_ n1_; (try clear hb); (try clear hb2); (try clear hk); (try clear hi)))
          go_meet
          case rel => exact ⟨_, ((x8_3 == 0)), (by first | rfl | (simp; done) | (simp [*]; done)), H', ⟨by have := HJ3.out; first | omega | exact Nat.le_refl _⟩, ⟨by (with_reducible repeat (first | refine blk_drewN ?_ _ | refine blk_drew ?_ | refine blk_alloc ?_ _)); exact BK116.out⟩, ⟨by repeat (first | (with_reducible first | exact HB.out | apply below_alloc | apply pw_below_drewN | apply below_drew1 | refine below_set ?_ GE116.out) | exact HB.out)⟩⟩
        · replace c51 := Bool.eq_false_iff.mpr c51
          subst c51
          have H1 : (stowagelaw09_RateBounds.j5 kj3 a0_3 x8_3 true x117000_3 x117001_3 x117002_3 x117003_3) = some r := by rw [if_neg (show ¬ (false = true) by decide)] at H; exact H
          clear H
          have H := H1
          clear H1
          have H' := Aside0.mk H
          clear H
          go_wp2_with (first | ((with_reducible refine gate_callee (f := 15) rfl ?_); refine goesL_ (some 68) rfl rfl Try.func15 (by kernel_rfl) rfl #[] rfl (by (try simp only [List.map_toArray, List.map_cons, List.map_nil]); first | done | rfl | (simp only [List.length_drop, List.length_take]; rfl)) ?_; (with_reducible refine (stowagelaw09_awake.calls  false _ A50.out).mono ?_); rintro e w53 ⟨rfl, hb⟩; refine ⟨_, rfl, ?_⟩; have n0_ := Aside0.mk (blk_below (g := gb116) (o := .cells #[.int .i64 x117000_3, .int .i64 x117001_3, .int .i64 x117002_3, .int .i64 x117003_3] 29 (0, 0)) (by (with_reducible repeat (first | refine blk_drewN ?_ _ | refine blk_drew ?_ | refine blk_alloc ?_ _)); exact BK116.out) hb); have n1_ := Aside0.mk (below_step (by repeat (first | (with_reducible first | exact HB.out | apply below_alloc | apply pw_below_drewN | apply below_drew1 | refine below_set ?_ GE116.out) | exact HB.out)) hb); clear BK116; clear HB; have BK116 := n0_; have HB := n1_; clear n0_ n1_; (try clear hb); (try clear hb2); (try clear hk); (try clear hi)))
          go_meet
          case rel => exact ⟨_, (true), (by first | rfl | (simp; done) | (simp [*]; done)), H', ⟨by have := HJ3.out; first | omega | exact Nat.le_refl _⟩, ⟨by (with_reducible repeat (first | refine blk_drewN ?_ _ | refine blk_drew ?_ | refine blk_alloc ?_ _)); exact BK116.out⟩, ⟨by repeat (first | (with_reducible first | exact HB.out | apply below_alloc | apply pw_below_drewN | apply below_drew1 | refine below_set ?_ GE116.out) | exact HB.out)⟩⟩
      case rest =>
        clear HC49
        try clear c1
        try clear p1
        try clear q1
        try clear hx1
        try clear c2
        try clear p2
        try clear c3
        try clear c5
        try clear p6
        try clear c9
        try clear p11
        try clear q11
        try clear hx11
        try clear c15
        try clear c17
        try clear c18
        try clear c22
        try clear c32
        try clear c32b0
        try clear c32b1
        try clear c51
        try clear hx118_0
        try clear p1
        try clear p11
        try clear p118
        try clear p2
        try clear p6
        try clear q1
        try clear q11
        try clear q118
        obtain ⟨kq, x73_48, rfl, HA, HJ48, BK116, HB⟩ := hcut
        cases kq with
        | zero => exact absurd HA.out (by simp [stowagelaw09_RateBounds.j5])
        | succ kj48 =>
          have H := HA.out
          clear HA
          simp only [stowagelaw09_RateBounds.j5] at H
          by_cases c54 : x73_48 = true
          · subst c54
            have H1 : ((stowagelaw09_awake.f).bind fun t127 => (some t127)) = some r := by rw [if_pos rfl] at H; exact H
            clear H
            have H := H1
            clear H1
            replace H := Option.bind_eq_some_iff.mp H
            obtain ⟨t127, A550, H⟩ := H
            replace H : (some t127) = some r := H
            have A55 := Aside0.mk A550
            clear A550
            obtain rfl := Option.some.inj H
            go_wp2_with (first | ((with_reducible refine gate_callee (f := 15) rfl ?_); refine goesL_ (some 74) rfl rfl Try.func15 (by kernel_rfl) rfl #[] rfl (by (try simp only [List.map_toArray, List.map_cons, List.map_nil]); first | done | rfl | (simp only [List.length_drop, List.length_take]; rfl)) ?_; (with_reducible refine (stowagelaw09_awake.calls  t127 _ A55.out).mono ?_); rintro e w56 ⟨rfl, hb⟩; refine ⟨_, rfl, ?_⟩; have n0_ := Aside0.mk (blk_below (g := gb116) (o := .cells #[.int .i64 x117000_3, .int .i64 x117001_3, .int .i64 x117002_3, .int .i64 x117003_3] 29 (0, 0)) (by (with_reducible repeat (first | refine blk_drewN ?_ _ | refine blk_drew ?_ | refine blk_alloc ?_ _)); exact BK116.out) hb); have n1_ := Aside0.mk (below_step (by repeat (first | (with_reducible first | exact HB.out | apply below_alloc | apply pw_below_drewN | apply below_drew1 | refine below_set ?_ GE116.out) | exact HB.out)) hb); clear BK116; clear HB; have BK116 := n0_; have HB := n1_; clear n0_ n1_; (try clear hb); (try clear hb2); (try clear hk); (try clear hi)))
            go_ret
            exact ⟨by first | rfl | (simp [errW_none, errW_some] <;> rfl) | (simp [*, errW_none, errW_some] <;> rfl), by repeat (first | (with_reducible first | exact HB.out | apply below_alloc | apply pw_below_drewN | apply below_drew1 | refine below_set ?_ GE116.out) | exact HB.out)⟩
          · replace c54 := Bool.eq_false_iff.mpr c54
            subst c54
            have H1 : (if x117000_3 > 0 then (if (wrap64 (x117003_3 - a0_3)) > 1073741824 then (some true) else (some (decide ((wrap64 (65536 * x8_3)) ≤ (wrap64 ((wrap64 (65536 * x117001_3)) + (wrap64 (x117000_3 * (wrap64 (x117003_3 - a0_3)))))))))) else (some (decide ((wrap64 (65536 * x8_3)) ≤ (wrap64 ((wrap64 (65536 * x117001_3)) + (wrap64 (x117000_3 * (wrap64 (x117003_3 - a0_3)))))))))) = some r := by rw [if_neg (show ¬ (false = true) by decide)] at H; exact H
            clear H
            have H := H1
            clear H1
            by_cases c57 : x117000_3 > 0
            · rw [if_pos c57] at H
              have c57b0 : decide (0 < x117000_3) = true := decide_eq_true c57
              clear c57
              by_cases c58 : (wrap64 (x117003_3 - a0_3)) > 1073741824
              · rw [if_pos c58] at H
                have c58b0 : decide (1073741824 < (wrap64 (x117003_3 - a0_3))) = true := decide_eq_true c58
                clear c58
                obtain rfl := Option.some.inj H
                have hcz59_0 : wc.cell? ⟨gb116, 0, none⟩ = some (.int .i64 x117000_3) := (blk_cell BK116.out 0).trans rfl
                have hcz59_1 : wc.cell? ⟨gb116, 1, none⟩ = some (.int .i64 x117001_3) := (blk_cell BK116.out 1).trans rfl
                have hcz59_2 : wc.cell? ⟨gb116, 2, none⟩ = some (.int .i64 x117002_3) := (blk_cell BK116.out 2).trans rfl
                have hcz59_3 : wc.cell? ⟨gb116, 3, none⟩ = some (.int .i64 x117003_3) := (blk_cell BK116.out 3).trans rfl
                have hfz59_0 := blk_frozen BK116.out 0
                have hfz59_1 := blk_frozen BK116.out 1
                have hfz59_2 := blk_frozen BK116.out 2
                have hfz59_3 := blk_frozen BK116.out 3
                go_wp2
                go_ret
                exact ⟨by first | rfl | (simp [errW_none, errW_some] <;> rfl) | (simp [*, errW_none, errW_some] <;> rfl), by repeat (first | (with_reducible first | exact HB.out | apply below_alloc | apply pw_below_drewN | apply below_drew1 | refine below_set ?_ GE116.out) | exact HB.out)⟩
              · rw [if_neg c58] at H
                have c58b0 : decide (1073741824 < (wrap64 (x117003_3 - a0_3))) = false := decide_eq_false c58
                clear c58
                obtain rfl := Option.some.inj H
                have hcz60_0 : wc.cell? ⟨gb116, 0, none⟩ = some (.int .i64 x117000_3) := (blk_cell BK116.out 0).trans rfl
                have hcz60_1 : wc.cell? ⟨gb116, 1, none⟩ = some (.int .i64 x117001_3) := (blk_cell BK116.out 1).trans rfl
                have hcz60_2 : wc.cell? ⟨gb116, 2, none⟩ = some (.int .i64 x117002_3) := (blk_cell BK116.out 2).trans rfl
                have hcz60_3 : wc.cell? ⟨gb116, 3, none⟩ = some (.int .i64 x117003_3) := (blk_cell BK116.out 3).trans rfl
                have hfz60_0 := blk_frozen BK116.out 0
                have hfz60_1 := blk_frozen BK116.out 1
                have hfz60_2 := blk_frozen BK116.out 2
                have hfz60_3 := blk_frozen BK116.out 3
                go_wp2
                go_ret
                exact ⟨by first | rfl | (simp [errW_none, errW_some] <;> rfl) | (simp [*, errW_none, errW_some] <;> rfl), by repeat (first | (with_reducible first | exact HB.out | apply below_alloc | apply pw_below_drewN | apply below_drew1 | refine below_set ?_ GE116.out) | exact HB.out)⟩
            · rw [if_neg c57] at H
              have c57b0 : decide (0 < x117000_3) = false := decide_eq_false c57
              clear c57
              obtain rfl := Option.some.inj H
              have hcz61_0 : wc.cell? ⟨gb116, 0, none⟩ = some (.int .i64 x117000_3) := (blk_cell BK116.out 0).trans rfl
              have hcz61_1 : wc.cell? ⟨gb116, 1, none⟩ = some (.int .i64 x117001_3) := (blk_cell BK116.out 1).trans rfl
              have hcz61_2 : wc.cell? ⟨gb116, 2, none⟩ = some (.int .i64 x117002_3) := (blk_cell BK116.out 2).trans rfl
              have hcz61_3 : wc.cell? ⟨gb116, 3, none⟩ = some (.int .i64 x117003_3) := (blk_cell BK116.out 3).trans rfl
              have hfz61_0 := blk_frozen BK116.out 0
              have hfz61_1 := blk_frozen BK116.out 1
              have hfz61_2 := blk_frozen BK116.out 2
              have hfz61_3 := blk_frozen BK116.out 3
              go_wp2
              go_ret
              exact ⟨by first | rfl | (simp [errW_none, errW_some] <;> rfl) | (simp [*, errW_none, errW_some] <;> rfl), by repeat (first | (with_reducible first | exact HB.out | apply below_alloc | apply pw_below_drewN | apply below_drew1 | refine below_set ?_ GE116.out) | exact HB.out)⟩

end Go.Proofs.Ytbmnkfpodkdpeaa.Q
