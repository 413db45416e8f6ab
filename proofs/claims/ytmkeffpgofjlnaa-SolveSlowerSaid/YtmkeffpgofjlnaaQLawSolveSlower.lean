/- The law SolveSlower: its walk. (The kit's print tool wrote these lines; they are laid out in texts of this claim's own.) -/
import Derived.Test.YtmkeffpgofjlnaaQ0
import Derived.Test.YtmkeffpgofjlnaaQsolveGreedy
import Derived.Test.YtmkeffpgofjlnaaQstowageref11Sound
import Derived.Test.YtmkeffpgofjlnaaQsolveBest
import Derived.Test.YtmkeffpgofjlnaaQstowagelaw12awake
import Derived.Test.YtmkeffpgofjlnaaQstowageref12Sum
import Derived.Test.YtmkeffpgofjlnaaQstowageref12Slower
namespace Go.Proofs.Ytmkeffpgofjlnaa.Q
open Go.RowKit Go.Proofs.YtmkeffpgofjlnaaW.PrintWords Go.Proofs.YtmkeffpgofjlnaaW.PrintLast Go.Proofs.YtmkeffpgofjlnaaW.PrintMore
attribute [local go_sem] max2_int min2_int max_two min_two max_three min_three max_four min_four   -- for this text's walks alone
set_option linter.unusedVariables false
set_option linter.unusedSimpArgs false

/-! ### stowagelaw12_SolveSlower: function 6 -/
mutual
def stowagelaw12_SolveSlower.l0 : Nat → Int → List (List Int) → List (List Int) → Int → Option (Bool)
  | 0, _, _, _, _ => none
  | k + 1, x0, x1, x5, x6 => if x6 < (x1.length : Int) then (stowagelaw12_SolveSlower.j1 k x0 x1 x5 x6 (decide (x6 < 12))) else (stowagelaw12_SolveSlower.j1 k x0 x1 x5 x6 false)
def stowagelaw12_SolveSlower.j1 : Nat → Int → List (List Int) → List (List Int) → Int → Bool → Option (Bool)
  | 0, _, _, _, _, _ => none
  | k + 1, x0, x1, x5, x6, x25 => if x25 = true then (stowagelaw12_SolveSlower.l1 k x0 x1 x5 x6 (([0] : List Int)) 65535 0) else (if (x5.length : Int) = 0 then ((stowagelaw12_awake.f).bind fun t153 => (some t153)) else (if 0 ≤ (x5.length : Int) then (if ((x5.length : Int) : Int).toNat ≤ 35184372088832 then ((some (List.replicate ((x5.length : Int) : Int).toNat 0 : List Int)).bind fun y154 => ((solve_Greedy.f k (wrap64 (x0)) y154 x5).bind fun bt157 => ((solve_Best.f (wrap64 (x0)) y154 x5).bind fun bt161 => (stowagelaw12_SolveSlower.l2 k x5 bt157.1 bt157.2 bt161.2.1 bt161.2.2 0)))) else (none)) else (none)))
def stowagelaw12_SolveSlower.l1 : Nat → Int → List (List Int) → List (List Int) → Int → List Int → Int → Int → Option (Bool)
  | 0, _, _, _, _, _, _, _ => none
  | k + 1, x0, x1, x5, x6, x7, x8, x9 => if 0 ≤ x6 then (if x6 < (x1.length : Int) then (if x9 < ((rd_L3 x1 x6).length : Int) then (stowagelaw12_SolveSlower.j3 k x0 x1 x5 x6 x7 x8 x9 (decide (x9 < 100))) else (stowagelaw12_SolveSlower.j3 k x0 x1 x5 x6 x7 x8 x9 false)) else (none)) else (none)
def stowagelaw12_SolveSlower.j3 : Nat → Int → List (List Int) → List (List Int) → Int → List Int → Int → Int → Bool → Option (Bool)
  | 0, _, _, _, _, _, _, _, _ => none
  | k + 1, x0, x1, x5, x6, x7, x8, x9, x39 => if x39 = true then (if 0 ≤ x6 then (if x6 < (x1.length : Int) then (if 0 ≤ x9 then (if x9 < ((rd_L3 x1 x6).length : Int) then (if (wrap64 (rd (rd_L3 x1 x6) x9)) < x8 then (if x9 < (x7.length : Int) then (if x7.length < 17592186044416 then (stowagelaw12_SolveSlower.l1 k x0 x1 x5 x6 (x7 ++ [wrap64 ((rd x7 x9) + (wrap64 (rd (rd_L3 x1 x6) x9)))]) (wrap64 (rd (rd_L3 x1 x6) x9)) (wrap64 (x9 + 1))) else (none)) else (none)) else (if x9 < (x7.length : Int) then (if x7.length < 17592186044416 then (stowagelaw12_SolveSlower.l1 k x0 x1 x5 x6 (x7 ++ [wrap64 ((rd x7 x9) + x8)]) x8 (wrap64 (x9 + 1))) else (none)) else (none))) else (none)) else (none)) else (none)) else (none)) else (if x5.length < 5864062014805 then (stowagelaw12_SolveSlower.l0 k x0 x1 (x5 ++ [x7]) (wrap64 (x6 + 1))) else (none))
def stowagelaw12_SolveSlower.l2 : Nat → List (List Int) → List Int → Int → Int → Int → Int → Option (Bool)
  | 0, _, _, _, _, _, _ => none
  | k + 1, x5, x11, x12, x14, x15, x16 => if x16 < (x5.length : Int) then (if 0 ≤ x16 then ((stowageref12_Slower.f k (rd_L1 x5 x16)).bind fun t169 => (if t169 = true then ((stowageref11_Sound.f k (rd_L1 x5 x16)).bind fun t171 => (if t171 = true then (stowagelaw12_SolveSlower.l2 k x5 x11 x12 x14 x15 (wrap64 (x16 + 1))) else (some false))) else (some false))) else (none)) else ((stowagelaw12_awake.f).bind fun t166 => (if t166 = true then (if x12 = 0 then (if x15 = 0 then ((stowageref12_Sum.f k x11 x5).bind fun t167 => (some (t167 == x14))) else (some false)) else (some false)) else (some false)))
end
def stowagelaw12_SolveSlower.f (k : Nat) (a0 : Int) (l1 : List (List Int)) : Option (Bool) := stowagelaw12_SolveSlower.l0 k a0 l1 (([] : List (List Int))) 0
theorem stowagelaw12_SolveSlower.mono_l : ∀ k, (∀ y0 y1 y2 y3, LeO (stowagelaw12_SolveSlower.l0 k y0 y1 y2 y3) (stowagelaw12_SolveSlower.l0 (k + 1) y0 y1 y2 y3)) ∧ (∀ y0 y1 y2 y3 y4, LeO (stowagelaw12_SolveSlower.j1 k y0 y1 y2 y3 y4) (stowagelaw12_SolveSlower.j1 (k + 1) y0 y1 y2 y3 y4)) ∧ (∀ y0 y1 y2 y3 y4 y5 y6, LeO (stowagelaw12_SolveSlower.l1 k y0 y1 y2 y3 y4 y5 y6) (stowagelaw12_SolveSlower.l1 (k + 1) y0 y1 y2 y3 y4 y5 y6)) ∧ (∀ y0 y1 y2 y3 y4 y5 y6 y7, LeO (stowagelaw12_SolveSlower.j3 k y0 y1 y2 y3 y4 y5 y6 y7) (stowagelaw12_SolveSlower.j3 (k + 1) y0 y1 y2 y3 y4 y5 y6 y7)) ∧ (∀ y0 y1 y2 y3 y4 y5, LeO (stowagelaw12_SolveSlower.l2 k y0 y1 y2 y3 y4 y5) (stowagelaw12_SolveSlower.l2 (k + 1) y0 y1 y2 y3 y4 y5))
  | 0 => ⟨fun _ _ _ _ r h => by simp [stowagelaw12_SolveSlower.l0] at h, fun _ _ _ _ _ r h => by simp [stowagelaw12_SolveSlower.j1] at h, fun _ _ _ _ _ _ _ r h => by simp [stowagelaw12_SolveSlower.l1] at h, fun _ _ _ _ _ _ _ _ r h => by simp [stowagelaw12_SolveSlower.j3] at h, fun _ _ _ _ _ _ r h => by simp [stowagelaw12_SolveSlower.l2] at h⟩
  | k + 1 => by
    obtain ⟨ih0, ih1, ih2, ih3, ih4⟩ := stowagelaw12_SolveSlower.mono_l k
    refine ⟨?_, ?_, ?_, ?_, ?_⟩
    · intro y0 y1 y2 y3
      unfold stowagelaw12_SolveSlower.l0
      repeat' first
      | (with_reducible exact ih0 _ _ _ _)
      | (with_reducible exact ih1 _ _ _ _ _)
      | (with_reducible exact ih2 _ _ _ _ _ _ _)
      | (with_reducible exact ih3 _ _ _ _ _ _ _ _)
      | (with_reducible exact ih4 _ _ _ _ _ _)
      | (with_reducible exact solve_Greedy.mono _ _ _ _)
      | (with_reducible exact stowageref11_Sound.mono _ _)
      | (with_reducible exact stowageref12_Slower.mono _ _)
      | (with_reducible exact stowageref12_Sum.mono _ _ _)
      | (with_reducible exact LeO.refl _)
      | (with_reducible exact LeO.none _)
      | (with_reducible refine LeO.ite ?_ ?_)
      | (with_reducible refine LeO.bind ?_ (fun _ => ?_))
      | exact ih0 _ _ _ _
      | exact ih1 _ _ _ _ _
      | exact ih2 _ _ _ _ _ _ _
      | exact ih3 _ _ _ _ _ _ _ _
      | exact ih4 _ _ _ _ _ _
      | exact solve_Greedy.mono _ _ _ _
      | exact stowageref11_Sound.mono _ _
      | exact stowageref12_Slower.mono _ _
      | exact stowageref12_Sum.mono _ _ _
      | exact LeO.none _
      | refine LeO.ite ?_ ?_
      | refine LeO.bind ?_ (fun _ => ?_)
    · intro y0 y1 y2 y3 y4
      unfold stowagelaw12_SolveSlower.j1
      repeat' first
      | (with_reducible exact ih0 _ _ _ _)
      | (with_reducible exact ih1 _ _ _ _ _)
      | (with_reducible exact ih2 _ _ _ _ _ _ _)
      | (with_reducible exact ih3 _ _ _ _ _ _ _ _)
      | (with_reducible exact ih4 _ _ _ _ _ _)
      | (with_reducible exact solve_Greedy.mono _ _ _ _)
      | (with_reducible exact stowageref11_Sound.mono _ _)
      | (with_reducible exact stowageref12_Slower.mono _ _)
      | (with_reducible exact stowageref12_Sum.mono _ _ _)
      | (with_reducible exact LeO.refl _)
      | (with_reducible exact LeO.none _)
      | (with_reducible refine LeO.ite ?_ ?_)
      | (with_reducible refine LeO.bind ?_ (fun _ => ?_))
      | exact ih0 _ _ _ _
      | exact ih1 _ _ _ _ _
      | exact ih2 _ _ _ _ _ _ _
      | exact ih3 _ _ _ _ _ _ _ _
      | exact ih4 _ _ _ _ _ _
      | exact solve_Greedy.mono _ _ _ _
      | exact stowageref11_Sound.mono _ _
      | exact stowageref12_Slower.mono _ _
      | exact stowageref12_Sum.mono _ _ _
      | exact LeO.none _
      | refine LeO.ite ?_ ?_
      | refine LeO.bind ?_ (fun _ => ?_)
    · intro y0 y1 y2 y3 y4 y5 y6
      unfold stowagelaw12_SolveSlower.l1
      repeat' first
      | (with_reducible exact ih0 _ _ _ _)
      | (with_reducible exact ih1 _ _ _ _ _)
      | (with_reducible exact ih2 _ _ _ _ _ _ _)
      | (with_reducible exact ih3 _ _ _ _ _ _ _ _)
      | (with_reducible exact ih4 _ _ _ _ _ _)
      | (with_reducible exact solve_Greedy.mono _ _ _ _)
      | (with_reducible exact stowageref11_Sound.mono _ _)
      | (with_reducible exact stowageref12_Slower.mono _ _)
      | (with_reducible exact stowageref12_Sum.mono _ _ _)
      | (with_reducible exact LeO.refl _)
      | (with_reducible exact LeO.none _)
      | (with_reducible refine LeO.ite ?_ ?_)
      | (with_reducible refine LeO.bind ?_ (fun _ => ?_))
      | exact ih0 _ _ _ _
      | exact ih1 _ _ _ _ _
      | exact ih2 _ _ _ _ _ _ _
      | exact ih3 _ _ _ _ _ _ _ _
      | exact ih4 _ _ _ _ _ _
      | exact solve_Greedy.mono _ _ _ _
      | exact stowageref11_Sound.mono _ _
      | exact stowageref12_Slower.mono _ _
      | exact stowageref12_Sum.mono _ _ _
      | exact LeO.none _
      | refine LeO.ite ?_ ?_
      | refine LeO.bind ?_ (fun _ => ?_)
    · intro y0 y1 y2 y3 y4 y5 y6 y7
      unfold stowagelaw12_SolveSlower.j3
      repeat' first
      | (with_reducible exact ih0 _ _ _ _)
      | (with_reducible exact ih1 _ _ _ _ _)
      | (with_reducible exact ih2 _ _ _ _ _ _ _)
      | (with_reducible exact ih3 _ _ _ _ _ _ _ _)
      | (with_reducible exact ih4 _ _ _ _ _ _)
      | (with_reducible exact solve_Greedy.mono _ _ _ _)
      | (with_reducible exact stowageref11_Sound.mono _ _)
      | (with_reducible exact stowageref12_Slower.mono _ _)
      | (with_reducible exact stowageref12_Sum.mono _ _ _)
      | (with_reducible exact LeO.refl _)
      | (with_reducible exact LeO.none _)
      | (with_reducible refine LeO.ite ?_ ?_)
      | (with_reducible refine LeO.bind ?_ (fun _ => ?_))
      | exact ih0 _ _ _ _
      | exact ih1 _ _ _ _ _
      | exact ih2 _ _ _ _ _ _ _
      | exact ih3 _ _ _ _ _ _ _ _
      | exact ih4 _ _ _ _ _ _
      | exact solve_Greedy.mono _ _ _ _
      | exact stowageref11_Sound.mono _ _
      | exact stowageref12_Slower.mono _ _
      | exact stowageref12_Sum.mono _ _ _
      | exact LeO.none _
      | refine LeO.ite ?_ ?_
      | refine LeO.bind ?_ (fun _ => ?_)
    · intro y0 y1 y2 y3 y4 y5
      unfold stowagelaw12_SolveSlower.l2
      repeat' first
      | (with_reducible exact ih0 _ _ _ _)
      | (with_reducible exact ih1 _ _ _ _ _)
      | (with_reducible exact ih2 _ _ _ _ _ _ _)
      | (with_reducible exact ih3 _ _ _ _ _ _ _ _)
      | (with_reducible exact ih4 _ _ _ _ _ _)
      | (with_reducible exact solve_Greedy.mono _ _ _ _)
      | (with_reducible exact stowageref11_Sound.mono _ _)
      | (with_reducible exact stowageref12_Slower.mono _ _)
      | (with_reducible exact stowageref12_Sum.mono _ _ _)
      | (with_reducible exact LeO.refl _)
      | (with_reducible exact LeO.none _)
      | (with_reducible refine LeO.ite ?_ ?_)
      | (with_reducible refine LeO.bind ?_ (fun _ => ?_))
      | exact ih0 _ _ _ _
      | exact ih1 _ _ _ _ _
      | exact ih2 _ _ _ _ _ _ _
      | exact ih3 _ _ _ _ _ _ _ _
      | exact ih4 _ _ _ _ _ _
      | exact solve_Greedy.mono _ _ _ _
      | exact stowageref11_Sound.mono _ _
      | exact stowageref12_Slower.mono _ _
      | exact stowageref12_Sum.mono _ _ _
      | exact LeO.none _
      | refine LeO.ite ?_ ?_
      | refine LeO.bind ?_ (fun _ => ?_)
theorem stowagelaw12_SolveSlower.mono : ∀ a0 a1 k, LeO (stowagelaw12_SolveSlower.f k a0 a1) (stowagelaw12_SolveSlower.f (k + 1) a0 a1) := by
  intro a0 a1 k
  obtain ⟨ih0, ih1, ih2, ih3, ih4⟩ := stowagelaw12_SolveSlower.mono_l k
  unfold stowagelaw12_SolveSlower.f
  repeat' first
      | (with_reducible exact ih0 _ _ _ _)
      | (with_reducible exact ih1 _ _ _ _ _)
      | (with_reducible exact ih2 _ _ _ _ _ _ _)
      | (with_reducible exact ih3 _ _ _ _ _ _ _ _)
      | (with_reducible exact ih4 _ _ _ _ _ _)
      | (with_reducible exact solve_Greedy.mono _ _ _ _)
      | (with_reducible exact stowageref11_Sound.mono _ _)
      | (with_reducible exact stowageref12_Slower.mono _ _)
      | (with_reducible exact stowageref12_Sum.mono _ _ _)
      | (with_reducible exact LeO.refl _)
      | (with_reducible exact LeO.none _)
      | (with_reducible refine LeO.ite ?_ ?_)
      | (with_reducible refine LeO.bind ?_ (fun _ => ?_))
      | exact ih0 _ _ _ _
      | exact ih1 _ _ _ _ _
      | exact ih2 _ _ _ _ _ _ _
      | exact ih3 _ _ _ _ _ _ _ _
      | exact ih4 _ _ _ _ _ _
      | exact solve_Greedy.mono _ _ _ _
      | exact stowageref11_Sound.mono _ _
      | exact stowageref12_Slower.mono _ _
      | exact stowageref12_Sum.mono _ _ _
      | exact LeO.none _
      | refine LeO.ite ?_ ?_
      | refine LeO.bind ?_ (fun _ => ?_)
set_option maxHeartbeats 8000000 in
set_option maxRecDepth 100000 in
theorem stowagelaw12_SolveSlower.calls (k : Nat) (a0 : Int) (A1 : Option Addr) (c1 : Nat) (l1 : List (List Int)) (r : Bool) (w : World) (hr1 : Kd.C (Kd.slice 42 (Kd.int .u16)) w A1 l1.length l1) (hc1 : l1.length ≤ c1) (h : stowagelaw12_SolveSlower.f k a0 l1 = some r) :
    Calls Try.prog 6 #[.int .u8 a0, .slice A1 l1.length c1] w fun e w' => e = .returned (.bool r) ∧ Below w.heap.size w w' := by
  have HR1 := Aside0.mk hr1
  have HC1 := Aside0.mk hc1
  clear hr1 hc1
  have HB := Aside0.mk (Below.refl w.heap.size w)
  have H : (stowagelaw12_SolveSlower.l0 k a0 l1 (([] : List (List Int))) 0) = some r := h
  clear h
  obtain ⟨y131, hy131⟩ : ∃ y_ : List (List Int), y_ = (([] : List (List Int))) := ⟨_, rfl⟩
  replace H : (stowagelaw12_SolveSlower.l0 k a0 l1 y131 0) = some r := by first | (rw [hy131]; with_reducible exact H) | (have H2_ := (Option.bind_some _ _).symm.trans H; rw [hy131]; with_reducible exact H2_) | (have H2_ := (Option.bind_some _ _).symm.trans H; with_reducible exact H2_) | with_reducible exact H | (rw [hy131]; exact H) | exact H
  have Ny131 := Aside0.mk hy131
  clear hy131
  have H' := Aside0.mk H
  clear H
  go_enter Try.func6, Try.ntmps6
  go_wp2_with (first | ((with_reducible refine gate_dst (N := 17) rfl ?_); refine Kd.S_lit (Kd.slice 3 (Kd.int .i64)) _ 40 ?hg (N := 17) ?hd (xs := ([] : List (List Int))) (inner := []) (ok := fun _ => True) (okp := fun _ => True) ?hr ?hp (fun _ hk => hk) trivial (Below.refl _ _) (Nat.le_refl _) (by simp) ?_; (case hd => rfl); (case hg => rfl); (case hr => first | (go_simp; done) | (go_simp; rfl)); (case hp => exact (Reps.none _ _)); intro v132 w3 ho4 hb hg_ hnew_; clear hg_ hnew_; (first | rw [← Ny131.out] at ho4 | (simp only [Int.reduceToNat] at ho4; rw [← Ny131.out] at ho4)); have n0_ := Aside0.mk (Kd.S_lower ho4 (below_size (by repeat (first | (with_reducible first | exact HB.out | apply below_alloc | apply pw_below_drewN | apply below_drew1) | exact HB.out)))); have n1_ := Aside0.mk (below_step (by repeat (first | (with_reducible first | exact HB.out | apply below_alloc | apply pw_below_drewN | apply below_drew1) | exact HB.out)) hb); clear HB; have HO133 := n0_; have HB := n1_; clear n0_ n1_; clear hb ho4))
  go_loopg [5, 6] k (fun kq v5 v6 w' => ∃ (x5_1 : List (List Int)) (x6_1 : Int), v6 = .int .i64 x6_1 ∧ Aside0 (stowagelaw12_SolveSlower.l0 kq a0 l1 x5_1 x6_1 = some r) ∧ Aside0 (kq ≤ k) ∧ Aside0 (Kd.S (Kd.slice 3 (Kd.int .i64)) 40 w' w.heap.size (fun _ => True) v5 x5_1) ∧ Aside0 (Below w.heap.size w w'))
  case atStart => exact ⟨(y131), (0), (by first | rfl | (simp; done) | (simp [*]; done)), H', ⟨Nat.le_refl _⟩, ⟨by (with_reducible repeat (first | apply Kd.S_alloc | apply Kd.S_drewN | apply Kd.S_drew)); exact HO133.out⟩, ⟨by repeat (first | (with_reducible first | exact HB.out | apply below_alloc | apply pw_below_drewN | apply below_drew1) | exact HB.out)⟩⟩
  case round =>
    clear H'
    try clear c1
    try clear p2
    obtain ⟨x5_1, x6_1, rfl, HA, HK1, HO_5, HB⟩ := hrel
    cases gk with
    | zero => exact absurd HA.out (by simp [stowagelaw12_SolveSlower.l0])
    | succ k1 =>
      have H := HA.out
      clear HA
      simp only [stowagelaw12_SolveSlower.l0] at H
      have HC5 := Aside0.mk H
      clear H
      go_upto_region 3 with (fail)
      go_cut [25] (fun v25 wc => ∃ (kq : Nat) (x25_4 : Bool), v25 = .bool x25_4 ∧ Aside0 (stowagelaw12_SolveSlower.j1 kq a0 l1 x5_1 x6_1 x25_4 = some r) ∧ Aside0 (kq ≤ k1) ∧ Aside0 (Kd.S (Kd.slice 3 (Kd.int .i64)) 40 wc w.heap.size (fun _ => True) u5 x5_1) ∧ Aside0 (Below w.heap.size w wc))
      case first =>
        have H := HC5.out
        clear HC5
        by_cases c6 : x6_1 < (l1.length : Int)
        · rw [if_pos c6] at H
          have c6b0 : decide (x6_1 < (l1.length : Int)) = true := decide_eq_true c6
          clear c6
          (first | rw [c6b0] | (simp only [i64_w, i32_w]; rw [c6b0]) | skip)
          have H' := Aside0.mk H
          clear H
          go_wp2
          go_meet
          case rel => exact ⟨_, (decide (x6_1 < 12)), (by first | rfl | (simp; done) | (simp [*]; done)), H', ⟨by have := HK1.out; first | omega | exact Nat.le_refl _⟩, ⟨by (with_reducible repeat (first | apply Kd.S_alloc | apply Kd.S_drewN | apply Kd.S_drew)); exact HO_5.out⟩, ⟨by repeat (first | (with_reducible first | exact HB.out | apply below_alloc | apply pw_below_drewN | apply below_drew1) | exact HB.out)⟩⟩
        · rw [if_neg c6] at H
          have c6b0 : decide (x6_1 < (l1.length : Int)) = false := decide_eq_false c6
          clear c6
          (first | rw [c6b0] | (simp only [i64_w, i32_w]; rw [c6b0]) | skip)
          have H' := Aside0.mk H
          clear H
          go_wp2
          go_meet
          case rel => exact ⟨_, (false), (by first | rfl | (simp; done) | (simp [*]; done)), H', ⟨by have := HK1.out; first | omega | exact Nat.le_refl _⟩, ⟨by (with_reducible repeat (first | apply Kd.S_alloc | apply Kd.S_drewN | apply Kd.S_drew)); exact HO_5.out⟩, ⟨by repeat (first | (with_reducible first | exact HB.out | apply below_alloc | apply pw_below_drewN | apply below_drew1) | exact HB.out)⟩⟩
      case rest =>
        clear HC5
        try clear c1
        try clear p2
        try clear c6
        try clear c6b0
        try clear p2
        obtain ⟨kq, x25_4, rfl, HA, HJ4, HO_5, HB⟩ := hcut
        cases kq with
        | zero => exact absurd HA.out (by simp [stowagelaw12_SolveSlower.j1])
        | succ kj4 =>
          have H := HA.out
          clear HA
          simp only [stowagelaw12_SolveSlower.j1] at H
          by_cases c7 : x25_4 = true
          · subst c7
            have H1 : (stowagelaw12_SolveSlower.l1 kj4 a0 l1 x5_1 x6_1 (([0] : List Int)) 65535 0) = some r := by rw [if_pos rfl] at H; exact H
            clear H
            have H := H1
            clear H1
            obtain ⟨y134, hy134⟩ : ∃ y_ : List Int, y_ = (([0] : List Int)) := ⟨_, rfl⟩
            replace H : (stowagelaw12_SolveSlower.l1 kj4 a0 l1 x5_1 x6_1 y134 65535 0) = some r := by first | (rw [hy134]; with_reducible exact H) | (have H2_ := (Option.bind_some _ _).symm.trans H; rw [hy134]; with_reducible exact H2_) | (have H2_ := (Option.bind_some _ _).symm.trans H; with_reducible exact H2_) | with_reducible exact H | (rw [hy134]; exact H) | exact H
            have Ny134 := Aside0.mk hy134
            clear hy134
            have H' := Aside0.mk H
            clear H
            go_wp2_with (first | ((with_reducible refine gate_dst (N := 28) rfl ?_); refine Kd.R_lit (Kd.int .i64) _ 3 ?hg (N := 28) ?hd (xs := ([0] : List Int)) (inner := [.int .i64 0]) (ok := fun _ => True) (okp := fun _ => True) ?hr ?hp (fun _ hk => hk) trivial (Below.refl _ _) (Nat.le_refl _) (by simp) ?_; (case hd => rfl); (case hg => rfl); (case hr => first | (go_simp; done) | (go_simp; rfl)); (case hp => exact (Reps.one (show Kd.M (Kd.int .i64) _ _ _ 0 [.int .i64 0] from rfl) (Reps.none _ _))); intro v135 w8 ho9 hb hg_ hnew_; clear hg_ hnew_; (first | rw [← Ny134.out] at ho9 | (simp only [Int.reduceToNat] at ho9; rw [← Ny134.out] at ho9)); have n0_ := Aside0.mk (Kd.S_elder' (by (with_reducible repeat (first | apply Kd.S_alloc | apply Kd.S_drewN | apply Kd.S_drew)); exact HO_5.out) (Kd.R_base ho9) hb); have n1_ := Aside0.mk (Kd.R_lower ho9 (below_size (by repeat (first | (with_reducible first | exact HB.out | apply below_alloc | apply pw_below_drewN | apply below_drew1) | exact HB.out)))); have n2_ := Aside0.mk (below_step (by repeat (first | (with_reducible first | exact HB.out | apply below_alloc | apply pw_below_drewN | apply below_drew1) | exact HB.out)) hb); clear HO_5; clear HB; have HO_5 := n0_; have HO136 := n1_; have HB := n2_; clear n0_ n1_ n2_; clear hb ho9))
            go_loopg [7, 8, 9] kj4 (fun kq v7 v8 v9 w' => ∃ (x7_3 : List Int) (x8_3 : Int) (x9_3 : Int), v8 = .int .i64 x8_3 ∧ v9 = .int .i64 x9_3 ∧ Aside0 (stowagelaw12_SolveSlower.l1 kq a0 l1 x5_1 x6_1 x7_3 x8_3 x9_3 = some r) ∧ Aside0 (kq ≤ kj4) ∧ Aside0 (Kd.S (Kd.slice 3 (Kd.int .i64)) 40 w' w.heap.size (fun k_ => some k_ ≠ (v7 : Value).ownBlock) u5 x5_1) ∧ Aside0 (Kd.R (Kd.int .i64) 3 w' w.heap.size (fun _ => True) v7 x7_3) ∧ Aside0 (Below w.heap.size w w'))
            case atStart => exact ⟨(y134), (65535), (0), (by first | rfl | (simp; done) | (simp [*]; done)), (by first | rfl | (simp; done) | (simp [*]; done)), H', ⟨Nat.le_refl _⟩, ⟨by (with_reducible repeat (first | apply Kd.S_alloc | apply Kd.S_drewN | apply Kd.S_drew)); exact Kd.S_mono HO_5.out (fun _ hk => hk.2)⟩, ⟨by (with_reducible repeat (first | apply Kd.R_alloc | apply Kd.R_drewN | apply Kd.R_drew)); exact HO136.out⟩, ⟨by repeat (first | (with_reducible first | exact HB.out | apply below_alloc | apply pw_below_drewN | apply below_drew1) | exact HB.out)⟩⟩
            case round =>
              clear H'
              try clear c1
              try clear p2
              try clear c6
              try clear c6b0
              try clear c7
              try clear p2
              obtain ⟨x7_3, x8_3, x9_3, rfl, rfl, HA, HK3, HO_5, HO_7, HB⟩ := hrel
              cases gk with
              | zero => exact absurd HA.out (by simp [stowagelaw12_SolveSlower.l1])
              | succ k3 =>
                have H := HA.out
                clear HA
                simp only [stowagelaw12_SolveSlower.l1] at H
                have HC10 := Aside0.mk H
                clear H
                go_upto_region 8 with (fail)
                go_cut [39] (fun v39 wc => ∃ (kq : Nat) (x39_9 : Bool), v39 = .bool x39_9 ∧ Aside0 (stowagelaw12_SolveSlower.j3 kq a0 l1 x5_1 x6_1 x7_3 x8_3 x9_3 x39_9 = some r) ∧ Aside0 (kq ≤ k3) ∧ Aside0 (Kd.S (Kd.slice 3 (Kd.int .i64)) 40 wc w.heap.size (fun k_ => some k_ ≠ (u7 : Value).ownBlock) u5 x5_1) ∧ Aside0 (Kd.R (Kd.int .i64) 3 wc w.heap.size (fun _ => True) u7 x7_3) ∧ Aside0 (Below w.heap.size w wc))
                case first =>
                  have H := HC10.out
                  clear HC10
                  by_cases c11 : 0 ≤ x6_1
                  · rw [if_pos c11] at H
                    have c11b0 : decide (0 ≤ x6_1) = true := decide_eq_true c11
                    clear c11
                    (first | rw [c11b0] | (simp only [i64_w, i32_w]; rw [c11b0]) | skip)
                    by_cases c12 : x6_1 < (l1.length : Int)
                    · rw [if_pos c12] at H
                      have c12b0 : decide (x6_1 < (l1.length : Int)) = true := decide_eq_true c12
                      clear c12
                      by_cases c13 : x9_3 < ((rd_L3 l1 x6_1).length : Int)
                      · rw [if_pos c13] at H
                        have c13b0 : decide (x9_3 < ((rd_L3 l1 x6_1).length : Int)) = true := decide_eq_true c13
                        clear c13
                        have H' := Aside0.mk H
                        clear H
                        have p137 : 0 ≤ (x6_1 : Int) := of_decide_eq_true (by first | (with_reducible assumption) | assumption)
                        have q137 : x6_1 < (l1.length : Int) := of_decide_eq_true (by first | (with_reducible assumption) | assumption)
                        obtain ⟨ad137, A137_0, c137_0, e137, hx137_0, hl137_0, hi137_0⟩ := at_L3 HR1.out x6_1 p137 q137
                        cases e137
                        replace hx137_0 := (HB.out.cell (World.block_lt_of_cell? w _ hx137_0)).trans hx137_0
                        have HR137_0 := Aside0.mk hi137_0
                        have HC137_0 := Aside0.mk hl137_0
                        clear hi137_0 hl137_0
                        replace p137 := eq_true p137
                        replace q137 := eq_true q137
                        go_wp2
                        go_meet
                        case rel => exact ⟨_, (decide (x9_3 < 100)), (by first | rfl | (simp; done) | (simp [*]; done)), H', ⟨by have := HK1.out; have := HJ4.out; have := HK3.out; first | omega | exact Nat.le_refl _⟩, ⟨by (with_reducible repeat (first | apply Kd.S_alloc | apply Kd.S_drewN | apply Kd.S_drew)); exact HO_5.out⟩, ⟨by (with_reducible repeat (first | apply Kd.R_alloc | apply Kd.R_drewN | apply Kd.R_drew)); exact HO_7.out⟩, ⟨by repeat (first | (with_reducible first | exact HB.out | apply below_alloc | apply pw_below_drewN | apply below_drew1) | exact HB.out)⟩⟩
                      · rw [if_neg c13] at H
                        have c13b0 : decide (x9_3 < ((rd_L3 l1 x6_1).length : Int)) = false := decide_eq_false c13
                        clear c13
                        have H' := Aside0.mk H
                        clear H
                        have p137 : 0 ≤ (x6_1 : Int) := of_decide_eq_true (by first | (with_reducible assumption) | assumption)
                        have q137 : x6_1 < (l1.length : Int) := of_decide_eq_true (by first | (with_reducible assumption) | assumption)
                        obtain ⟨ad137, A137_0, c137_0, e137, hx137_0, hl137_0, hi137_0⟩ := at_L3 HR1.out x6_1 p137 q137
                        cases e137
                        replace hx137_0 := (HB.out.cell (World.block_lt_of_cell? w _ hx137_0)).trans hx137_0
                        have HR137_0 := Aside0.mk hi137_0
                        have HC137_0 := Aside0.mk hl137_0
                        clear hi137_0 hl137_0
                        replace p137 := eq_true p137
                        replace q137 := eq_true q137
                        go_wp2
                        go_meet
                        case rel => exact ⟨_, (false), (by first | rfl | (simp; done) | (simp [*]; done)), H', ⟨by have := HK1.out; have := HJ4.out; have := HK3.out; first | omega | exact Nat.le_refl _⟩, ⟨by (with_reducible repeat (first | apply Kd.S_alloc | apply Kd.S_drewN | apply Kd.S_drew)); exact HO_5.out⟩, ⟨by (with_reducible repeat (first | apply Kd.R_alloc | apply Kd.R_drewN | apply Kd.R_drew)); exact HO_7.out⟩, ⟨by repeat (first | (with_reducible first | exact HB.out | apply below_alloc | apply pw_below_drewN | apply below_drew1) | exact HB.out)⟩⟩
                    · rw [if_neg c12] at H
                      exact absurd H (by simp)
                  · rw [if_neg c11] at H
                    exact absurd H (by simp)
                case rest =>
                  clear HC10
                  try clear c1
                  try clear p1
                  try clear q1
                  try clear hx1
                  try clear p2
                  try clear c6
                  try clear c6b0
                  try clear c7
                  try clear c11
                  try clear c11b0
                  try clear c12
                  try clear c12b0
                  try clear c13
                  try clear c13b0
                  try clear p13
                  try clear q13
                  try clear hx13
                  try clear hx137_0
                  try clear p137
                  try clear p2
                  try clear q137
                  obtain ⟨kq, x39_9, rfl, HA, HJ9, HO_5, HO_7, HB⟩ := hcut
                  cases kq with
                  | zero => exact absurd HA.out (by simp [stowagelaw12_SolveSlower.j3])
                  | succ kj9 =>
                    have H := HA.out
                    clear HA
                    simp only [stowagelaw12_SolveSlower.j3] at H
                    by_cases c14 : x39_9 = true
                    · subst c14
                      have H1 : (if 0 ≤ x6_1 then (if x6_1 < (l1.length : Int) then (if 0 ≤ x9_3 then (if x9_3 < ((rd_L3 l1 x6_1).length : Int) then (if (wrap64 (rd (rd_L3 l1 x6_1) x9_3)) < x8_3 then (if x9_3 < (x7_3.length : Int) then (if x7_3.length < 17592186044416 then (stowagelaw12_SolveSlower.l1 kj9 a0 l1 x5_1 x6_1 (x7_3 ++ [wrap64 ((rd x7_3 x9_3) + (wrap64 (rd (rd_L3 l1 x6_1) x9_3)))]) (wrap64 (rd (rd_L3 l1 x6_1) x9_3)) (wrap64 (x9_3 + 1))) else (none)) else (none)) else (if x9_3 < (x7_3.length : Int) then (if x7_3.length < 17592186044416 then (stowagelaw12_SolveSlower.l1 kj9 a0 l1 x5_1 x6_1 (x7_3 ++ [wrap64 ((rd x7_3 x9_3) + x8_3)]) x8_3 (wrap64 (x9_3 + 1))) else (none)) else (none))) else (none)) else (none)) else (none)) else (none)) = some r := by rw [if_pos rfl] at H; exact H
                      clear H
                      have H := H1
                      clear H1
                      by_cases c15 : 0 ≤ x6_1
                      · rw [if_pos c15] at H
                        have c15b0 : decide (0 ≤ x6_1) = true := decide_eq_true c15
                        clear c15
                        by_cases c16 : x6_1 < (l1.length : Int)
                        · rw [if_pos c16] at H
                          have c16b0 : decide (x6_1 < (l1.length : Int)) = true := decide_eq_true c16
                          clear c16
                          by_cases c17 : 0 ≤ x9_3
                          · rw [if_pos c17] at H
                            have c17b0 : decide (0 ≤ x9_3) = true := decide_eq_true c17
                            clear c17
                            by_cases c18 : x9_3 < ((rd_L3 l1 x6_1).length : Int)
                            · rw [if_pos c18] at H
                              have c18b0 : decide (x9_3 < ((rd_L3 l1 x6_1).length : Int)) = true := decide_eq_true c18
                              clear c18
                              by_cases c19 : (wrap64 (rd (rd_L3 l1 x6_1) x9_3)) < x8_3
                              · rw [if_pos c19] at H
                                have c19b0 : decide ((wrap64 (rd (rd_L3 l1 x6_1) x9_3)) < x8_3) = true := decide_eq_true c19
                                clear c19
                                by_cases c20 : x9_3 < (x7_3.length : Int)
                                · rw [if_pos c20] at H
                                  have c20b0 : decide (x9_3 < (x7_3.length : Int)) = true := decide_eq_true c20
                                  clear c20
                                  by_cases c21 : x7_3.length < 17592186044416
                                  · rw [if_pos c21] at H
                                    have LMc21 := Aside0.mk c21
                                    clear c21
                                    obtain ⟨y143, hy143⟩ : ∃ y_ : List Int, y_ = (x7_3 ++ [wrap64 ((rd x7_3 x9_3) + (wrap64 (rd (rd_L3 l1 x6_1) x9_3)))]) := ⟨_, rfl⟩
                                    replace H : (stowagelaw12_SolveSlower.l1 kj9 a0 l1 x5_1 x6_1 y143 (wrap64 (rd (rd_L3 l1 x6_1) x9_3)) (wrap64 (x9_3 + 1))) = some r := by first | (rw [hy143]; with_reducible exact H) | (have H2_ := (Option.bind_some _ _).symm.trans H; rw [hy143]; with_reducible exact H2_) | (have H2_ := (Option.bind_some _ _).symm.trans H; with_reducible exact H2_) | with_reducible exact H | (rw [hy143]; exact H) | exact H
                                    have Ny143 := Aside0.mk hy143
                                    clear hy143
                                    have H' := Aside0.mk H
                                    clear H
                                    have p138 : 0 ≤ (x6_1 : Int) := of_decide_eq_true (by first | (with_reducible assumption) | assumption)
                                    have q138 : x6_1 < (l1.length : Int) := of_decide_eq_true (by first | (with_reducible assumption) | assumption)
                                    obtain ⟨ad138, A138_0, c138_0, e138, hx138_0, hl138_0, hi138_0⟩ := at_L3 HR1.out x6_1 p138 q138
                                    cases e138
                                    replace hx138_0 := (HB.out.cell (World.block_lt_of_cell? w _ hx138_0)).trans hx138_0
                                    have HR138_0 := Aside0.mk hi138_0
                                    have HC138_0 := Aside0.mk hl138_0
                                    clear hi138_0 hl138_0
                                    replace p138 := eq_true p138
                                    replace q138 := eq_true q138
                                    have p139 : 0 ≤ (x9_3 : Int) := of_decide_eq_true (by first | (with_reducible assumption) | assumption)
                                    have q139 : x9_3 < ((rd_L3 l1 x6_1).length : Int) := of_decide_eq_true (by first | (with_reducible assumption) | assumption)
                                    obtain ⟨ad139, e139, hx139_0⟩ := Kd.at_int HR138_0.out x9_3 p139 q139
                                    cases e139
                                    replace hx139_0 := (HB.out.cell (World.block_lt_of_cell? w _ hx139_0)).trans hx139_0
                                    replace p139 := eq_true p139
                                    replace q139 := eq_true q139
                                    have p140 : 0 ≤ (x6_1 : Int) := of_decide_eq_true (by first | (with_reducible assumption) | assumption)
                                    have q140 : x6_1 < (l1.length : Int) := of_decide_eq_true (by first | (with_reducible assumption) | assumption)
                                    obtain ⟨ad140, A140_0, c140_0, e140, hx140_0, hl140_0, hi140_0⟩ := at_L3 HR1.out x6_1 p140 q140
                                    obtain rfl : ad138 = ad140 := (by injection e140)
                                    replace hx140_0 := (HB.out.cell (World.block_lt_of_cell? w _ hx140_0)).trans hx140_0
                                    have HR140_0 := Aside0.mk hi140_0
                                    have HC140_0 := Aside0.mk hl140_0
                                    clear hi140_0 hl140_0
                                    replace p140 := eq_true p140
                                    replace q140 := eq_true q140
                                    have ea_ := Option.some.inj (hx138_0.symm.trans hx140_0)
                                    injection ea_ with ea_ en_ ec_
                                    subst ea_
                                    subst ec_
                                    clear en_
                                    have p141 : 0 ≤ (x9_3 : Int) := of_decide_eq_true (by first | (with_reducible assumption) | assumption)
                                    have q141 : x9_3 < ((rd_L3 l1 x6_1).length : Int) := of_decide_eq_true (by first | (with_reducible assumption) | assumption)
                                    obtain ⟨ad141, e141, hx141_0⟩ := Kd.at_int HR140_0.out x9_3 p141 q141
                                    cases e141
                                    replace hx141_0 := (HB.out.cell (World.block_lt_of_cell? w _ hx141_0)).trans hx141_0
                                    replace p141 := eq_true p141
                                    replace q141 := eq_true q141
                                    obtain ⟨Ao22, co22, eo22⟩ := Kd.R_slice HO_7.out
                                    subst eo22
                                    have p142 : 0 ≤ (x9_3 : Int) := of_decide_eq_true (by first | (with_reducible assumption) | assumption)
                                    have q142 : x9_3 < (x7_3.length : Int) := of_decide_eq_true (by first | (with_reducible assumption) | assumption)
                                    obtain ⟨ad142, e142, hx142_0⟩ := Kd.at_int (Kd.R_reads' HO_7.out).2.2 x9_3 p142 q142
                                    cases e142
                                    replace p142 := eq_true p142
                                    replace q142 := eq_true q142
                                    go_wp2_with (first | ((with_reducible refine gate_builtin (b := .append) (xs := #[.tmp 60, .tmp 67]) rfl ?_); at_builtin; refine Kd.R_append (Kd.int .i64) (w0 := w) w.heap.size rfl (.tmp 60) (.tmp 67) 40 3 (.int .i64 0) 8 rfl Try.underlying40 info3 rfl (by decide) (by omega) (.slice (some ad142) x7_3.length co22) x7_3 (wrap64 ((rd x7_3 x9_3) + (wrap64 (rd (rd_L3 l1 x6_1) x9_3)))) [.int .i64 (wrap64 ((rd x7_3 x9_3) + (wrap64 (rd (rd_L3 l1 x6_1) x9_3))))] (fun _ => True) (fun _ => False) rfl rfl ?aP (fun _ hk => hk.elim) ?aF ?aO ?aB ?aS ?aL ?_; (case aP => exact rfl); (case aB => exact (by repeat (first | (with_reducible first | exact HB.out | apply below_alloc | apply pw_below_drewN | apply below_drew1) | exact HB.out))); (case aF => exact (fun _ _ => trivial)); (case aO => exact (by (with_reducible repeat (first | apply Kd.R_alloc | apply Kd.R_drewN | apply Kd.R_drew)); exact HO_7.out)); (case aS => exact (below_size (by repeat (first | (with_reducible first | exact HB.out | apply below_alloc | apply pw_below_drewN | apply below_drew1) | exact HB.out)))); (case aL => have := LMc21.out; omega); intro v144 w23 ho hb hg hat; rw [← Ny143.out] at ho; have n0_ := Aside0.mk (Kd.S_after (ok := (fun _ => True)) (by (with_reducible repeat (first | apply Kd.S_alloc | apply Kd.S_drewN | apply Kd.S_drew)); exact Kd.S_mono HO_5.out (fun _ hk => ⟨trivial, hk⟩)) hg hat); have n1_ := Aside0.mk (hb); have n2_ := Aside0.mk (ho); clear HO_5; clear HB; clear HO_7; have HO_5 := n0_; have HB := n1_; have HO145 := n2_; clear n0_ n1_ n2_; clear ho hb hg hat))
                                    go_roundg kj9
                                    case measure => have := HK1.out; have := HJ4.out; have := HK3.out; have := HJ9.out; omega
                                    case rel => exact ⟨(y143), (wrap64 (rd (rd_L3 l1 x6_1) x9_3)), (wrap64 (x9_3 + 1)), (by first | rfl | (simp; done) | (simp [*]; done)), (by first | rfl | (simp; done) | (simp [*]; done)), H', ⟨by have := HK1.out; have := HJ4.out; have := HK3.out; have := HJ9.out; omega⟩, ⟨by (with_reducible repeat (first | apply Kd.S_alloc | apply Kd.S_drewN | apply Kd.S_drew)); exact Kd.S_mono HO_5.out (fun _ hk => hk.2)⟩, ⟨by (with_reducible repeat (first | apply Kd.R_alloc | apply Kd.R_drewN | apply Kd.R_drew)); exact HO145.out⟩, ⟨by repeat (first | (with_reducible first | exact HB.out | apply below_alloc | apply pw_below_drewN | apply below_drew1) | exact HB.out)⟩⟩
                                  · rw [if_neg c21] at H
                                    exact absurd H (by simp)
                                · rw [if_neg c20] at H
                                  exact absurd H (by simp)
                              · rw [if_neg c19] at H
                                have c19b0 : decide ((wrap64 (rd (rd_L3 l1 x6_1) x9_3)) < x8_3) = false := decide_eq_false c19
                                clear c19
                                by_cases c24 : x9_3 < (x7_3.length : Int)
                                · rw [if_pos c24] at H
                                  have c24b0 : decide (x9_3 < (x7_3.length : Int)) = true := decide_eq_true c24
                                  clear c24
                                  by_cases c25 : x7_3.length < 17592186044416
                                  · rw [if_pos c25] at H
                                    have LMc25 := Aside0.mk c25
                                    clear c25
                                    obtain ⟨y147, hy147⟩ : ∃ y_ : List Int, y_ = (x7_3 ++ [wrap64 ((rd x7_3 x9_3) + x8_3)]) := ⟨_, rfl⟩
                                    replace H : (stowagelaw12_SolveSlower.l1 kj9 a0 l1 x5_1 x6_1 y147 x8_3 (wrap64 (x9_3 + 1))) = some r := by first | (rw [hy147]; with_reducible exact H) | (have H2_ := (Option.bind_some _ _).symm.trans H; rw [hy147]; with_reducible exact H2_) | (have H2_ := (Option.bind_some _ _).symm.trans H; with_reducible exact H2_) | with_reducible exact H | (rw [hy147]; exact H) | exact H
                                    have Ny147 := Aside0.mk hy147
                                    clear hy147
                                    have H' := Aside0.mk H
                                    clear H
                                    have p138 : 0 ≤ (x6_1 : Int) := of_decide_eq_true (by first | (with_reducible assumption) | assumption)
                                    have q138 : x6_1 < (l1.length : Int) := of_decide_eq_true (by first | (with_reducible assumption) | assumption)
                                    obtain ⟨ad138, A138_0, c138_0, e138, hx138_0, hl138_0, hi138_0⟩ := at_L3 HR1.out x6_1 p138 q138
                                    cases e138
                                    replace hx138_0 := (HB.out.cell (World.block_lt_of_cell? w _ hx138_0)).trans hx138_0
                                    have HR138_0 := Aside0.mk hi138_0
                                    have HC138_0 := Aside0.mk hl138_0
                                    clear hi138_0 hl138_0
                                    replace p138 := eq_true p138
                                    replace q138 := eq_true q138
                                    have p139 : 0 ≤ (x9_3 : Int) := of_decide_eq_true (by first | (with_reducible assumption) | assumption)
                                    have q139 : x9_3 < ((rd_L3 l1 x6_1).length : Int) := of_decide_eq_true (by first | (with_reducible assumption) | assumption)
                                    obtain ⟨ad139, e139, hx139_0⟩ := Kd.at_int HR138_0.out x9_3 p139 q139
                                    cases e139
                                    replace hx139_0 := (HB.out.cell (World.block_lt_of_cell? w _ hx139_0)).trans hx139_0
                                    replace p139 := eq_true p139
                                    replace q139 := eq_true q139
                                    obtain ⟨Ao26, co26, eo26⟩ := Kd.R_slice HO_7.out
                                    subst eo26
                                    have p146 : 0 ≤ (x9_3 : Int) := of_decide_eq_true (by first | (with_reducible assumption) | assumption)
                                    have q146 : x9_3 < (x7_3.length : Int) := of_decide_eq_true (by first | (with_reducible assumption) | assumption)
                                    obtain ⟨ad146, e146, hx146_0⟩ := Kd.at_int (Kd.R_reads' HO_7.out).2.2 x9_3 p146 q146
                                    cases e146
                                    replace p146 := eq_true p146
                                    replace q146 := eq_true q146
                                    go_wp2_with (first | ((with_reducible refine gate_builtin (b := .append) (xs := #[.tmp 60, .tmp 67]) rfl ?_); at_builtin; refine Kd.R_append (Kd.int .i64) (w0 := w) w.heap.size rfl (.tmp 60) (.tmp 67) 40 3 (.int .i64 0) 8 rfl Try.underlying40 info3 rfl (by decide) (by omega) (.slice (some ad146) x7_3.length co26) x7_3 (wrap64 ((rd x7_3 x9_3) + x8_3)) [.int .i64 (wrap64 ((rd x7_3 x9_3) + x8_3))] (fun _ => True) (fun _ => False) rfl rfl ?aP (fun _ hk => hk.elim) ?aF ?aO ?aB ?aS ?aL ?_; (case aP => exact rfl); (case aB => exact (by repeat (first | (with_reducible first | exact HB.out | apply below_alloc | apply pw_below_drewN | apply below_drew1) | exact HB.out))); (case aF => exact (fun _ _ => trivial)); (case aO => exact (by (with_reducible repeat (first | apply Kd.R_alloc | apply Kd.R_drewN | apply Kd.R_drew)); exact HO_7.out)); (case aS => exact (below_size (by repeat (first | (with_reducible first | exact HB.out | apply below_alloc | apply pw_below_drewN | apply below_drew1) | exact HB.out)))); (case aL => have := LMc25.out; omega); intro v148 w27 ho hb hg hat; rw [← Ny147.out] at ho; have n0_ := Aside0.mk (Kd.S_after (ok := (fun _ => True)) (by (with_reducible repeat (first | apply Kd.S_alloc | apply Kd.S_drewN | apply Kd.S_drew)); exact Kd.S_mono HO_5.out (fun _ hk => ⟨trivial, hk⟩)) hg hat); have n1_ := Aside0.mk (hb); have n2_ := Aside0.mk (ho); clear HO_5; clear HB; clear HO_7; have HO_5 := n0_; have HB := n1_; have HO149 := n2_; clear n0_ n1_ n2_; clear ho hb hg hat))
                                    go_roundg kj9
                                    case measure => have := HK1.out; have := HJ4.out; have := HK3.out; have := HJ9.out; omega
                                    case rel => exact ⟨(y147), (x8_3), (wrap64 (x9_3 + 1)), (by first | rfl | (simp; done) | (simp [*]; done)), (by first | rfl | (simp; done) | (simp [*]; done)), H', ⟨by have := HK1.out; have := HJ4.out; have := HK3.out; have := HJ9.out; omega⟩, ⟨by (with_reducible repeat (first | apply Kd.S_alloc | apply Kd.S_drewN | apply Kd.S_drew)); exact Kd.S_mono HO_5.out (fun _ hk => hk.2)⟩, ⟨by (with_reducible repeat (first | apply Kd.R_alloc | apply Kd.R_drewN | apply Kd.R_drew)); exact HO149.out⟩, ⟨by repeat (first | (with_reducible first | exact HB.out | apply below_alloc | apply pw_below_drewN | apply below_drew1) | exact HB.out)⟩⟩
                                  · rw [if_neg c25] at H
                                    exact absurd H (by simp)
                                · rw [if_neg c24] at H
                                  exact absurd H (by simp)
                            · rw [if_neg c18] at H
                              exact absurd H (by simp)
                          · rw [if_neg c17] at H
                            exact absurd H (by simp)
                        · rw [if_neg c16] at H
                          exact absurd H (by simp)
                      · rw [if_neg c15] at H
                        exact absurd H (by simp)
                    · replace c14 := Bool.eq_false_iff.mpr c14
                      subst c14
                      have H1 : (if x5_1.length < 5864062014805 then (stowagelaw12_SolveSlower.l0 kj9 a0 l1 (x5_1 ++ [x7_3]) (wrap64 (x6_1 + 1))) else (none)) = some r := by rw [if_neg (show ¬ (false = true) by decide)] at H; exact H
                      clear H
                      have H := H1
                      clear H1
                      by_cases c28 : x5_1.length < 5864062014805
                      · rw [if_pos c28] at H
                        have LMc28 := Aside0.mk c28
                        clear c28
                        obtain ⟨y150, hy150⟩ : ∃ y_ : List (List Int), y_ = (x5_1 ++ [x7_3]) := ⟨_, rfl⟩
                        replace H : (stowagelaw12_SolveSlower.l0 kj9 a0 l1 y150 (wrap64 (x6_1 + 1))) = some r := by first | (rw [hy150]; with_reducible exact H) | (have H2_ := (Option.bind_some _ _).symm.trans H; rw [hy150]; with_reducible exact H2_) | (have H2_ := (Option.bind_some _ _).symm.trans H; with_reducible exact H2_) | with_reducible exact H | (rw [hy150]; exact H) | exact H
                        have Ny150 := Aside0.mk hy150
                        clear hy150
                        have H' := Aside0.mk H
                        clear H
                        obtain ⟨Ao30, co30, eo30⟩ := Kd.R_slice HO_7.out
                        subst eo30
                        go_wp2_with (first | ((with_reducible refine gate_builtin (b := .append) (xs := #[.tmp 69, .tmp 71]) rfl ?_); at_builtin; refine Kd.S_append (Kd.slice 3 (Kd.int .i64)) (w0 := w) w.heap.size rfl (.tmp 69) (.tmp 71) 23 40 (.slice none 0 0) 24 rfl Try.underlying23 info40 rfl (by decide) (by omega) u5 x5_1 x7_3 [.slice Ao30 x7_3.length co30] (fun _ => True) (fun k_ => some k_ = (.slice Ao30 x7_3.length co30 : Value).ownBlock) rfl rfl ?aP (fun k_ hk_ => ((Kd.R_mono (ok' := fun k_ => ((fun _ => True)) k_ ∧ some k_ ≠ (u5 : Value).ownBlock) (Kd.R_apart' (HO_7.out) (Kd.S_typed HO_5.out) (by decide)) (fun k_ hk => ⟨trivial, hk.2⟩))).1 k_ hk_.symm) ?aF ?aO ?aB ?aS ?aL ?_; (case aP => exact Kd.M_row (Kd.R_mono (Kd.R_tight rfl (Kd.R_mono (ok' := fun k_ => ((fun _ => True)) k_ ∧ some k_ ≠ (u5 : Value).ownBlock) (Kd.R_apart' (HO_7.out) (Kd.S_typed HO_5.out) (by decide)) (fun k_ hk => ⟨trivial, hk.2⟩))) (fun _ h_ => h_))); (case aB => exact (by repeat (first | (with_reducible first | exact HB.out | apply below_alloc | apply pw_below_drewN | apply below_drew1) | exact HB.out))); (case aF => exact (fun _ _ => trivial)); (case aO => exact (by (with_reducible repeat (first | apply Kd.S_alloc | apply Kd.S_drewN | apply Kd.S_drew)); exact Kd.S_mono HO_5.out (fun k_ hk => ⟨trivial, fun e_ => hk e_⟩))); (case aS => exact (below_size (by repeat (first | (with_reducible first | exact HB.out | apply below_alloc | apply pw_below_drewN | apply below_drew1) | exact HB.out)))); (case aL => have := LMc28.out; omega); intro v151 w29 ho hb hg hat; rw [← Ny150.out] at ho; have n0_ := Aside0.mk (hb); have n1_ := Aside0.mk (ho); clear HB; clear HO_5; clear HO_7; have HB := n0_; have HO152 := n1_; clear n0_ n1_; clear ho hb hg hat))
                        go_roundg kj9
                        case measure => have := HK1.out; have := HJ4.out; have := HK3.out; have := HJ9.out; omega
                        case rel => exact ⟨(y150), (wrap64 (x6_1 + 1)), (by first | rfl | (simp; done) | (simp [*]; done)), H', ⟨by have := HK1.out; have := HJ4.out; have := HK3.out; have := HJ9.out; omega⟩, ⟨by (with_reducible repeat (first | apply Kd.S_alloc | apply Kd.S_drewN | apply Kd.S_drew)); exact HO152.out⟩, ⟨by repeat (first | (with_reducible first | exact HB.out | apply below_alloc | apply pw_below_drewN | apply below_drew1) | exact HB.out)⟩⟩
                      · rw [if_neg c28] at H
                        exact absurd H (by simp)
          · replace c7 := Bool.eq_false_iff.mpr c7
            subst c7
            have H1 : (if (x5_1.length : Int) = 0 then ((stowagelaw12_awake.f).bind fun t153 => (some t153)) else (if 0 ≤ (x5_1.length : Int) then (if ((x5_1.length : Int) : Int).toNat ≤ 35184372088832 then ((some (List.replicate ((x5_1.length : Int) : Int).toNat 0 : List Int)).bind fun y154 => ((solve_Greedy.f kj4 (wrap64 (a0)) y154 x5_1).bind fun bt157 => ((solve_Best.f (wrap64 (a0)) y154 x5_1).bind fun bt161 => (stowagelaw12_SolveSlower.l2 kj4 x5_1 bt157.1 bt157.2 bt161.2.1 bt161.2.2 0)))) else (none)) else (none))) = some r := by rw [if_neg (show ¬ (false = true) by decide)] at H; exact H
            clear H
            have H := H1
            clear H1
            by_cases c31 : (x5_1.length : Int) = 0
            · rw [if_pos c31] at H
              have c31b0 : ((x5_1.length : Int) == 0) = true := beq_iff_eq.mpr c31
              have c31b1 : ((x5_1.length : Int) != 0) = false := bne_eq_false_iff_eq.mpr c31
              clear c31
              replace H := Option.bind_eq_some_iff.mp H
              obtain ⟨t153, A320, H⟩ := H
              replace H : (some t153) = some r := H
              have A32 := Aside0.mk A320
              clear A320
              obtain rfl := Option.some.inj H
              obtain ⟨Ao33, co33, eo33⟩ := Kd.S_slice HO_5.out
              subst eo33
              go_wp2_with (first | ((with_reducible refine gate_callee (f := 11) rfl ?_); refine goesL_ (some 76) rfl rfl Try.func11 (by kernel_rfl) rfl #[] rfl (by (try simp only [List.map_toArray, List.map_cons, List.map_nil]); first | done | rfl | (simp only [List.length_drop, List.length_take]; rfl)) ?_; (with_reducible refine (stowagelaw12_awake.calls  t153 _ A32.out).mono ?_); rintro e w34 ⟨rfl, hb⟩; refine ⟨_, rfl, ?_⟩; have n0_ := Aside0.mk (Kd.S_below (by (with_reducible repeat (first | apply Kd.S_alloc | apply Kd.S_drewN | apply Kd.S_drew)); exact HO_5.out) hb); have n1_ := Aside0.mk (below_step (by repeat (first | (with_reducible first | exact HB.out | apply below_alloc | apply pw_below_drewN | apply below_drew1) | exact HB.out)) hb); clear HO_5; clear HB; have HO_5 := n0_; have HB := n1_; clear n0_ n1_; (try clear hb); (try clear hb2); (try clear hk); (try clear hi)))
              go_ret
              exact ⟨by first | rfl | (simp [errW_none, errW_some] <;> rfl) | (simp [*, errW_none, errW_some] <;> rfl), by repeat (first | (with_reducible first | exact HB.out | apply below_alloc | apply pw_below_drewN | apply below_drew1) | exact HB.out)⟩
            · rw [if_neg c31] at H
              have c31b0 : ((x5_1.length : Int) == 0) = false := beq_eq_false_iff_ne.mpr c31
              have c31b1 : ((x5_1.length : Int) != 0) = true := bne_iff_ne.mpr c31
              have c31b2 : ¬ (x5_1 = []) := fun h_ => c31 (by rw [h_]; rfl)
              by_cases c35 : 0 ≤ (x5_1.length : Int)
              · rw [if_pos c35] at H
                have c35b0 := eq_true c35
                have c35b1 : decide (0 ≤ (x5_1.length : Int)) = true := decide_eq_true c35
                clear c35
                by_cases c36 : ((x5_1.length : Int) : Int).toNat ≤ 35184372088832
                · rw [if_pos c36] at H
                  have c36b0 := eq_true c36
                  have c36b1 : decide (((x5_1.length : Int) : Int).toNat ≤ 35184372088832) = true := decide_eq_true c36
                  clear c36
                  obtain ⟨y154, hy154⟩ : ∃ y_ : List Int, y_ = (List.replicate ((x5_1.length : Int) : Int).toNat 0) := ⟨_, rfl⟩
                  replace H : ((solve_Greedy.f kj4 (wrap64 (a0)) y154 x5_1).bind fun bt157 => ((solve_Best.f (wrap64 (a0)) y154 x5_1).bind fun bt161 => (stowagelaw12_SolveSlower.l2 kj4 x5_1 bt157.1 bt157.2 bt161.2.1 bt161.2.2 0))) = some r := by first | (rw [hy154]; with_reducible exact H) | (have H2_ := (Option.bind_some _ _).symm.trans H; rw [hy154]; with_reducible exact H2_) | (have H2_ := (Option.bind_some _ _).symm.trans H; with_reducible exact H2_) | with_reducible exact H | (rw [hy154]; exact H) | exact H
                  have Ny154 := Aside0.mk hy154
                  clear hy154
                  replace H := Option.bind_eq_some_iff.mp H
                  obtain ⟨⟨t157, t158⟩, A370, H⟩ := H
                  replace H : ((solve_Best.f (wrap64 (a0)) y154 x5_1).bind fun bt161 => (stowagelaw12_SolveSlower.l2 kj4 x5_1 t157 t158 bt161.2.1 bt161.2.2 0)) = some r := H
                  have A37 := Aside0.mk A370
                  clear A370
                  replace H := Option.bind_eq_some_iff.mp H
                  obtain ⟨⟨t161, t162, t163⟩, A380, H⟩ := H
                  replace H : (stowagelaw12_SolveSlower.l2 kj4 x5_1 t157 t158 t162 t163 0) = some r := H
                  have A38 := Aside0.mk A380
                  clear A380
                  have H' := Aside0.mk H
                  clear H
                  obtain ⟨Ao39, co39, eo39⟩ := Kd.S_slice HO_5.out
                  subst eo39
                  go_wp2_with (first | ((with_reducible refine gate_dst (N := 79) rfl ?_); refine Kd.R_make (Kd.int .i64) _ 3 rfl (N := 79) rfl 22 _ _ rfl (x5_1.length : Int) rfl rfl Try.underlying22 (.int .i64 0) 8 info3 rfl (by decide) (by omega) 0 (ok := fun _ => True) (okp := fun _ => True) rfl (fun _ hk => hk) trivial (of_decide_eq_true (by first | (with_reducible assumption) | assumption)) (Nat.le_trans (Nat.mul_le_mul_right _ (of_decide_eq_true (by first | (with_reducible assumption) | assumption) : (x5_1.length : Int).toNat ≤ 35184372088832)) (by omega)) (Below.refl _ _) (Nat.le_refl _) ?_; intro v155 w40 ho41 hb hg_ hnew_; clear hg_ hnew_; (first | rw [← Ny154.out] at ho41 | (simp only [Int.reduceToNat] at ho41; rw [← Ny154.out] at ho41)); have n0_ := Aside0.mk (Kd.S_elder' (by (with_reducible repeat (first | apply Kd.S_alloc | apply Kd.S_drewN | apply Kd.S_drew)); exact HO_5.out) (Kd.R_base ho41) hb); have n1_ := Aside0.mk (Kd.R_lower ho41 (below_size (by repeat (first | (with_reducible first | exact HB.out | apply below_alloc | apply pw_below_drewN | apply below_drew1) | exact HB.out)))); have n2_ := Aside0.mk (below_step (by repeat (first | (with_reducible first | exact HB.out | apply below_alloc | apply pw_below_drewN | apply below_drew1) | exact HB.out)) hb); clear HO_5; clear HB; have HO_5 := n0_; have HO156 := n1_; have HB := n2_; clear n0_ n1_ n2_; clear hb ho41; obtain ⟨Ao42, co42, eo42⟩ := Kd.R_slice HO156.out; subst eo42) | ((with_reducible refine gate_callee (f := 9) rfl ?_); refine goesL_ (some 85) rfl rfl Try.func9 (by kernel_rfl) rfl #[.int .i64 (wrap64 (a0)), .slice Ao42 y154.length co42, .slice Ao39 x5_1.length co39] rfl (by (try simp only [List.map_toArray, List.map_cons, List.map_nil]); first | done | rfl | (simp only [List.length_drop, List.length_take]; rfl)) ?_; (with_reducible refine (solve_Greedy.calls kj4 (wrap64 (a0)) _ _ y154 _ _ x5_1 t157 t158 _ ?side1 ?side2 ?side3 ?side4 A37.out).mono ?_); (case side1 => repeat (first | exact (Kd.R_reads' HO156.out).2.2 | (with_reducible refine Kd.C_alloc ?_ _) | (with_reducible refine Kd.C_drewN ?_ _) | (with_reducible refine Kd.C_drew ?_))); (case side2 => exact (Kd.R_reads' HO156.out).2.1); (case side3 => repeat (first | exact (Kd.S_reads' HO_5.out).2.2 | (with_reducible refine Kd.C_alloc ?_ _) | (with_reducible refine Kd.C_drewN ?_ _) | (with_reducible refine Kd.C_drew ?_))); (case side4 => exact (Kd.S_reads' HO_5.out).2.1); rintro e w43 ⟨v159, rfl, ho0, hb⟩; refine ⟨_, rfl, ?_⟩; have n0_ := Aside0.mk (Kd.S_elder' (by (with_reducible repeat (first | apply Kd.S_alloc | apply Kd.S_drewN | apply Kd.S_drew)); exact HO_5.out) (Kd.R_base ho0) hb); have n1_ := Aside0.mk (Kd.R_elder' (by (with_reducible repeat (first | apply Kd.R_alloc | apply Kd.R_drewN | apply Kd.R_drew)); exact HO156.out) (Kd.R_base ho0) hb); have n2_ := Aside0.mk (Kd.R_lower (Kd.R_new' ho0 (Kd.R_lt (by (with_reducible repeat (first | apply Kd.R_alloc | apply Kd.R_drewN | apply Kd.R_drew)); exact HO156.out))) (below_size (by repeat (first | (with_reducible first | exact HB.out | apply below_alloc | apply pw_below_drewN | apply below_drew1) | exact HB.out)))); have n3_ := Aside0.mk (below_step (by repeat (first | (with_reducible first | exact HB.out | apply below_alloc | apply pw_below_drewN | apply below_drew1) | exact HB.out)) hb); clear HO_5; clear HO156; clear HB; have HO_5 := n0_; have HO156 := n1_; have HO160 := n2_; have HB := n3_; clear n0_ n1_ n2_ n3_; (try clear hb); (try clear hb2); (try clear hk); (try clear hi); (try clear ho0)) | ((with_reducible refine gate_callee (f := 14) rfl ?_); refine goesL_ (some 93) rfl rfl Try.func14 (by kernel_rfl) rfl #[.int .i64 (wrap64 (a0)), .slice Ao42 y154.length co42, .slice Ao39 x5_1.length co39] rfl (by (try simp only [List.map_toArray, List.map_cons, List.map_nil]); first | done | rfl | (simp only [List.length_drop, List.length_take]; rfl)) ?_; (with_reducible refine (solve_Best.calls (wrap64 (a0)) _ _ y154 _ _ x5_1 t161 t162 t163 _ ?side1 ?side2 ?side3 ?side4 A38.out).mono ?_); (case side1 => repeat (first | exact (Kd.R_reads' HO156.out).2.2 | (with_reducible refine Kd.C_alloc ?_ _) | (with_reducible refine Kd.C_drewN ?_ _) | (with_reducible refine Kd.C_drew ?_))); (case side2 => exact (Kd.R_reads' HO156.out).2.1); (case side3 => repeat (first | exact (Kd.S_reads' HO_5.out).2.2 | (with_reducible refine Kd.C_alloc ?_ _) | (with_reducible refine Kd.C_drewN ?_ _) | (with_reducible refine Kd.C_drew ?_))); (case side4 => exact (Kd.S_reads' HO_5.out).2.1); rintro e w44 ⟨v164, rfl, ho0, hb⟩; refine ⟨_, rfl, ?_⟩; have n0_ := Aside0.mk (Kd.S_elder' (by (with_reducible repeat (first | apply Kd.S_alloc | apply Kd.S_drewN | apply Kd.S_drew)); exact HO_5.out) (Kd.R_base ho0) hb); have n1_ := Aside0.mk (Kd.R_elder' (by (with_reducible repeat (first | apply Kd.R_alloc | apply Kd.R_drewN | apply Kd.R_drew)); exact HO156.out) (Kd.R_base ho0) hb); have n2_ := Aside0.mk (Kd.R_elder' (by (with_reducible repeat (first | apply Kd.R_alloc | apply Kd.R_drewN | apply Kd.R_drew)); exact HO160.out) (Kd.R_base ho0) hb); have n3_ := Aside0.mk (Kd.R_lower (Kd.R_new' (Kd.R_new' ho0 (Kd.R_lt (by (with_reducible repeat (first | apply Kd.R_alloc | apply Kd.R_drewN | apply Kd.R_drew)); exact HO156.out))) (Kd.R_lt (by (with_reducible repeat (first | apply Kd.R_alloc | apply Kd.R_drewN | apply Kd.R_drew)); exact HO160.out))) (below_size (by repeat (first | (with_reducible first | exact HB.out | apply below_alloc | apply pw_below_drewN | apply below_drew1) | exact HB.out)))); have n4_ := Aside0.mk (below_step (by repeat (first | (with_reducible first | exact HB.out | apply below_alloc | apply pw_below_drewN | apply below_drew1) | exact HB.out)) hb); clear HO_5; clear HO156; clear HO160; clear HB; have HO_5 := n0_; have HO156 := n1_; have HO160 := n2_; have HO165 := n3_; have HB := n4_; clear n0_ n1_ n2_ n3_ n4_; (try clear hb); (try clear hb2); (try clear hk); (try clear hi); (try clear ho0)))
                  go_loopg [16] kj4 (fun kq v16 w' => ∃ (x16_3 : Int), v16 = .int .i64 x16_3 ∧ Aside0 (stowagelaw12_SolveSlower.l2 kq x5_1 t157 t158 t162 t163 x16_3 = some r) ∧ Aside0 (kq ≤ kj4) ∧ Aside0 (Kd.S (Kd.slice 3 (Kd.int .i64)) 40 w' w.heap.size (fun k_ => some k_ ≠ (v159 : Value).ownBlock) (.slice Ao39 x5_1.length co39) x5_1) ∧ Aside0 (Kd.R (Kd.int .i64) 3 w' w.heap.size (fun _ => True) v159 t157) ∧ Aside0 (Below w.heap.size w w'))
                  case atStart => exact ⟨(0), (by first | rfl | (simp; done) | (simp [*]; done)), H', ⟨Nat.le_refl _⟩, ⟨by (with_reducible repeat (first | apply Kd.S_alloc | apply Kd.S_drewN | apply Kd.S_drew)); exact Kd.S_mono HO_5.out (fun _ hk => hk.1.2)⟩, ⟨by (with_reducible repeat (first | apply Kd.R_alloc | apply Kd.R_drewN | apply Kd.R_drew)); exact Kd.R_mono HO160.out (fun _ hk => trivial)⟩, ⟨by repeat (first | (with_reducible first | exact HB.out | apply below_alloc | apply pw_below_drewN | apply below_drew1) | exact HB.out)⟩⟩
                  case round =>
                    clear H'
                    try clear c1
                    try clear p1
                    try clear q1
                    try clear hx1
                    try clear c2
                    try clear p2
                    try clear c3
                    try clear c6
                    try clear c6b0
                    try clear p6
                    try clear c7
                    try clear c9
                    try clear c11
                    try clear c11b0
                    try clear c12
                    try clear c12b0
                    try clear c13
                    try clear c13b0
                    try clear p13
                    try clear q13
                    try clear hx13
                    try clear c14
                    try clear p14
                    try clear q14
                    try clear hx14
                    try clear c15
                    try clear c15b0
                    try clear c16
                    try clear c16b0
                    try clear c17
                    try clear c17b0
                    try clear c18
                    try clear c18b0
                    try clear c19
                    try clear c19b0
                    try clear c20
                    try clear c20b0
                    try clear c21
                    try clear c24
                    try clear c24b0
                    try clear c25
                    try clear c28
                    try clear c31
                    try clear c31b0
                    try clear c31b1
                    try clear c31b2
                    try clear c35
                    try clear c35b0
                    try clear c35b1
                    try clear c36
                    try clear c36b0
                    try clear c36b1
                    try clear hx137_0
                    try clear hx138_0
                    try clear hx139_0
                    try clear hx140_0
                    try clear hx141_0
                    try clear hx142_0
                    try clear hx146_0
                    try clear p1
                    try clear p13
                    try clear p137
                    try clear p138
                    try clear p139
                    try clear p140
                    try clear p141
                    try clear p142
                    try clear p146
                    try clear p2
                    try clear q1
                    try clear q13
                    try clear q137
                    try clear q138
                    try clear q139
                    try clear q140
                    try clear q141
                    try clear q142
                    try clear q146
                    obtain ⟨x16_3, rfl, HA, HK3, HO_5, HO_11, HB⟩ := hrel
                    cases gk with
                    | zero => exact absurd HA.out (by simp [stowagelaw12_SolveSlower.l2])
                    | succ k3 =>
                      have H := HA.out
                      clear HA
                      simp only [stowagelaw12_SolveSlower.l2] at H
                      by_cases c45 : x16_3 < (x5_1.length : Int)
                      · rw [if_pos c45] at H
                        have c45b0 : decide (x16_3 < (x5_1.length : Int)) = true := decide_eq_true c45
                        clear c45
                        by_cases c46 : 0 ≤ x16_3
                        · rw [if_pos c46] at H
                          have c46b0 : decide (0 ≤ x16_3) = true := decide_eq_true c46
                          clear c46
                          replace H := Option.bind_eq_some_iff.mp H
                          obtain ⟨t169, A470, H⟩ := H
                          replace H : (if t169 = true then ((stowageref11_Sound.f k3 (rd_L1 x5_1 x16_3)).bind fun t171 => (if t171 = true then (stowagelaw12_SolveSlower.l2 k3 x5_1 t157 t158 t162 t163 (wrap64 (x16_3 + 1))) else (some false))) else (some false)) = some r := H
                          have A47 := Aside0.mk A470
                          clear A470
                          by_cases c48 : t169 = true
                          · subst c48
                            have H1 : ((stowageref11_Sound.f k3 (rd_L1 x5_1 x16_3)).bind fun t171 => (if t171 = true then (stowagelaw12_SolveSlower.l2 k3 x5_1 t157 t158 t162 t163 (wrap64 (x16_3 + 1))) else (some false))) = some r := by rw [if_pos rfl] at H; exact H
                            clear H
                            have H := H1
                            clear H1
                            replace H := Option.bind_eq_some_iff.mp H
                            obtain ⟨t171, A490, H⟩ := H
                            replace H : (if t171 = true then (stowagelaw12_SolveSlower.l2 k3 x5_1 t157 t158 t162 t163 (wrap64 (x16_3 + 1))) else (some false)) = some r := H
                            have A49 := Aside0.mk A490
                            clear A490
                            by_cases c50 : t171 = true
                            · subst c50
                              have H1 : (stowagelaw12_SolveSlower.l2 k3 x5_1 t157 t158 t162 t163 (wrap64 (x16_3 + 1))) = some r := by rw [if_pos rfl] at H; exact H
                              clear H
                              have H := H1
                              clear H1
                              have H' := Aside0.mk H
                              clear H
                              have p168 : 0 ≤ (x16_3 : Int) := of_decide_eq_true (by first | (with_reducible assumption) | assumption)
                              have q168 : x16_3 < (x5_1.length : Int) := of_decide_eq_true (by first | (with_reducible assumption) | assumption)
                              obtain ⟨ad168, A168_0, c168_0, e168, hx168_0, hl168_0, hi168_0⟩ := at_L1 (Kd.S_reads' HO_5.out).2.2 x16_3 p168 q168
                              cases e168
                              obtain ⟨ce168, hce168, hMe168, hcc168⟩ := Kd.S_get HO_5.out [] x16_3 p168 (by first | exact q168 | exact of_decide_eq_true (by first | (with_reducible assumption) | assumption) | (have e_ := (Kd.S_reads' HO_5.out).1; omega))
                              obtain ⟨ve168_0, rfl, ge168_0⟩ := hMe168
                              have hv168_0 := hcc168 0 _ rfl
                              rw [Nat.add_zero, show ((Kd.slice 3 (Kd.int .i64))).sz = 1 from rfl, Nat.mul_one] at hv168_0
                              replace hv168_0 := Option.some.inj (hv168_0.symm.trans hx168_0)
                              rw [hv168_0] at ge168_0
                              have HL168_0 := Aside0.mk (show Kd.R (Kd.int .i64) 3 _ _ _ _ (rd_L1 x5_1 x16_3) from ge168_0)
                              clear hv168_0 ge168_0
                              clear hcc168 hce168
                              have HR168_0 := Aside0.mk hi168_0
                              have HC168_0 := Aside0.mk hl168_0
                              clear hi168_0 hl168_0
                              replace p168 := eq_true p168
                              replace q168 := eq_true q168
                              go_wp2_with (first | ((with_reducible refine gate_callee (f := 17) rfl ?_); refine goesL_ (some 107) rfl rfl Try.func17 (by kernel_rfl) rfl #[.slice A168_0 (rd_L1 x5_1 x16_3).length c168_0] rfl (by (try simp only [List.map_toArray, List.map_cons, List.map_nil]); first | done | rfl | (simp only [List.length_drop, List.length_take]; rfl)) ?_; (with_reducible refine (stowageref12_Slower.calls k3 _ _ (rd_L1 x5_1 x16_3) true _ ?side1 ?side2 A47.out).mono ?_); (case side1 => repeat (first | exact (by repeat (first | (with_reducible exact HR168_0.out) | (with_reducible refine Kd.C_alloc ?_ _) | (with_reducible refine Kd.C_drewN ?_ _) | (with_reducible refine Kd.C_drew ?_) | exact HR168_0.out)) | (with_reducible refine Kd.C_alloc ?_ _) | (with_reducible refine Kd.C_drewN ?_ _) | (with_reducible refine Kd.C_drew ?_))); (case side2 => exact HC168_0.out); rintro e w' ⟨rfl, ⟨nd, rfl⟩⟩; refine ⟨_, rfl, ?_⟩; have p170 : 0 ≤ (x16_3 : Int) := of_decide_eq_true (by first | (with_reducible assumption) | assumption); have q170 : x16_3 < (x5_1.length : Int) := of_decide_eq_true (by first | (with_reducible assumption) | assumption); obtain ⟨ad170, A170_0, c170_0, e170, hx170_0, hl170_0, hi170_0⟩ := at_L1 (Kd.S_reads' HO_5.out).2.2 x16_3 p170 q170; obtain rfl : ad168 = ad170 := (by injection e170); obtain ⟨ce170, hce170, hMe170, hcc170⟩ := Kd.S_get HO_5.out [] x16_3 p170 (by first | exact q170 | exact of_decide_eq_true (by first | (with_reducible assumption) | assumption) | (have e_ := (Kd.S_reads' HO_5.out).1; omega)); obtain ⟨ve170_0, rfl, ge170_0⟩ := hMe170; have hv170_0 := hcc170 0 _ rfl; rw [Nat.add_zero, show ((Kd.slice 3 (Kd.int .i64))).sz = 1 from rfl, Nat.mul_one] at hv170_0; replace hv170_0 := Option.some.inj (hv170_0.symm.trans hx170_0); rw [hv170_0] at ge170_0; have HL170_0 := Aside0.mk (show Kd.R (Kd.int .i64) 3 _ _ _ _ (rd_L1 x5_1 x16_3) from ge170_0); clear hv170_0 ge170_0; clear hcc170 hce170; have HR170_0 := Aside0.mk hi170_0; have HC170_0 := Aside0.mk hl170_0; clear hi170_0 hl170_0; replace p170 := eq_true p170; replace q170 := eq_true q170; have ea_ := Option.some.inj (hx168_0.symm.trans hx170_0); injection ea_ with ea_ en_ ec_; subst ea_; subst ec_; clear en_) | (go_at_call 18; (with_reducible refine (stowageref11_Sound.calls k3 _ _ (rd_L1 x5_1 x16_3) true _ ?side1 ?side2 A49.out).mono ?_); (case side1 => repeat (first | exact (by repeat (first | (with_reducible exact HR170_0.out) | (with_reducible refine Kd.C_alloc ?_ _) | (with_reducible refine Kd.C_drewN ?_ _) | (with_reducible refine Kd.C_drew ?_) | exact HR170_0.out)) | (with_reducible refine Kd.C_alloc ?_ _) | (with_reducible refine Kd.C_drewN ?_ _) | (with_reducible refine Kd.C_drew ?_))); (case side2 => exact HC170_0.out); rintro e w' ⟨rfl, ⟨nd, rfl⟩⟩))
                              go_roundg k3
                              case measure => have := HK1.out; have := HJ4.out; have := HK3.out; omega
                              case rel => exact ⟨(wrap64 (x16_3 + 1)), (by first | rfl | (simp; done) | (simp [*]; done)), H', ⟨by have := HK1.out; have := HJ4.out; have := HK3.out; omega⟩, ⟨by (with_reducible repeat (first | apply Kd.S_alloc | apply Kd.S_drewN | apply Kd.S_drew)); exact HO_5.out⟩, ⟨by (with_reducible repeat (first | apply Kd.R_alloc | apply Kd.R_drewN | apply Kd.R_drew)); exact HO_11.out⟩, ⟨by repeat (first | (with_reducible first | exact HB.out | apply below_alloc | apply pw_below_drewN | apply below_drew1) | exact HB.out)⟩⟩
                            · replace c50 := Bool.eq_false_iff.mpr c50
                              subst c50
                              have H1 : (some false) = some r := by rw [if_neg (show ¬ (false = true) by decide)] at H; exact H
                              clear H
                              have H := H1
                              clear H1
                              obtain rfl := Option.some.inj H
                              have p168 : 0 ≤ (x16_3 : Int) := of_decide_eq_true (by first | (with_reducible assumption) | assumption)
                              have q168 : x16_3 < (x5_1.length : Int) := of_decide_eq_true (by first | (with_reducible assumption) | assumption)
                              obtain ⟨ad168, A168_0, c168_0, e168, hx168_0, hl168_0, hi168_0⟩ := at_L1 (Kd.S_reads' HO_5.out).2.2 x16_3 p168 q168
                              cases e168
                              obtain ⟨ce168, hce168, hMe168, hcc168⟩ := Kd.S_get HO_5.out [] x16_3 p168 (by first | exact q168 | exact of_decide_eq_true (by first | (with_reducible assumption) | assumption) | (have e_ := (Kd.S_reads' HO_5.out).1; omega))
                              obtain ⟨ve168_0, rfl, ge168_0⟩ := hMe168
                              have hv168_0 := hcc168 0 _ rfl
                              rw [Nat.add_zero, show ((Kd.slice 3 (Kd.int .i64))).sz = 1 from rfl, Nat.mul_one] at hv168_0
                              replace hv168_0 := Option.some.inj (hv168_0.symm.trans hx168_0)
                              rw [hv168_0] at ge168_0
                              have HL168_0 := Aside0.mk (show Kd.R (Kd.int .i64) 3 _ _ _ _ (rd_L1 x5_1 x16_3) from ge168_0)
                              clear hv168_0 ge168_0
                              clear hcc168 hce168
                              have HR168_0 := Aside0.mk hi168_0
                              have HC168_0 := Aside0.mk hl168_0
                              clear hi168_0 hl168_0
                              replace p168 := eq_true p168
                              replace q168 := eq_true q168
                              go_wp2_with (first | ((with_reducible refine gate_callee (f := 17) rfl ?_); refine goesL_ (some 107) rfl rfl Try.func17 (by kernel_rfl) rfl #[.slice A168_0 (rd_L1 x5_1 x16_3).length c168_0] rfl (by (try simp only [List.map_toArray, List.map_cons, List.map_nil]); first | done | rfl | (simp only [List.length_drop, List.length_take]; rfl)) ?_; (with_reducible refine (stowageref12_Slower.calls k3 _ _ (rd_L1 x5_1 x16_3) true _ ?side1 ?side2 A47.out).mono ?_); (case side1 => repeat (first | exact (by repeat (first | (with_reducible exact HR168_0.out) | (with_reducible refine Kd.C_alloc ?_ _) | (with_reducible refine Kd.C_drewN ?_ _) | (with_reducible refine Kd.C_drew ?_) | exact HR168_0.out)) | (with_reducible refine Kd.C_alloc ?_ _) | (with_reducible refine Kd.C_drewN ?_ _) | (with_reducible refine Kd.C_drew ?_))); (case side2 => exact HC168_0.out); rintro e w' ⟨rfl, ⟨nd, rfl⟩⟩; refine ⟨_, rfl, ?_⟩; have p170 : 0 ≤ (x16_3 : Int) := of_decide_eq_true (by first | (with_reducible assumption) | assumption); have q170 : x16_3 < (x5_1.length : Int) := of_decide_eq_true (by first | (with_reducible assumption) | assumption); obtain ⟨ad170, A170_0, c170_0, e170, hx170_0, hl170_0, hi170_0⟩ := at_L1 (Kd.S_reads' HO_5.out).2.2 x16_3 p170 q170; obtain rfl : ad168 = ad170 := (by injection e170); obtain ⟨ce170, hce170, hMe170, hcc170⟩ := Kd.S_get HO_5.out [] x16_3 p170 (by first | exact q170 | exact of_decide_eq_true (by first | (with_reducible assumption) | assumption) | (have e_ := (Kd.S_reads' HO_5.out).1; omega)); obtain ⟨ve170_0, rfl, ge170_0⟩ := hMe170; have hv170_0 := hcc170 0 _ rfl; rw [Nat.add_zero, show ((Kd.slice 3 (Kd.int .i64))).sz = 1 from rfl, Nat.mul_one] at hv170_0; replace hv170_0 := Option.some.inj (hv170_0.symm.trans hx170_0); rw [hv170_0] at ge170_0; have HL170_0 := Aside0.mk (show Kd.R (Kd.int .i64) 3 _ _ _ _ (rd_L1 x5_1 x16_3) from ge170_0); clear hv170_0 ge170_0; clear hcc170 hce170; have HR170_0 := Aside0.mk hi170_0; have HC170_0 := Aside0.mk hl170_0; clear hi170_0 hl170_0; replace p170 := eq_true p170; replace q170 := eq_true q170; have ea_ := Option.some.inj (hx168_0.symm.trans hx170_0); injection ea_ with ea_ en_ ec_; subst ea_; subst ec_; clear en_) | (go_at_call 18; (with_reducible refine (stowageref11_Sound.calls k3 _ _ (rd_L1 x5_1 x16_3) false _ ?side1 ?side2 A49.out).mono ?_); (case side1 => repeat (first | exact (by repeat (first | (with_reducible exact HR170_0.out) | (with_reducible refine Kd.C_alloc ?_ _) | (with_reducible refine Kd.C_drewN ?_ _) | (with_reducible refine Kd.C_drew ?_) | exact HR170_0.out)) | (with_reducible refine Kd.C_alloc ?_ _) | (with_reducible refine Kd.C_drewN ?_ _) | (with_reducible refine Kd.C_drew ?_))); (case side2 => exact HC170_0.out); rintro e w' ⟨rfl, ⟨nd, rfl⟩⟩))
                              go_ret
                              exact ⟨by first | rfl | (simp [errW_none, errW_some] <;> rfl) | (simp [*, errW_none, errW_some] <;> rfl), by repeat (first | (with_reducible first | exact HB.out | apply below_alloc | apply pw_below_drewN | apply below_drew1) | exact HB.out)⟩
                          · replace c48 := Bool.eq_false_iff.mpr c48
                            subst c48
                            have H1 : (some false) = some r := by rw [if_neg (show ¬ (false = true) by decide)] at H; exact H
                            clear H
                            have H := H1
                            clear H1
                            obtain rfl := Option.some.inj H
                            have p168 : 0 ≤ (x16_3 : Int) := of_decide_eq_true (by first | (with_reducible assumption) | assumption)
                            have q168 : x16_3 < (x5_1.length : Int) := of_decide_eq_true (by first | (with_reducible assumption) | assumption)
                            obtain ⟨ad168, A168_0, c168_0, e168, hx168_0, hl168_0, hi168_0⟩ := at_L1 (Kd.S_reads' HO_5.out).2.2 x16_3 p168 q168
                            cases e168
                            obtain ⟨ce168, hce168, hMe168, hcc168⟩ := Kd.S_get HO_5.out [] x16_3 p168 (by first | exact q168 | exact of_decide_eq_true (by first | (with_reducible assumption) | assumption) | (have e_ := (Kd.S_reads' HO_5.out).1; omega))
                            obtain ⟨ve168_0, rfl, ge168_0⟩ := hMe168
                            have hv168_0 := hcc168 0 _ rfl
                            rw [Nat.add_zero, show ((Kd.slice 3 (Kd.int .i64))).sz = 1 from rfl, Nat.mul_one] at hv168_0
                            replace hv168_0 := Option.some.inj (hv168_0.symm.trans hx168_0)
                            rw [hv168_0] at ge168_0
                            have HL168_0 := Aside0.mk (show Kd.R (Kd.int .i64) 3 _ _ _ _ (rd_L1 x5_1 x16_3) from ge168_0)
                            clear hv168_0 ge168_0
                            clear hcc168 hce168
                            have HR168_0 := Aside0.mk hi168_0
                            have HC168_0 := Aside0.mk hl168_0
                            clear hi168_0 hl168_0
                            replace p168 := eq_true p168
                            replace q168 := eq_true q168
                            go_wp2_with (first | ((with_reducible refine gate_callee (f := 17) rfl ?_); refine goesL_ (some 107) rfl rfl Try.func17 (by kernel_rfl) rfl #[.slice A168_0 (rd_L1 x5_1 x16_3).length c168_0] rfl (by (try simp only [List.map_toArray, List.map_cons, List.map_nil]); first | done | rfl | (simp only [List.length_drop, List.length_take]; rfl)) ?_; (with_reducible refine (stowageref12_Slower.calls k3 _ _ (rd_L1 x5_1 x16_3) false _ ?side1 ?side2 A47.out).mono ?_); (case side1 => repeat (first | exact (by repeat (first | (with_reducible exact HR168_0.out) | (with_reducible refine Kd.C_alloc ?_ _) | (with_reducible refine Kd.C_drewN ?_ _) | (with_reducible refine Kd.C_drew ?_) | exact HR168_0.out)) | (with_reducible refine Kd.C_alloc ?_ _) | (with_reducible refine Kd.C_drewN ?_ _) | (with_reducible refine Kd.C_drew ?_))); (case side2 => exact HC168_0.out); rintro e w' ⟨rfl, ⟨nd, rfl⟩⟩; refine ⟨_, rfl, ?_⟩))
                            go_ret
                            exact ⟨by first | rfl | (simp [errW_none, errW_some] <;> rfl) | (simp [*, errW_none, errW_some] <;> rfl), by repeat (first | (with_reducible first | exact HB.out | apply below_alloc | apply pw_below_drewN | apply below_drew1) | exact HB.out)⟩
                        · rw [if_neg c46] at H
                          exact absurd H (by simp)
                      · rw [if_neg c45] at H
                        have c45b0 : decide (x16_3 < (x5_1.length : Int)) = false := decide_eq_false c45
                        clear c45
                        replace H := Option.bind_eq_some_iff.mp H
                        obtain ⟨t166, A510, H⟩ := H
                        replace H : (if t166 = true then (if t158 = 0 then (if t163 = 0 then ((stowageref12_Sum.f k3 t157 x5_1).bind fun t167 => (some (t167 == t162))) else (some false)) else (some false)) else (some false)) = some r := H
                        have A51 := Aside0.mk A510
                        clear A510
                        by_cases c52 : t166 = true
                        · subst c52
                          have H1 : (if t158 = 0 then (if t163 = 0 then ((stowageref12_Sum.f k3 t157 x5_1).bind fun t167 => (some (t167 == t162))) else (some false)) else (some false)) = some r := by rw [if_pos rfl] at H; exact H
                          clear H
                          have H := H1
                          clear H1
                          by_cases c53 : t158 = 0
                          · rw [if_pos c53] at H
                            have c53b0 : (t158 == 0) = true := beq_iff_eq.mpr c53
                            have c53b1 : (t158 != 0) = false := bne_eq_false_iff_eq.mpr c53
                            clear c53
                            by_cases c54 : t163 = 0
                            · rw [if_pos c54] at H
                              have c54b0 : (t163 == 0) = true := beq_iff_eq.mpr c54
                              have c54b1 : (t163 != 0) = false := bne_eq_false_iff_eq.mpr c54
                              clear c54
                              replace H := Option.bind_eq_some_iff.mp H
                              obtain ⟨t167, A550, H⟩ := H
                              replace H : (some (t167 == t162)) = some r := H
                              have A55 := Aside0.mk A550
                              clear A550
                              obtain rfl := Option.some.inj H
                              go_wp2_with (first | ((with_reducible refine gate_callee (f := 11) rfl ?_); refine goesL_ (some 117) rfl rfl Try.func11 (by kernel_rfl) rfl #[] rfl (by (try simp only [List.map_toArray, List.map_cons, List.map_nil]); first | done | rfl | (simp only [List.length_drop, List.length_take]; rfl)) ?_; (with_reducible refine (stowagelaw12_awake.calls  true _ A51.out).mono ?_); rintro e w56 ⟨rfl, hb⟩; refine ⟨_, rfl, ?_⟩; have n0_ := Aside0.mk (Kd.S_below (by (with_reducible repeat (first | apply Kd.S_alloc | apply Kd.S_drewN | apply Kd.S_drew)); exact HO_5.out) hb); have n1_ := Aside0.mk (Kd.R_below (by (with_reducible repeat (first | apply Kd.R_alloc | apply Kd.R_drewN | apply Kd.R_drew)); exact HO_11.out) hb); have n2_ := Aside0.mk (below_step (by repeat (first | (with_reducible first | exact HB.out | apply below_alloc | apply pw_below_drewN | apply below_drew1) | exact HB.out)) hb); clear HO_5; clear HO_11; clear HB; have HO_5 := n0_; have HO_11 := n1_; have HB := n2_; clear n0_ n1_ n2_; (try clear hb); (try clear hb2); (try clear hk); (try clear hi); obtain ⟨Ao57, co57, eo57⟩ := Kd.R_slice HO_11.out; subst eo57) | (go_at_call 15; (with_reducible refine (stowageref12_Sum.calls k3 _ _ t157 _ _ x5_1 t167 _ ?side1 ?side2 ?side3 ?side4 A55.out).mono ?_); (case side1 => repeat (first | exact (Kd.R_reads' HO_11.out).2.2 | (with_reducible refine Kd.C_alloc ?_ _) | (with_reducible refine Kd.C_drewN ?_ _) | (with_reducible refine Kd.C_drew ?_))); (case side2 => exact (Kd.R_reads' HO_11.out).2.1); (case side3 => repeat (first | exact (Kd.S_reads' HO_5.out).2.2 | (with_reducible refine Kd.C_alloc ?_ _) | (with_reducible refine Kd.C_drewN ?_ _) | (with_reducible refine Kd.C_drew ?_))); (case side4 => exact (Kd.S_reads' HO_5.out).2.1); rintro e w' ⟨rfl, ⟨nd, rfl⟩⟩))
                              go_ret
                              exact ⟨by first | rfl | (simp [errW_none, errW_some] <;> rfl) | (simp [*, errW_none, errW_some] <;> rfl), by repeat (first | (with_reducible first | exact HB.out | apply below_alloc | apply pw_below_drewN | apply below_drew1) | exact HB.out)⟩
                            · rw [if_neg c54] at H
                              have c54b0 : (t163 == 0) = false := beq_eq_false_iff_ne.mpr c54
                              have c54b1 : (t163 != 0) = true := bne_iff_ne.mpr c54
                              obtain rfl := Option.some.inj H
                              go_wp2_with (first | ((with_reducible refine gate_callee (f := 11) rfl ?_); refine goesL_ (some 117) rfl rfl Try.func11 (by kernel_rfl) rfl #[] rfl (by (try simp only [List.map_toArray, List.map_cons, List.map_nil]); first | done | rfl | (simp only [List.length_drop, List.length_take]; rfl)) ?_; (with_reducible refine (stowagelaw12_awake.calls  true _ A51.out).mono ?_); rintro e w58 ⟨rfl, hb⟩; refine ⟨_, rfl, ?_⟩; have n0_ := Aside0.mk (Kd.S_below (by (with_reducible repeat (first | apply Kd.S_alloc | apply Kd.S_drewN | apply Kd.S_drew)); exact HO_5.out) hb); have n1_ := Aside0.mk (Kd.R_below (by (with_reducible repeat (first | apply Kd.R_alloc | apply Kd.R_drewN | apply Kd.R_drew)); exact HO_11.out) hb); have n2_ := Aside0.mk (below_step (by repeat (first | (with_reducible first | exact HB.out | apply below_alloc | apply pw_below_drewN | apply below_drew1) | exact HB.out)) hb); clear HO_5; clear HO_11; clear HB; have HO_5 := n0_; have HO_11 := n1_; have HB := n2_; clear n0_ n1_ n2_; (try clear hb); (try clear hb2); (try clear hk); (try clear hi)))
                              go_ret
                              exact ⟨by first | rfl | (simp [errW_none, errW_some] <;> rfl) | (simp [*, errW_none, errW_some] <;> rfl), by repeat (first | (with_reducible first | exact HB.out | apply below_alloc | apply pw_below_drewN | apply below_drew1) | exact HB.out)⟩
                          · rw [if_neg c53] at H
                            have c53b0 : (t158 == 0) = false := beq_eq_false_iff_ne.mpr c53
                            have c53b1 : (t158 != 0) = true := bne_iff_ne.mpr c53
                            obtain rfl := Option.some.inj H
                            go_wp2_with (first | ((with_reducible refine gate_callee (f := 11) rfl ?_); refine goesL_ (some 117) rfl rfl Try.func11 (by kernel_rfl) rfl #[] rfl (by (try simp only [List.map_toArray, List.map_cons, List.map_nil]); first | done | rfl | (simp only [List.length_drop, List.length_take]; rfl)) ?_; (with_reducible refine (stowagelaw12_awake.calls  true _ A51.out).mono ?_); rintro e w59 ⟨rfl, hb⟩; refine ⟨_, rfl, ?_⟩; have n0_ := Aside0.mk (Kd.S_below (by (with_reducible repeat (first | apply Kd.S_alloc | apply Kd.S_drewN | apply Kd.S_drew)); exact HO_5.out) hb); have n1_ := Aside0.mk (Kd.R_below (by (with_reducible repeat (first | apply Kd.R_alloc | apply Kd.R_drewN | apply Kd.R_drew)); exact HO_11.out) hb); have n2_ := Aside0.mk (below_step (by repeat (first | (with_reducible first | exact HB.out | apply below_alloc | apply pw_below_drewN | apply below_drew1) | exact HB.out)) hb); clear HO_5; clear HO_11; clear HB; have HO_5 := n0_; have HO_11 := n1_; have HB := n2_; clear n0_ n1_ n2_; (try clear hb); (try clear hb2); (try clear hk); (try clear hi)))
                            go_ret
                            exact ⟨by first | rfl | (simp [errW_none, errW_some] <;> rfl) | (simp [*, errW_none, errW_some] <;> rfl), by repeat (first | (with_reducible first | exact HB.out | apply below_alloc | apply pw_below_drewN | apply below_drew1) | exact HB.out)⟩
                        · replace c52 := Bool.eq_false_iff.mpr c52
                          subst c52
                          have H1 : (some false) = some r := by rw [if_neg (show ¬ (false = true) by decide)] at H; exact H
                          clear H
                          have H := H1
                          clear H1
                          obtain rfl := Option.some.inj H
                          go_wp2_with (first | ((with_reducible refine gate_callee (f := 11) rfl ?_); refine goesL_ (some 117) rfl rfl Try.func11 (by kernel_rfl) rfl #[] rfl (by (try simp only [List.map_toArray, List.map_cons, List.map_nil]); first | done | rfl | (simp only [List.length_drop, List.length_take]; rfl)) ?_; (with_reducible refine (stowagelaw12_awake.calls  false _ A51.out).mono ?_); rintro e w60 ⟨rfl, hb⟩; refine ⟨_, rfl, ?_⟩; have n0_ := Aside0.mk (Kd.S_below (by (with_reducible repeat (first | apply Kd.S_alloc | apply Kd.S_drewN | apply Kd.S_drew)); exact HO_5.out) hb); have n1_ := Aside0.mk (Kd.R_below (by (with_reducible repeat (first | apply Kd.R_alloc | apply Kd.R_drewN | apply Kd.R_drew)); exact HO_11.out) hb); have n2_ := Aside0.mk (below_step (by repeat (first | (with_reducible first | exact HB.out | apply below_alloc | apply pw_below_drewN | apply below_drew1) | exact HB.out)) hb); clear HO_5; clear HO_11; clear HB; have HO_5 := n0_; have HO_11 := n1_; have HB := n2_; clear n0_ n1_ n2_; (try clear hb); (try clear hb2); (try clear hk); (try clear hi)))
                          go_ret
                          exact ⟨by first | rfl | (simp [errW_none, errW_some] <;> rfl) | (simp [*, errW_none, errW_some] <;> rfl), by repeat (first | (with_reducible first | exact HB.out | apply below_alloc | apply pw_below_drewN | apply below_drew1) | exact HB.out)⟩
                · rw [if_neg c36] at H
                  exact absurd H (by simp)
              · rw [if_neg c35] at H
                exact absurd H (by simp)

end Go.Proofs.Ytmkeffpgofjlnaa.Q
