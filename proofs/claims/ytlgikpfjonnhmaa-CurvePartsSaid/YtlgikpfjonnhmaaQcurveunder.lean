/- The contract of curve_under, proved by hand. -/
import Derived.Test.YtlgikpfjonnhmaaQ0
import Derived.Test.YtlgikpfjonnhmaaQbitsMul64
namespace Go.Proofs.Ytlgikpfjonnhmaa.Q
open Go.RowKit Go.Proofs.YtlgikpfjonnhmaaW.PrintWords Go.Proofs.YtlgikpfjonnhmaaW.PrintLast Go.Proofs.YtlgikpfjonnhmaaW.PrintMore
attribute [local go_sem] max2_int min2_int max_two min_two max_three min_three max_four min_four   -- for this text's walks alone
set_option linter.unusedVariables false
set_option linter.unusedSimpArgs false

/-! ### curve_under: function 26 -/
def curve_under.f (l0 : List Int) (a1 : Int) (a2 : Int) (a3 : Int) : Option (Bool) := if 0 ≤ a2 then (if a2 < (l0.length : Int) then (if 0 ≤ a1 then (if a1 < (l0.length : Int) then ((bits_Mul64.f (IntKind.u64.wrap (wrap64 ((rd l0 a2) - (rd l0 a1)))) (IntKind.u64.wrap (wrap64 (a3 - a1)))).bind fun bt112 => (if 0 ≤ a3 then (if a3 < (l0.length : Int) then ((bits_Mul64.f (IntKind.u64.wrap (wrap64 ((rd l0 a3) - (rd l0 a1)))) (IntKind.u64.wrap (wrap64 (a2 - a1)))).bind fun bt116 => (if bt112.1 < bt116.1 then (some true) else (if bt112.1 = bt116.1 then (some (decide (bt112.2 ≤ bt116.2))) else (some false)))) else (none)) else (none))) else (none)) else (none)) else (none)) else (none)
theorem quiet_add {P : Program} {f : FuncId} {args : Array Value} {w : World} {a n : Nat} {v : Value}
    (h : Calls P f args (w.drewN (a + n)) fun e w' => e = .returned v ∧ ∃ m, w' = (w.drewN (a + n)).drewN m) :
    Calls P f args (w.drewN (a + n)) fun e w'' => e = .returned v ∧ ∃ m, w'' = w.drewN (a + m) :=
  h.mono fun _ _ ⟨he, m, hm⟩ => ⟨he, n + m, by rw [hm, World.drewN_drewN, Nat.add_assoc]⟩
set_option maxHeartbeats 1000000 in
set_option maxRecDepth 100000 in
theorem curve_under.calls (A0 : Option Addr) (c0 : Nat) (l0 : List Int) (a1 : Int) (a2 : Int) (a3 : Int) (r : Bool) (w : World) (hr0 : Kd.C (Kd.int .i64) w A0 l0.length l0) (hc0 : l0.length ≤ c0) (h : curve_under.f l0 a1 a2 a3 = some r) :
    Calls Try.prog 26 #[.slice A0 l0.length c0, .int .i64 a1, .int .i64 a2, .int .i64 a3] w fun e w' => e = .returned (.bool r) ∧ Drawn0 w w' := by
  have HR0 := Aside0.mk hr0
  have HC0 := Aside0.mk hc0
  clear hr0 hc0
  have H := h
  clear h
  unfold curve_under.f at H
  by_cases c5 : 0 ≤ a2
  rotate_left
  · rw [if_neg c5] at H; cases H
  rw [if_pos c5] at H
  by_cases c6 : a2 < (l0.length : Int)
  rotate_left
  · rw [if_neg c6] at H; cases H
  rw [if_pos c6] at H
  by_cases c7 : 0 ≤ a1
  rotate_left
  · rw [if_neg c7] at H; cases H
  rw [if_pos c7] at H
  by_cases c8 : a1 < (l0.length : Int)
  rotate_left
  · rw [if_neg c8] at H; cases H
  rw [if_pos c8] at H
  obtain ⟨⟨t112, t113⟩, A90, H1⟩ := Option.bind_eq_some_iff.mp H
  clear H
  replace H := H1
  clear H1
  have A9 := Aside0.mk A90
  clear A90
  by_cases c10 : 0 ≤ a3
  rotate_left
  · rw [if_neg c10] at H; cases H
  rw [if_pos c10] at H
  by_cases c11 : a3 < (l0.length : Int)
  rotate_left
  · rw [if_neg c11] at H; cases H
  rw [if_pos c11] at H
  obtain ⟨⟨t116, t117⟩, A120, H1⟩ := Option.bind_eq_some_iff.mp H
  clear H
  replace H := H1
  clear H1
  have A12 := Aside0.mk A120
  clear A120
  have A13 := Aside0.mk H
  clear H
  obtain ⟨ad, rfl, hx2⟩ := Kd.at_int HR0.out a2 c5 c6
  obtain ⟨ad1, e111, hx1⟩ := Kd.at_int HR0.out a1 c7 c8
  obtain rfl : ad = ad1 := (by injection e111)
  obtain ⟨ad2, e112, hx3⟩ := Kd.at_int HR0.out a3 c10 c11
  obtain rfl : ad = ad2 := (by injection e112)
  clear e111 e112
  replace c5 := eq_true c5
  replace c6 := eq_true c6
  replace c7 := eq_true c7
  replace c8 := eq_true c8
  replace c10 := eq_true c10
  replace c11 := eq_true c11
  go_enter Try.func26, Try.ntmps26
  go_wp2
  go_quiet ((go_at_call 29; exact Calls.quiet_of ((bits_Mul64.calls _ _ t112 t113 _ A9.out).mono (fun _ _ h => ⟨h.1, h.2.out⟩))))
  go_wp2
  go_quiet ((go_at_call 29; exact quiet_add ((bits_Mul64.calls _ _ t116 t117 _ (by simp only [i64_w]; exact A12.out)).mono (fun _ _ h => ⟨h.1, h.2.out⟩))))
  go_wp2
  all_goals
    have A := A13.out
    first
      | rw [if_pos ‹t112 < t116›] at A
      | rw [if_neg (by omega), if_pos ‹t112 = t116›] at A
      | rw [if_neg (by omega), if_neg ‹¬ t112 = t116›] at A
    obtain rfl := Option.some.inj A
    go_ret
    exact ⟨by first | rfl | (simp; done) | (simp [*]; done) | (congr 2; simp; omega), ⟨_, rfl⟩⟩

end Go.Proofs.Ytlgikpfjonnhmaa.Q
