/- A bucket that is filled twice is filled as at once, for any numbers. -/
import Derived.Test.YtbmnkfpodkdpeaaQLawRateSteps
import Derived.Test.YtbmnkfpodkdpeaaRateFns
namespace Go.Proofs.Ytbmnkfpodkdpeaa.Pure
open Go.RowKit Go.Proofs.Ytbmnkfpodkdpeaa.Q Go.Proofs.YtbmnkfpodkdpeaaW.PrintWords Go.Proofs.YtbmnkfpodkdpeaaW.PrintLast Go.Proofs.Ytbmnkfpodkdpeaa.RF

theorem lev_add {r bu lv d e : Int} (r0 : 0 ≤ r) (d0 : 0 ≤ d) (e0 : 0 ≤ e) : lev r bu (lev r bu lv d) e = lev r bu lv (d + e) := by
  have h1 := Int.mul_nonneg r0 d0
  have h2 := Int.mul_nonneg r0 e0
  unfold lev
  rw [Int.mul_add]
  split <;> split <;> split <;> omega

theorem steps_le (r bu lv a x y : Int) (h : x ≤ y) : stowagelaw09_RateSteps.j0 2 x y r bu lv a = some true := by
  rw [stowagelaw09_RateSteps.j0]
  by_cases hs : Sound r bu lv a
  case neg => rw [fill_bad _ _ _ _ _ hs, Option.bind_some, awake_eq, Option.bind_some, if_pos rfl, stowagelaw09_RateSteps.j1, if_pos (by simp), awake_eq]; rfl
  by_cases ht : x < a ∨ x > 1099511627776
  · rw [fill_arg _ _ _ _ _ hs ht, Option.bind_some, awake_eq, Option.bind_some, if_pos rfl, stowagelaw09_RateSteps.j1, if_pos (by simp), awake_eq]; rfl
  rw [fill_ok _ _ _ _ _ hs (by omega) (by omega), Option.bind_some, awake_eq, Option.bind_some, if_pos rfl, stowagelaw09_RateSteps.j1, if_neg (by simp)]
  have hb := lev_bound (d := x - a) hs.r0 hs.l1 (by omega)
  have hs' : Sound r bu (lev r bu lv (x - a)) x := ⟨hs.r0, hs.r1, hs.b0, hs.b1, by have := hs.l0; omega, hb.2, by have := hs.a0; omega, by omega⟩
  dsimp only
  by_cases hy : y > 1099511627776
  · rw [fill_arg _ _ _ _ _ hs' (.inr hy), fill_arg _ _ _ _ _ hs (.inr hy)]
    simp
  · rw [fill_ok _ _ _ _ _ hs' (by omega) (by omega), fill_ok _ _ _ _ _ hs (by omega) (by omega)]
    have e := lev_add (r := r) (bu := bu) (lv := lv) (d := x - a) (e := y - x) hs.r0 (by omega) (by omega)
    rw [e, show x - a + (y - x) = y - a by omega]
    simp

theorem RateSteps (r bu lv a x y : Int) : stowagelaw09_RateSteps.f 2 r bu lv a x y = some true := by
  unfold stowagelaw09_RateSteps.f
  by_cases h : x > y
  · rw [if_pos h]; exact steps_le r bu lv a y x (by omega)
  · rw [if_neg h]; exact steps_le r bu lv a x y (by omega)

theorem steps_walk (r bu lv a x y : Int) (w : World) :
    Calls Try.prog 7 #[.agg #[.int .i64 r, .int .i64 bu, .int .i64 lv, .int .i64 a], .int .i64 x, .int .i64 y] w fun e w' => e = .returned (.bool true) ∧ Below w.heap.size w w' :=
  stowagelaw09_RateSteps.calls 2 r bu lv a x y true w (RateSteps r bu lv a x y)

end Go.Proofs.Ytbmnkfpodkdpeaa.Pure
