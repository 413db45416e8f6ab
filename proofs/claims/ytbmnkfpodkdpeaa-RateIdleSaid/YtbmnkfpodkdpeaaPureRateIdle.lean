/- Without a rate nothing comes; with one a bucket is full in the end: for any numbers. -/
import Derived.Test.YtbmnkfpodkdpeaaQLawRateIdle
import Derived.Test.YtbmnkfpodkdpeaaRateFns
namespace Go.Proofs.Ytbmnkfpodkdpeaa.Pure
open Go.RowKit Go.Proofs.Ytbmnkfpodkdpeaa.Q Go.Proofs.YtbmnkfpodkdpeaaW.PrintWords Go.Proofs.YtbmnkfpodkdpeaaW.PrintLast Go.Proofs.Ytbmnkfpodkdpeaa.RF

theorem RateIdle (r bu lv a t : Int) : stowagelaw09_RateIdle.f 1 r bu lv a t = some true := by
  unfold stowagelaw09_RateIdle.f
  by_cases hs : Sound r bu lv a
  case neg => rw [fill_bad _ _ _ _ _ hs, Option.bind_some, awake_eq, Option.bind_some, if_pos rfl, stowagelaw09_RateIdle.j0, if_pos (by simp), awake_eq]; rfl
  by_cases ht : t < a ∨ t > 1099511627776
  · rw [fill_arg _ _ _ _ _ hs ht, Option.bind_some, awake_eq, Option.bind_some, if_pos rfl, stowagelaw09_RateIdle.j0, if_pos (by simp), awake_eq]; rfl
  rw [fill_ok _ _ _ _ _ hs (by omega) (by omega), Option.bind_some, awake_eq, Option.bind_some, if_pos rfl, stowagelaw09_RateIdle.j0, if_neg (by simp)]
  have hb := lev_bound (d := t - a) hs.r0 hs.l1 (by omega)
  obtain ⟨r0, r1, b0, b1, l0, l1, a0, a1⟩ := hs
  dsimp only
  by_cases hr : r = 0
  · subst hr
    have e : lev 0 bu lv (t - a) = lv := by unfold lev; rw [Int.zero_mul, Int.add_zero, if_pos l1]
    rw [if_pos rfl, e, if_pos rfl]
    simp
  · rw [if_neg hr, w64 (x := t - a) (by omega) (by omega), w64 (x := 65536 * bu) (by omega) (by omega)]
    by_cases hg : t - a ≥ 65536 * bu
    · have e : lev r bu lv (t - a) = 65536 * bu := by
        have := Int.mul_le_mul_of_nonneg_right (show 1 ≤ r by omega) (show 0 ≤ t - a by omega)
        unfold lev
        split <;> omega
      rw [if_pos hg, e]
      simp
    · rw [if_neg hg, if_pos hb.1, if_pos rfl]
      simp

theorem idle_walk (r bu lv a t : Int) (w : World) :
    Calls Try.prog 9 #[.agg #[.int .i64 r, .int .i64 bu, .int .i64 lv, .int .i64 a], .int .i64 t] w fun e w' => e = .returned (.bool true) ∧ Below w.heap.size w w' :=
  stowagelaw09_RateIdle.calls 1 r bu lv a t true w (RateIdle r bu lv a t)

end Go.Proofs.Ytbmnkfpodkdpeaa.Pure
