/- At the moment that is told so many can be taken, and not a moment earlier: for any numbers. -/
import Derived.Test.YtbmnkfpodkdpeaaQLawRateWaits
import Derived.Test.YtbmnkfpodkdpeaaRateWhen
namespace Go.Proofs.Ytbmnkfpodkdpeaa.Pure
open Go.RowKit Go.Proofs.Ytbmnkfpodkdpeaa.Q Go.Proofs.YtbmnkfpodkdpeaaW.PrintWords Go.Proofs.YtbmnkfpodkdpeaaW.PrintLast Go.Proofs.Ytbmnkfpodkdpeaa.RF

theorem RateWaits (r bu lv a n t : Int) : stowagelaw09_RateWaits.f 2 r bu lv a n t = some true := by
  unfold stowagelaw09_RateWaits.f
  have bad : stowagelaw09_RateWaits.j0 2 n t 0 true r bu lv a = some true := by
    rw [stowagelaw09_RateWaits.j0, if_pos rfl, awake_eq]; rfl
  rcases ready_cases r bu lv a n t with ⟨h, e⟩ | ⟨h, h1, e⟩ | ⟨h, h1, h2, h3, e⟩ | ⟨h, h1, h2, n0, n1, hl, e⟩ | ⟨h, h1, h2, n0, n1, hl, hnone, e⟩ | ⟨m, h, h1, h2, n0, n1, hl, hm1, hm2, hm3, hm4, e⟩
  · rw [e, Option.bind_some, awake_eq, Option.bind_some, if_pos rfl]; exact bad
  · rw [e, Option.bind_some, awake_eq, Option.bind_some, if_pos rfl]; exact bad
  · rw [e, Option.bind_some, awake_eq, Option.bind_some, if_pos rfl]; exact bad
  · rw [e, Option.bind_some, awake_eq, Option.bind_some, if_pos rfl, stowagelaw09_RateWaits.j0, if_neg (by simp), take_ok _ _ _ _ _ _ _ h h1 h2 n0 n1 hl, Option.bind_some, if_pos rfl]
    rfl
  · rw [e, Option.bind_some, awake_eq, Option.bind_some, if_pos rfl]; exact bad
  · have a0 := h.a0
    rw [e, Option.bind_some, awake_eq, Option.bind_some, if_pos rfl, stowagelaw09_RateWaits.j0, if_neg (by simp), take_ok _ _ _ _ _ _ _ h (by omega) hm2 n0 n1 hm3, Option.bind_some]
    dsimp only
    rw [if_neg (by omega), w64 (x := m - 1) (by omega) (by omega), take_wait _ _ _ _ _ _ _ h (by omega) (by omega) n0 n1 hm4, Option.bind_some, if_pos rfl, if_pos rfl, decide_eq_true (by omega)]

theorem waits_walk (r bu lv a n t : Int) (w : World) :
    Calls Try.prog 12 #[.agg #[.int .i64 r, .int .i64 bu, .int .i64 lv, .int .i64 a], .int .i64 n, .int .i64 t] w fun e w' => e = .returned (.bool true) ∧ Below w.heap.size w w' :=
  stowagelaw09_RateWaits.calls 2 r bu lv a n t true w (RateWaits r bu lv a n t)

end Go.Proofs.Ytbmnkfpodkdpeaa.Pure
