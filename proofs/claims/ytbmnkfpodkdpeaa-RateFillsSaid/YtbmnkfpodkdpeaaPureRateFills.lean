/- A bucket at a later moment: the program's is the document's, for any numbers. -/
import Derived.Test.YtbmnkfpodkdpeaaQLawRateFills
import Derived.Test.YtbmnkfpodkdpeaaRateRefs
namespace Go.Proofs.Ytbmnkfpodkdpeaa.Pure
open Go.RowKit Go.Proofs.Ytbmnkfpodkdpeaa.Q Go.Proofs.YtbmnkfpodkdpeaaW.PrintWords Go.Proofs.YtbmnkfpodkdpeaaW.PrintLast Go.Proofs.Ytbmnkfpodkdpeaa.RF

theorem RateFills (r bu lv a t : Int) : stowagelaw09_RateFills.f 2 r bu lv a t = some true := by
  have h := filled_eq 0 r bu lv a t
  obtain ⟨x, hx⟩ : ∃ x, rate_Fill.f r bu lv a t = some x := by
    by_cases h : Sound r bu lv a
    case neg => exact ⟨_, fill_bad _ _ _ _ _ h⟩
    by_cases ht : t < a ∨ t > 1099511627776
    · exact ⟨_, fill_arg _ _ _ _ _ h ht⟩
    · exact ⟨_, fill_ok _ _ _ _ _ h (by omega) (by omega)⟩
  unfold stowagelaw09_RateFills.f
  rw [h, hx, awake_eq]
  simp

theorem fills_walk (r bu lv a t : Int) (w : World) (_ : (Lit.int .i64 t).wf = true) :
    Calls Try.prog 5 #[.agg #[.int .i64 r, .int .i64 bu, .int .i64 lv, .int .i64 a], .int .i64 t] w fun e w' => e = .returned (.bool true) ∧ Below w.heap.size w w' :=
  stowagelaw09_RateFills.calls 2 r bu lv a t true w (RateFills r bu lv a t)

end Go.Proofs.Ytbmnkfpodkdpeaa.Pure
