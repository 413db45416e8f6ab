/- Blocks taken out of a bucket: the program's answer is the document's, for any numbers. -/
import Derived.Test.YtbmnkfpodkdpeaaQLawRateTakes
import Derived.Test.YtbmnkfpodkdpeaaRateRefs
namespace Go.Proofs.Ytbmnkfpodkdpeaa.Pure
open Go.RowKit Go.Proofs.Ytbmnkfpodkdpeaa.Q Go.Proofs.YtbmnkfpodkdpeaaW.PrintWords Go.Proofs.YtbmnkfpodkdpeaaW.PrintLast Go.Proofs.Ytbmnkfpodkdpeaa.RF

theorem RateTakes (r bu lv a n t : Int) : stowagelaw09_RateTakes.f 2 r bu lv a n t = some true := by
  have h := reftake_eq 0 r bu lv a n t
  obtain ⟨x, hx⟩ : ∃ x, rate_Take.f 2 r bu lv a n t = some x := by
    rcases take_cases 1 r bu lv a n t with h | h | h | h | h
    · exact ⟨_, h.2⟩
    · exact ⟨_, h.2.2⟩
    · exact ⟨_, h.2.2.2.2⟩
    · exact ⟨_, h.2.2.2.2.2.2⟩
    · exact ⟨_, h.2.2.2.2.2.2⟩
  unfold stowagelaw09_RateTakes.f
  rw [h, hx, awake_eq]
  simp

theorem takes_walk (r bu lv a n t : Int) (w : World) :
    Calls Try.prog 6 #[.agg #[.int .i64 r, .int .i64 bu, .int .i64 lv, .int .i64 a], .int .i64 n, .int .i64 t] w fun e w' => e = .returned (.bool true) ∧ Below w.heap.size w w' :=
  stowagelaw09_RateTakes.calls 2 r bu lv a n t true w (RateTakes r bu lv a n t)

end Go.Proofs.Ytbmnkfpodkdpeaa.Pure
