/- A full bucket: the program's is the document's, for any numbers. -/
import Derived.Test.YtbmnkfpodkdpeaaQLawRateNews
import Derived.Test.YtbmnkfpodkdpeaaRateFns
namespace Go.Proofs.Ytbmnkfpodkdpeaa.Pure
open Go.RowKit Go.Proofs.Ytbmnkfpodkdpeaa.Q Go.Proofs.YtbmnkfpodkdpeaaW.PrintWords Go.Proofs.YtbmnkfpodkdpeaaW.PrintLast Go.Proofs.Ytbmnkfpodkdpeaa.RF

theorem news_eq (r bu t : Int) : rate_New.f r bu t = stowageref09_New.f r bu t := by
  obtain ⟨b, hb, hi⟩ := sound_f r bu 0 t
  unfold rate_New.f stowageref09_New.f
  rw [hb, Option.bind_some]
  by_cases h : Sound r bu 0 t
  · obtain ⟨r0, r1, b0, b1, l0, l1, a0, a1⟩ := h
    rw [if_pos (hi.2 ⟨r0, r1, b0, b1, l0, l1, a0, a1⟩), if_neg (by omega), if_neg (by omega), if_neg (by omega), if_neg (by omega), if_neg (by omega), if_neg (by omega)]
  · rw [if_neg (fun e => h (hi.1 e))]
    by_cases h1 : r < 0
    · rw [if_pos h1]
    rw [if_neg h1]
    by_cases h2 : r > 4294967296
    · rw [if_pos h2]
    rw [if_neg h2]
    by_cases h3 : bu < 1
    · rw [if_pos h3]
    rw [if_neg h3]
    by_cases h4 : bu > 64
    · rw [if_pos h4]
    rw [if_neg h4]
    by_cases h5 : t < 0
    · rw [if_pos h5]
    rw [if_neg h5]
    by_cases h6 : t > 1099511627776
    · rw [if_pos h6]
    exact absurd ⟨by omega, by omega, by omega, by omega, by omega, by omega, by omega, by omega⟩ h

theorem RateNews : stowagelaw09_RateNews.Pure := by
  intro r bu t hr hb ht
  obtain ⟨x, hx⟩ : ∃ x, rate_New.f r bu t = some x := by
    obtain ⟨b, hb, hi⟩ := sound_f r bu 0 t
    unfold rate_New.f
    rw [hb, Option.bind_some]
    split
    · exact ⟨_, rfl⟩
    · exact ⟨_, rfl⟩
  unfold stowagelaw09_RateNews.f
  rw [← news_eq, hx, awake_eq]
  simp

end Go.Proofs.Ytbmnkfpodkdpeaa.Pure
