/- All that Ready can answer: in numbers alone. -/
import Derived.Test.YtbmnkfpodkdpeaaRateFns
namespace Go.Proofs.Ytbmnkfpodkdpeaa.RF
open Go.RowKit Go.Proofs.Ytbmnkfpodkdpeaa.Q Go.Proofs.YtbmnkfpodkdpeaaW.PrintWords Go.Proofs.YtbmnkfpodkdpeaaW.PrintLast

theorem ready_cases (r bu lv a n t : Int) :
    (¬ Sound r bu lv a ∧ rate_Ready.f r bu lv a n t = some (0, 2)) ∨
    (Sound r bu lv a ∧ (t < a ∨ t > 1099511627776) ∧ rate_Ready.f r bu lv a n t = some (0, 1)) ∨
    (Sound r bu lv a ∧ a ≤ t ∧ t ≤ 1099511627776 ∧ (n < 0 ∨ n > bu) ∧ rate_Ready.f r bu lv a n t = some (0, 7)) ∨
    (Sound r bu lv a ∧ a ≤ t ∧ t ≤ 1099511627776 ∧ 0 ≤ n ∧ n ≤ bu ∧ 65536 * n ≤ lev r bu lv (t - a) ∧ rate_Ready.f r bu lv a n t = some (t, 0)) ∨
    (Sound r bu lv a ∧ a ≤ t ∧ t ≤ 1099511627776 ∧ 0 ≤ n ∧ n ≤ bu ∧ lev r bu lv (t - a) < 65536 * n ∧ lev r bu lv (1099511627776 - a) < 65536 * n ∧ rate_Ready.f r bu lv a n t = some (0, 4)) ∨
    (∃ m, Sound r bu lv a ∧ a ≤ t ∧ t ≤ 1099511627776 ∧ 0 ≤ n ∧ n ≤ bu ∧ lev r bu lv (t - a) < 65536 * n ∧ t < m ∧ m ≤ 1099511627776 ∧ 65536 * n ≤ lev r bu lv (m - a) ∧ lev r bu lv (m - 1 - a) < 65536 * n ∧ rate_Ready.f r bu lv a n t = some (m, 0)) := by
  by_cases h : Sound r bu lv a
  case neg =>
    refine .inl ⟨h, ?_⟩
    unfold rate_Ready.f
    rw [fill_bad _ _ _ _ _ h, Option.bind_some, if_neg (by simp)]
  by_cases ht : t < a ∨ t > 1099511627776
  · refine .inr (.inl ⟨h, ht, ?_⟩)
    unfold rate_Ready.f
    rw [fill_arg _ _ _ _ _ h ht, Option.bind_some, if_neg (by simp)]
  have hf := fill_ok r bu lv a t h (by omega) (by omega)
  by_cases hn : n < 0 ∨ n > bu
  · refine .inr (.inr (.inl ⟨h, by omega, by omega, hn, ?_⟩))
    unfold rate_Ready.f
    rw [hf, Option.bind_some, if_pos rfl]
    by_cases h3 : n < 0
    · rw [if_pos h3]
    · rw [if_neg h3, if_pos (by omega)]
  have hb := lev_bound (d := t - a) h.r0 h.l1 (by omega)
  have hb1 := h.b1
  have hl0 := h.l0
  by_cases hl : 65536 * n ≤ lev r bu lv (t - a)
  · refine .inr (.inr (.inr (.inl ⟨h, by omega, by omega, by omega, by omega, hl, ?_⟩)))
    unfold rate_Ready.f
    rw [hf, Option.bind_some, if_pos rfl, if_neg (by omega), if_neg (by omega)]
    dsimp only
    rw [w64 (x := 65536 * n) (by omega) (by omega), w64 (by omega) (by omega), if_pos (by omega)]
  -- the level is not full: it is the sum
  have hL : lev r bu lv (t - a) = lv + r * (t - a) := by
    have : lev r bu lv (t - a) < 65536 * bu := by omega
    unfold lev at this ⊢
    split at this
    · rw [if_pos ‹_›]
    · omega
  have later : ∀ d : Int, t - a ≤ d → (65536 * n ≤ lev r bu lv d ↔ 65536 * n ≤ lv + r * d) := by
    intro d _
    unfold lev
    split <;> omega
  by_cases hr : r = 0
  · subst hr
    refine .inr (.inr (.inr (.inr (.inl ⟨h, by omega, by omega, by omega, by omega, by omega, ?_, ?_⟩))))
    · have e1 : lev 0 bu lv (1099511627776 - a) = lv := by unfold lev; rw [Int.zero_mul, Int.add_zero, if_pos h.l1]
      rw [e1]
      rw [Int.zero_mul] at hL
      omega
    · unfold rate_Ready.f
      rw [hf, Option.bind_some, if_pos rfl, if_neg (by omega), if_neg (by omega)]
      dsimp only
      rw [w64 (x := 65536 * n) (by omega) (by omega), w64 (by omega) (by omega), if_neg (by omega), if_pos rfl]
  have hr1 : 0 < r := by have := h.r0; omega
  have hr2 := h.r1
  have lack0 : 0 < 65536 * n - lev r bu lv (t - a) := by omega
  obtain ⟨q, hq⟩ : ∃ q, q = (65536 * n - lev r bu lv (t - a) + r - 1) / r := ⟨_, rfl⟩
  have q0 : 0 ≤ q := by rw [hq]; exact Int.ediv_nonneg (by omega) (by omega)
  have q1 : q ≤ 65536 * n - lev r bu lv (t - a) + r - 1 := by rw [hq]; exact Int.ediv_le_self _ (by omega)
  -- after d moments more there is enough, just where d is at least q
  have key : ∀ d : Int, q ≤ d ↔ 65536 * n - lev r bu lv (t - a) ≤ r * d := by
    intro d
    rw [hq, ← Int.lt_add_one_iff, Int.ediv_lt_iff_lt_mul hr1, Int.add_mul, Int.one_mul, Int.mul_comm d r]
    omega
  have q2 : 0 < q := by
    rcases Int.lt_or_le 0 q with h5 | h5
    · exact h5
    · have := (key 0).1 h5
      rw [Int.mul_zero] at this
      omega
  have hfin : ∀ d : Int, 0 ≤ d → (65536 * n ≤ lev r bu lv (t + d - a) ↔ q ≤ d) := by
    intro d d0
    rw [later (t + d - a) (by omega), key d, hL, show t + d - a = (t - a) + d by omega, Int.mul_add]
    omega
  have hrun : rate_Ready.f r bu lv a n t = if t + q > 1099511627776 then some (0, 4) else some (t + q, 0) := by
    unfold rate_Ready.f
    rw [hf, Option.bind_some, if_pos rfl, if_neg (by omega), if_neg (by omega)]
    dsimp only
    have h0 := h.a0
    rw [w64 (x := 65536 * n) (by omega) (by omega), w64 (x := 65536 * n - lev r bu lv (t - a)) (by omega) (by omega), if_neg (by omega), if_neg hr, w64 (x := 65536 * n - lev r bu lv (t - a) + r) (by omega) (by omega), w64 (x := 65536 * n - lev r bu lv (t - a) + r - 1) (by omega) (by omega), Int.tdiv_eq_ediv_of_nonneg (by omega), ← hq, w64 (x := q) (by omega) (by omega), w64 (x := t + q) (by omega) (by omega)]
  by_cases hbig : t + q > 1099511627776
  · refine .inr (.inr (.inr (.inr (.inl ⟨h, by omega, by omega, by omega, by omega, by omega, ?_, by rw [hrun, if_pos hbig]⟩))))
    have := hfin (1099511627776 - t) (by omega)
    rw [show t + (1099511627776 - t) - a = 1099511627776 - a by omega] at this
    omega
  · refine .inr (.inr (.inr (.inr (.inr ⟨t + q, h, by omega, by omega, by omega, by omega, by omega, by omega, by omega, (hfin q q0).2 (Int.le_refl _), ?_, by rw [hrun, if_neg hbig]⟩))))
    have := hfin (q - 1) (by omega)
    rw [show t + (q - 1) - a = t + q - 1 - a by omega] at this
    omega

end Go.Proofs.Ytbmnkfpodkdpeaa.RF
