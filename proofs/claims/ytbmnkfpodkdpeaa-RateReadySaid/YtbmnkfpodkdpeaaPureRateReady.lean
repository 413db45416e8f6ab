/- The first moment at which any number can be taken: the program's answer is the document's, for any numbers. -/
import Derived.Test.YtbmnkfpodkdpeaaQLawRateReady
import Derived.Test.YtbmnkfpodkdpeaaRateRefs
import Derived.Test.YtbmnkfpodkdpeaaRateWhen
namespace Go.Proofs.Ytbmnkfpodkdpeaa.Pure
open Go.RowKit Go.Proofs.Ytbmnkfpodkdpeaa.Q Go.Proofs.YtbmnkfpodkdpeaaW.PrintWords Go.Proofs.YtbmnkfpodkdpeaaW.PrintLast Go.Proofs.Ytbmnkfpodkdpeaa.RF

/-- The search by halves: it ends at the first moment. -/
theorem search (r bu lv a n m : Int) (hs : Sound r bu lv a) (n0 : 0 ≤ n) (n1 : n ≤ bu) (hm : 65536 * n ≤ lev r bu lv (m - a)) (hm' : lev r bu lv (m - 1 - a) < 65536 * n) :
    ∀ (d : Nat) (x y : Int), (y - x).toNat ≤ d → a ≤ x → x < m → m ≤ y → y ≤ 1099511627776 → ∃ k, stowageref09_Ready.l0 k n x y r bu lv a = some (m, 0)
  | 0, x, y, hd, hx, h1, h2, h3 => by omega
  | d + 1, x, y, hd, hx, h1, h2, h3 => by
    have a0 := hs.a0
    by_cases h4 : y - x > 1
    · have hq : wrap64 (x + wrap64 (Int.tdiv (wrap64 (y - x)) 2)) = x + (y - x) / 2 := by
        rw [w64 (x := y - x) (by omega) (by omega), Int.tdiv_eq_ediv_of_nonneg (by omega), w64 (x := (y - x) / 2) (by omega) (by omega), w64 (by omega) (by omega)]
      have q1 : x < x + (y - x) / 2 := by omega
      have q2 : x + (y - x) / 2 < y := by omega
      generalize hz : x + (y - x) / 2 = z at *
      by_cases h5 : 65536 * n ≤ lev r bu lv (z - a)
      · have h6 : m ≤ z := by
          rcases Int.lt_or_le z m with h7 | h7
          · have := lev_mono (bu := bu) (lv := lv) hs.r0 (show z - a ≤ m - 1 - a by omega)
            omega
          · exact h7
        obtain ⟨k, hk⟩ := search r bu lv a n m hs n0 n1 hm hm' d x z (by omega) hx h1 h6 (by omega)
        refine ⟨k + 3, ?_⟩
        rw [stowageref09_Ready.l0, w64 (x := y - x) (by omega) (by omega), if_pos h4, ← w64 (x := y - x) (by omega) (by omega), hq, reftake_eq, take_ok _ r bu lv a n z hs (by omega) (by omega) n0 n1 h5, Option.bind_some, if_pos rfl]
        exact at_rounds (g := fun k => stowageref09_Ready.l0 k n x z r bu lv a) (fun k => stowageref09_Ready.mono_l k _ _ _ _ _ _ _) (by omega) hk
      · have h6 : z < m := by
          rcases Int.lt_or_le z m with h7 | h7
          · exact h7
          · have := lev_mono (bu := bu) (lv := lv) hs.r0 (show m - a ≤ z - a by omega)
            omega
        obtain ⟨k, hk⟩ := search r bu lv a n m hs n0 n1 hm hm' d z y (by omega) (by omega) h6 h2 h3
        refine ⟨k + 3, ?_⟩
        rw [stowageref09_Ready.l0, w64 (x := y - x) (by omega) (by omega), if_pos h4, ← w64 (x := y - x) (by omega) (by omega), hq, reftake_eq, take_wait _ r bu lv a n z hs (by omega) (by omega) n0 n1 (by omega), Option.bind_some, if_neg (by simp)]
        exact at_rounds (g := fun k => stowageref09_Ready.l0 k n z y r bu lv a) (fun k => stowageref09_Ready.mono_l k _ _ _ _ _ _ _) (by omega) hk
    · refine ⟨1, ?_⟩
      rw [stowageref09_Ready.l0, w64 (x := y - x) (by omega) (by omega), if_neg h4]
      rw [show y = m by omega]

theorem refready_eq (r bu lv a n t : Int) : ∃ k, stowageref09_Ready.f k r bu lv a n t = rate_Ready.f r bu lv a n t := by
  rcases ready_cases r bu lv a n t with ⟨h, e⟩ | ⟨h, h1, e⟩ | ⟨h, h1, h2, h3, e⟩ | ⟨h, h1, h2, n0, n1, hl, e⟩ | ⟨h, h1, h2, n0, n1, hl, hnone, e⟩ | ⟨m, h, h1, h2, n0, n1, hl, hm1, hm2, hm3, hm4, e⟩
  · refine ⟨2, ?_⟩
    unfold stowageref09_Ready.f
    rw [e, reftake_eq, take_err _ _ _ _ _ _ _ _ (by omega) (fill_bad _ _ _ _ _ h), Option.bind_some, if_neg (by simp), if_neg (by simp)]
  · refine ⟨2, ?_⟩
    unfold stowageref09_Ready.f
    rw [e, reftake_eq, take_err _ _ _ _ _ _ _ _ (by omega) (fill_arg _ _ _ _ _ h h1), Option.bind_some, if_neg (by simp), if_neg (by simp)]
  · refine ⟨2, ?_⟩
    unfold stowageref09_Ready.f
    rw [e, reftake_eq, take_range _ _ _ _ _ _ _ h h1 h2 h3, Option.bind_some, if_neg (by simp), if_neg (by simp)]
  · refine ⟨2, ?_⟩
    unfold stowageref09_Ready.f
    rw [e, reftake_eq, take_ok _ _ _ _ _ _ _ h h1 h2 n0 n1 hl, Option.bind_some, if_neg (by simp), if_pos rfl]
  · refine ⟨2, ?_⟩
    unfold stowageref09_Ready.f
    rw [e, reftake_eq, take_wait _ _ _ _ _ _ _ h h1 h2 n0 n1 hl, Option.bind_some, if_pos rfl, reftake_eq, take_wait _ _ _ _ _ _ _ h h.a1 (by omega) n0 n1 hnone, Option.bind_some, if_neg (by simp)]
  · obtain ⟨k, hk⟩ := search r bu lv a n m h n0 n1 hm3 hm4 (1099511627776 - t).toNat t 1099511627776 (by omega) h1 hm1 hm2 (by omega)
    have hk' : stowageref09_Ready.l0 (k + 2) n t 1099511627776 r bu lv a = some (m, 0) := at_rounds (g := fun k => stowageref09_Ready.l0 k n t 1099511627776 r bu lv a) (fun k => stowageref09_Ready.mono_l k _ _ _ _ _ _ _) (by omega) hk
    refine ⟨k + 2, ?_⟩
    unfold stowageref09_Ready.f
    have hmono := lev_mono (bu := bu) (lv := lv) h.r0 (show m - a ≤ 1099511627776 - a by omega)
    rw [e, reftake_eq, take_wait _ _ _ _ _ _ _ h h1 h2 n0 n1 hl, Option.bind_some, if_pos rfl, reftake_eq, take_ok _ _ _ _ _ _ _ h h.a1 (by omega) n0 n1 (by omega), Option.bind_some, if_pos rfl]
    exact hk'

theorem RateReady (r bu lv a n t : Int) : ∃ k, stowagelaw09_RateReady.f k r bu lv a n t = some true := by
  obtain ⟨k, hk⟩ := refready_eq r bu lv a n t
  refine ⟨k, ?_⟩
  obtain ⟨x, hx⟩ : ∃ x, rate_Ready.f r bu lv a n t = some x := by
    rcases ready_cases r bu lv a n t with ⟨h, e⟩ | ⟨h, h1, e⟩ | ⟨h, h1, h2, h3, e⟩ | ⟨h, h1, h2, n0, n1, hl, e⟩ | ⟨h, h1, h2, n0, n1, hl, hnone, e⟩ | ⟨m, h, h1, h2, n0, n1, hl, hm1, hm2, hm3, hm4, e⟩ <;> exact ⟨_, e⟩
  unfold stowagelaw09_RateReady.f
  rw [hk, hx, awake_eq]
  simp

theorem ready_walk (r bu lv a n t : Int) (w : World) :
    Calls Try.prog 11 #[.agg #[.int .i64 r, .int .i64 bu, .int .i64 lv, .int .i64 a], .int .i64 n, .int .i64 t] w fun e w' => e = .returned (.bool true) ∧ Below w.heap.size w w' := by
  obtain ⟨k, hk⟩ := RateReady r bu lv a n t
  exact stowagelaw09_RateReady.calls k r bu lv a n t true w hk

end Go.Proofs.Ytbmnkfpodkdpeaa.Pure
