/- Whatever is asked when, no more is taken than the burst, and the rate times the moments that went by: for any numbers. -/
import Derived.Test.YtbmnkfpodkdpeaaQLawRateBounds
import Derived.Test.YtbmnkfpodkdpeaaRateFns
namespace Go.Proofs.Ytbmnkfpodkdpeaa.Pure
open Go.RowKit Go.Proofs.Ytbmnkfpodkdpeaa.Q Go.Proofs.YtbmnkfpodkdpeaaW.PrintWords Go.Proofs.YtbmnkfpodkdpeaaW.PrintLast Go.Proofs.Ytbmnkfpodkdpeaa.RF

/-- What holds of the bucket and of what was taken: nothing yet, or a sound bucket that is not above what came in. -/
def Inv (first sum r bu lv a : Int) (i : Nat) : Prop :=
  0 ≤ sum ∧ sum ≤ 70 * i ∧ (sum = 0 ∨ (Sound r bu lv a ∧ first ≤ a ∧ 0 ≤ first ∧ 65536 * sum + lv ≤ 65536 * bu + r * (a - first))) ∧ (Sound r bu lv a → 0 ≤ first ∧ first ≤ a ∧ 65536 * sum + lv ≤ 65536 * bu + r * (a - first))

theorem bounds_j4 (first sum r bu lv a : Int) (i : Nat) (hi : i ≤ 200) (h : Inv first sum r bu lv a i) (k : Nat) : stowagelaw09_RateBounds.j4 (k + 2) first sum r bu lv a = some true := by
  obtain ⟨s0, s1, hc, _⟩ := h
  rw [stowagelaw09_RateBounds.j4, awake_eq, Option.bind_some, if_pos rfl, stowagelaw09_RateBounds.j5]
  by_cases hz : sum = 0
  · rw [hz, if_pos (by simp), awake_eq]; rfl
  rw [if_neg (by simpa using hz)]
  rcases hc with hc | ⟨hs, f1, f0, hle⟩
  · exact absurd hc hz
  obtain ⟨r0, r1, b0, b1, l0, l1, a0, a1⟩ := hs
  have e1 : wrap64 (a - first) = a - first := w64 (by omega) (by omega)
  have e2 : wrap64 (65536 * sum) = 65536 * sum := w64 (by omega) (by omega)
  have e3 : wrap64 (65536 * bu) = 65536 * bu := w64 (by omega) (by omega)
  rw [e1, e2, e3]
  have fin : 0 ≤ r * (a - first) → r * (a - first) ≤ 4611686018427387904 → some (decide (65536 * sum ≤ wrap64 (65536 * bu + wrap64 (r * (a - first))))) = some true := by
    intro p0 p1
    rw [w64 (x := r * (a - first)) (by omega) (by omega), w64 (by omega) (by omega), decide_eq_true (by omega)]
  by_cases hr : r > 0
  · rw [if_pos hr]
    by_cases hg : a - first > 1073741824
    · rw [if_pos hg]
    · rw [if_neg hg]
      have p1 := Int.mul_le_mul r1 (show a - first ≤ 1073741824 by omega) (by omega) (by omega)
      exact fin (Int.mul_nonneg r0 (by omega)) (by omega)
  · rw [if_neg hr]
    obtain rfl : r = 0 := by omega
    rw [Int.zero_mul] at fin ⊢
    exact fin (by omega) (by omega)

/-- One round's taking. -/
theorem bounds_step (k : Nat) (first sum r bu lv a n t : Int) (i : Nat) (h : Inv first sum r bu lv a i) (n0 : 0 ≤ n) (n1 : n < 70) :
    (∃ c, c ≠ 0 ∧ rate_Take.f (k + 1) r bu lv a n t = some (0, 0, 0, 0, c) ∧ Inv first sum r bu lv a (i + 1)) ∨
    (∃ lv' a', rate_Take.f (k + 1) r bu lv a n t = some (r, bu, lv', a', 0) ∧ Inv first (sum + n) r bu lv' a' (i + 1)) := by
  obtain ⟨s0, s1, hc, hs'⟩ := h
  have same : Inv first sum r bu lv a (i + 1) := ⟨s0, by omega, hc, hs'⟩
  rcases take_cases k r bu lv a n t with h | h | h | h | h
  · exact .inl ⟨2, by omega, h.2, same⟩
  · exact .inl ⟨1, by omega, h.2.2, same⟩
  · exact .inl ⟨7, by omega, h.2.2.2.2, same⟩
  · exact .inl ⟨12, by omega, h.2.2.2.2.2.2, same⟩
  · obtain ⟨hs, h1, h2, m0, m1, hl, he⟩ := h
    obtain ⟨f0, f1, hle⟩ := hs' hs
    have hb := lev_bound (d := t - a) hs.r0 hs.l1 (by omega)
    have hl0 := hs.l0
    have ha0 := hs.a0
    have g : lev r bu lv (t - a) ≤ lv + r * (t - a) := by unfold lev; split <;> omega
    have e : r * (t - first) = r * (a - first) + r * (t - a) := by rw [← Int.mul_add]; congr 1; omega
    have hs2 : Sound r bu (lev r bu lv (t - a) - 65536 * n) t := ⟨hs.r0, hs.r1, hs.b0, hs.b1, by omega, by omega, by omega, h2⟩
    refine .inr ⟨_, _, he, by omega, by omega, .inr ⟨hs2, by omega, f0, by omega⟩, fun _ => ⟨f0, by omega, by omega⟩⟩

theorem bounds_l0 (asks gaps : List Int) (hm : asks.length ≤ 9223372036854775807) (ha : ∀ i : Nat, i < asks.length → 0 ≤ asks.getD i 0 ∧ asks.getD i 0 ≤ 255) (hg : ∀ i : Nat, i < gaps.length → 0 ≤ gaps.getD i 0 ∧ gaps.getD i 0 ≤ 65535) (first : Int) :
    ∀ (d i : Nat) (sum r bu lv a : Int), i + d = 200 → Inv first sum r bu lv a i → ∃ k, stowagelaw09_RateBounds.l0 k asks gaps first sum (i : Int) r bu lv a = some true
  | 0, i, sum, r, bu, lv, a, hi, h => by
    refine ⟨5, ?_⟩
    have e := bounds_j4 first sum r bu lv a i (by omega) h 1
    rw [stowagelaw09_RateBounds.l0]
    by_cases h1 : (i : Int) < asks.length
    · rw [if_pos h1, decide_eq_false (by omega), stowagelaw09_RateBounds.j1, if_neg (by simp)]; exact e
    · rw [if_neg h1, stowagelaw09_RateBounds.j1, if_neg (by simp)]; exact e
  | d + 1, i, sum, r, bu, lv, a, hi, h => by
    by_cases h1 : (i : Int) < asks.length
    case neg =>
      refine ⟨5, ?_⟩
      rw [stowagelaw09_RateBounds.l0, if_neg h1, stowagelaw09_RateBounds.j1, if_neg (by simp)]
      exact bounds_j4 first sum r bu lv a i (by omega) h 1
    have hv := ha i (by omega)
    -- behind the choice of the moment: for whatever moment
    have j3 : ∀ t : Int, ∃ k, stowagelaw09_RateBounds.j3 k asks gaps first sum (i : Int) t r bu lv a = some true := by
      intro t
      have en : wrap64 (Int.tmod (rd asks (i : Int)) 70) = asks.getD i 0 % 70 := by
        rw [show rd asks (i : Int) = asks.getD i 0 by simp [rd], Int.tmod_eq_emod_of_nonneg hv.1, w64 (by omega) (by omega)]
      have s1 := h.2.1
      have s0 := h.1
      rcases bounds_step 0 first sum r bu lv a (asks.getD i 0 % 70) t i h (by omega) (by omega) with ⟨c, hc, he, hinv⟩ | ⟨lv', a', he, hinv⟩
      · obtain ⟨k, hk⟩ := bounds_l0 asks gaps hm ha hg first d (i + 1) sum r bu lv a (by omega) hinv
        have he' : rate_Take.f (k + 5) r bu lv a (asks.getD i 0 % 70) t = some (0, 0, 0, 0, c) := at_rounds (g := fun k => rate_Take.f k r bu lv a (asks.getD i 0 % 70) t) (rate_Take.mono _ _ _ _ _ _) (by omega) he
        refine ⟨k + 6, ?_⟩
        rw [stowagelaw09_RateBounds.j3, if_pos (by omega), if_pos h1, en, he', Option.bind_some, if_neg hc]
        dsimp only
        by_cases hc2 : c = 2
        · rw [if_pos hc2]; exact bounds_j4 first sum r bu lv a i (by omega) h (k + 3)
        · rw [if_neg hc2, w64 (x := (i : Int) + 1) (by omega) (by omega)]
          have := at_rounds (g := fun k => stowagelaw09_RateBounds.l0 k asks gaps first sum ((i + 1 : Nat) : Int) r bu lv a) (fun k => (stowagelaw09_RateBounds.mono_l k).2.2.1 _ _ _ _ _ _ _ _ _) (show k ≤ k + 5 by omega) hk
          exact_mod_cast this
      · obtain ⟨k, hk⟩ := bounds_l0 asks gaps hm ha hg first d (i + 1) (sum + asks.getD i 0 % 70) r bu lv' a' (by omega) hinv
        have he' : rate_Take.f (k + 5) r bu lv a (asks.getD i 0 % 70) t = some (r, bu, lv', a', 0) := at_rounds (g := fun k => rate_Take.f k r bu lv a (asks.getD i 0 % 70) t) (rate_Take.mono _ _ _ _ _ _) (by omega) he
        refine ⟨k + 6, ?_⟩
        rw [stowagelaw09_RateBounds.j3, if_pos (by omega), if_pos h1, en, he', Option.bind_some, if_pos rfl]
        dsimp only
        rw [w64 (x := sum + asks.getD i 0 % 70) (by omega) (by omega), w64 (x := (i : Int) + 1) (by omega) (by omega)]
        have := at_rounds (g := fun k => stowagelaw09_RateBounds.l0 k asks gaps first (sum + asks.getD i 0 % 70) ((i + 1 : Nat) : Int) r bu lv' a') (fun k => (stowagelaw09_RateBounds.mono_l k).2.2.1 _ _ _ _ _ _ _ _ _) (show k ≤ k + 5 by omega) hk
        exact_mod_cast this
    have j2no : ∃ k, stowagelaw09_RateBounds.j2 k asks gaps first sum (i : Int) a false r bu lv a = some true := by
      obtain ⟨k, hk⟩ := j3 a
      exact ⟨k + 1, by rw [stowagelaw09_RateBounds.j2, if_neg (by simp)]; exact hk⟩
    obtain ⟨k, hk⟩ : ∃ k, stowagelaw09_RateBounds.j1 k asks gaps first sum (i : Int) true r bu lv a = some true := by
      by_cases h2 : (i : Int) < gaps.length
      · by_cases h3 : a < 1099511557776
        · obtain ⟨k, hk⟩ := j3 (wrap64 (a + wrap64 (rd gaps (i : Int))))
          exact ⟨k + 2, by rw [stowagelaw09_RateBounds.j1, if_pos rfl, if_pos h2, decide_eq_true h3, stowagelaw09_RateBounds.j2, if_pos rfl, if_pos (by omega), if_pos h2]; exact hk⟩
        · obtain ⟨k, hk⟩ := j2no
          exact ⟨k + 1, by rw [stowagelaw09_RateBounds.j1, if_pos rfl, if_pos h2, decide_eq_false h3]; exact hk⟩
      · obtain ⟨k, hk⟩ := j2no
        exact ⟨k + 1, by rw [stowagelaw09_RateBounds.j1, if_pos rfl, if_neg h2]; exact hk⟩
    refine ⟨k + 1, ?_⟩
    rw [stowagelaw09_RateBounds.l0, if_pos h1, decide_eq_true (by omega)]
    exact hk

theorem RateBounds (r bu lv a : Int) (asks gaps : List Int) (hm : asks.length ≤ maxLen) (ha : ∀ x ∈ asks, (Lit.int .u8 x).wf = true) (hg : ∀ x ∈ gaps, (Lit.int .u16 x).wf = true) : ∃ k, stowagelaw09_RateBounds.f k r bu lv a asks gaps = some true := by
  have at_mem : ∀ (l : List Int) (i : Nat), i < l.length → l.getD i 0 ∈ l := by
    intro l i hi
    rw [List.getD_eq_getElem?_getD, List.getElem?_eq_getElem hi]; exact List.getElem_mem hi
  refine bounds_l0 asks gaps (by unfold maxLen at hm; omega) (fun i hi => wf_u8 (ha _ (at_mem _ _ hi))) (fun i hi => wf_u16 (hg _ (at_mem _ _ hi))) a 200 0 0 r bu lv a (by omega) ⟨by omega, by omega, .inl rfl, fun hs => ⟨hs.a0, by omega, ?_⟩⟩
  have := hs.l1
  rw [Int.sub_self, Int.mul_zero]
  omega

theorem bounds_walk (r bu lv a : Int) (asks gaps : List Int) (A1 A2 : Option Addr) (c1 c2 : Nat) (w : World) (hm : asks.length ≤ maxLen) (ha : ∀ x ∈ asks, (Lit.int .u8 x).wf = true) (hg : ∀ x ∈ gaps, (Lit.int .u16 x).wf = true)
    (hr1 : Kd.C (Kd.int .u8) w A1 asks.length asks) (hc1 : asks.length ≤ c1) (hr2 : Kd.C (Kd.int .u16) w A2 gaps.length gaps) (hc2 : gaps.length ≤ c2) :
    Calls Try.prog 8 #[.agg #[.int .i64 r, .int .i64 bu, .int .i64 lv, .int .i64 a], .slice A1 asks.length c1, .slice A2 gaps.length c2] w fun e w' => e = .returned (.bool true) ∧ Below w.heap.size w w' := by
  obtain ⟨k, hk⟩ := RateBounds r bu lv a asks gaps hm ha hg
  exact stowagelaw09_RateBounds.calls k r bu lv a _ _ asks _ _ gaps true w hr1 hc1 hr2 hc2 hk

end Go.Proofs.Ytbmnkfpodkdpeaa.Pure
