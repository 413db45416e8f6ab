/- The curve that the program makes of any histogram is the document's: said of numbers and lists alone. -/
import Derived.Test.YtlgikpfjonnhmaaQLawCurveMakes
import Derived.Test.YtlgikpfjonnhmaaCurveFns
namespace Go.Proofs.Ytlgikpfjonnhmaa.Pure
open Go.RowKit Go.Proofs.Ytlgikpfjonnhmaa.Q Go.Proofs.YtlgikpfjonnhmaaW.PrintWords Go.Proofs.YtlgikpfjonnhmaaW.PrintLast Go.Proofs.Ytlgikpfjonnhmaa.CP Go.Proofs.Ytlgikpfjonnhmaa.FQ

theorem ref_loop (l : List Int) (t : Int) (h0 : 0 ≤ t) (h1 : t ≤ 1048576) (hm : l.length < 4096) : ∀ (d k i : Nat), i + d = l.length → d < k → Counts l i →
    (Counts l l.length → stowageref11_Of.l0 k l t (curveTo l t i) (pre l i) (i : Int) = some (curveTo l t l.length, 0)) ∧
    (¬ Counts l l.length → stowageref11_Of.l0 k l t (curveTo l t i) (pre l i) (i : Int) = some ([], 1))
  | 0, k, i, hi, hk, hc => by
    obtain ⟨k, rfl⟩ : ∃ m, k = m + 1 := ⟨k - 1, by omega⟩
    obtain rfl : i = l.length := by omega
    simp only [stowageref11_Of.l0]
    rw [if_neg (by omega)]
    exact ⟨fun _ => rfl, fun h => absurd hc h⟩
  | d + 1, k, i, hi, hk, hc => by
    obtain ⟨k, rfl⟩ : ∃ m, k = m + 1 := ⟨k - 1, by omega⟩
    simp only [stowageref11_Of.l0]
    rw [if_pos (by omega), if_pos (by omega), rd_nat]
    by_cases c1 : l.getD i 0 < 0
    · rw [if_pos c1]
      exact ⟨fun h => absurd (h i (by omega)) (by omega), fun _ => rfl⟩
    · rw [if_neg c1]
      by_cases c2 : l.getD i 0 > 1048576
      · rw [if_pos c2]
        exact ⟨fun h => absurd (h i (by omega)) (by omega), fun _ => rfl⟩
      · rw [if_neg c2, if_pos (by rw [curveTo_length]; omega)]
        have hc' : Counts l (i + 1) := fun j hj => by
          rcases Nat.lt_or_ge j i with h | h
          · exact hc j h
          · obtain rfl : j = i := by omega
            omega
        have b1 := pre_bound l i (by omega) hc
        have b2 := pre_bound l (i + 1) (by omega) hc'
        have t2 := times_bound h0 h1 b2.1 b2.2 (by omega)
        have es := pre_succ l i (by omega)
        rw [w64 (x := pre l i + l.getD i 0) (by omega) (by omega), ← es, Int.mul_comm (pre l (i + 1)) t, w64 (x := t * pre l (i + 1)) (by omega) (by omega), w64 (x := (i : Int) + 1) (by omega) (by omega), ← curveTo_succ]
        have := ref_loop l t h0 h1 hm d k (i + 1) (by omega) (by omega) hc'
        exact_mod_cast this

theorem ref_of_f (l : List Int) (t : Int) (h : Right l t) (k : Nat) (hk : l.length + 1 < k) : stowageref11_Of.f k l t = some (curveTo l t l.length, 0) := by
  obtain ⟨k, rfl⟩ : ∃ m, k = m + 1 := ⟨k - 1, by omega⟩
  obtain ⟨a1, a2, a3, a4⟩ := h
  unfold stowageref11_Of.f
  rw [if_neg (by omega), if_neg (by omega), decide_eq_false (by omega)]
  simp only [stowageref11_Of.j0]
  have := (ref_loop l t a2 a3 a1 l.length k 0 (by omega) (by omega) (fun i hi => by omega)).1 a4
  have e0 : curveTo l t 0 = [0] := by simp [curveTo, pre]
  have e1 : pre l 0 = 0 := by simp [pre]
  rw [e0, e1] at this
  simpa using this

theorem ref_of_f_bad (l : List Int) (t : Int) (h : ¬ Right l t) (k : Nat) (hk : 4098 < k) : stowageref11_Of.f k l t = some ([], 1) := by
  obtain ⟨k, rfl⟩ : ∃ m, k = m + 1 := ⟨k - 1, by omega⟩
  unfold stowageref11_Of.f
  by_cases c1 : (l.length : Int) ≥ 4096
  · rw [if_pos c1]; simp [stowageref11_Of.j0]
  · rw [if_neg c1]
    by_cases c2 : t < 0
    · rw [if_pos c2]; simp [stowageref11_Of.j0]
    · rw [if_neg c2]
      by_cases c3 : t > 1048576
      · rw [decide_eq_true c3]; simp [stowageref11_Of.j0]
      · rw [decide_eq_false c3]
        simp only [stowageref11_Of.j0]
        have := (ref_loop l t (by omega) (by omega) (by omega) l.length k 0 (by omega) (by omega) (fun i hi => by omega)).2 (fun h4 => h ⟨by omega, by omega, by omega, h4⟩)
        have e0 : curveTo l t 0 = [0] := by simp [curveTo, pre]
        have e1 : pre l 0 = 0 := by simp [pre]
        rw [e0, e1] at this
        simpa using this

theorem same_loop (l : List Int) (hm : l.length ≤ 9223372036854775807) : ∀ (d k i : Nat), i + d = l.length → d < k → stowageref01_SameInts.l0 k l l (i : Int) = some true
  | 0, k, i, hi, hk => by
    obtain ⟨k, rfl⟩ : ∃ m, k = m + 1 := ⟨k - 1, by omega⟩
    simp only [stowageref01_SameInts.l0]
    rw [if_neg (by omega)]
  | d + 1, k, i, hi, hk => by
    obtain ⟨k, rfl⟩ : ∃ m, k = m + 1 := ⟨k - 1, by omega⟩
    simp only [stowageref01_SameInts.l0]
    rw [if_pos (by omega), if_pos (by omega), if_pos (by omega), if_pos trivial, w64 (by omega) (by omega)]
    have := same_loop l hm d k (i + 1) (by omega) (by omega)
    exact_mod_cast this
theorem same_f (l : List Int) (hm : l.length ≤ 9223372036854775807) (k : Nat) (hk : l.length < k) : stowageref01_SameInts.f k l l = some true := by
  unfold stowageref01_SameInts.f
  rw [if_pos rfl]
  exact_mod_cast same_loop l hm l.length k 0 (by omega) hk

theorem CurveMakes : stowagelaw11_CurveMakes.Pure := by
  intro l t hm hs hw ht
  refine ⟨5000, ?_⟩
  unfold stowagelaw11_CurveMakes.f
  by_cases h : Right l t
  · have h1 := h.1
    rw [of_f l t h 5000 (by omega), ref_of_f l t h 5000 (by omega)]
    simp only [Option.bind_some]
    rw [awake_at 5000 (by omega)]
    simp only [Option.bind_some, if_true]
    rw [same_f _ (by rw [curveTo_length]; omega) 5000 (by rw [curveTo_length]; omega)]
    rfl
  · rw [of_f_bad l t h 5000 (by omega), ref_of_f_bad l t h 5000 (by omega)]
    simp only [Option.bind_some]
    rw [awake_at 5000 (by omega)]
    simp only [Option.bind_some, if_true]
    rw [same_f _ (by simp) 5000 (by simp)]
    rfl

end Go.Proofs.Ytlgikpfjonnhmaa.Pure
