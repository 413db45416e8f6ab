/- What the document's reference for rates comes to: in numbers alone. -/
import Derived.Test.YtbmnkfpodkdpeaaQstowageref09Filled
import Derived.Test.YtbmnkfpodkdpeaaQstowageref09Take
import Derived.Test.YtbmnkfpodkdpeaaRateFns
namespace Go.Proofs.Ytbmnkfpodkdpeaa.RF
open Go.RowKit Go.Proofs.Ytbmnkfpodkdpeaa.Q Go.Proofs.YtbmnkfpodkdpeaaW.PrintWords Go.Proofs.YtbmnkfpodkdpeaaW.PrintLast

theorem refsound_f (r bu lv a : Int) : stowageref09_Sound.f r bu lv a = rate_sound.f r bu lv a := by
  unfold stowageref09_Sound.f rate_sound.f; rfl

/-- The rate as the reference caps it, for the sum alone. -/
def cap (r bu : Int) : Int := if r > 65536 * bu then 65536 * bu else r
theorem cap_lev {r bu lv d : Int} (r0 : 0 ≤ r) (b0 : 1 ≤ bu) (l0 : 0 ≤ lv) (l1 : lv ≤ 65536 * bu) (d0 : 0 ≤ d) :
    (if lv + cap r bu * (if d > 65536 * bu then 65536 * bu else d) > 65536 * bu then 65536 * bu else lv + cap r bu * (if d > 65536 * bu then 65536 * bu else d)) = lev r bu lv d := by
  have hp := Int.mul_nonneg r0 d0
  unfold lev cap
  by_cases h1 : r > 65536 * bu
  · rw [if_pos h1]
    by_cases hd : d = 0
    · subst hd
      rw [show (if (0 : Int) > 65536 * bu then 65536 * bu else 0) = 0 from if_neg (by omega), Int.mul_zero, Int.mul_zero, Int.add_zero, if_neg (by omega), if_pos l1]
    · have g1 : 65536 * bu ≤ r * d := by
        have := Int.mul_le_mul (show 65536 * bu ≤ r by omega) (show 1 ≤ d by omega) (by omega) (by omega)
        omega
      have g2 : 65536 * bu ≤ 65536 * bu * (if d > 65536 * bu then 65536 * bu else d) := by
        have := Int.mul_le_mul_of_nonneg_left (show 1 ≤ (if d > 65536 * bu then 65536 * bu else d) by split <;> omega) (show 0 ≤ 65536 * bu by omega)
        omega
      generalize 65536 * bu * (if d > 65536 * bu then 65536 * bu else d) = x at *
      split <;> split <;> omega
  · rw [if_neg h1]
    by_cases h2 : d > 65536 * bu
    · rw [if_pos h2]
      by_cases hr : r = 0
      · subst hr
        rw [Int.zero_mul, Int.zero_mul, Int.add_zero, if_neg (by omega), if_pos l1]
      · have g1 : 65536 * bu ≤ r * (65536 * bu) := by
          have := Int.mul_le_mul_of_nonneg_right (show 1 ≤ r by omega) (show 0 ≤ 65536 * bu by omega)
          omega
        have g2 : r * (65536 * bu) ≤ r * d := Int.mul_le_mul_of_nonneg_left (by omega) r0
        generalize r * (65536 * bu) = x at *
        split <;> split <;> omega
    · rw [if_neg h2]
      split <;> split <;> omega

theorem reffill_bad (k : Nat) (r bu lv a t : Int) (h : ¬ Sound r bu lv a) : stowageref09_Fill.f k r bu lv a t = some (0, 0, 0, 0, 2) := by
  obtain ⟨b, hb, hi⟩ := sound_f r bu lv a
  unfold stowageref09_Fill.f
  rw [refsound_f, hb, Option.bind_some, if_neg (fun e => h (hi.1 e))]
theorem reffill_arg (k : Nat) (r bu lv a t : Int) (h : Sound r bu lv a) (ht : t < a ∨ t > 1099511627776) : stowageref09_Fill.f (k + 1) r bu lv a t = some (0, 0, 0, 0, 1) := by
  obtain ⟨b, hb, hi⟩ := sound_f r bu lv a
  unfold stowageref09_Fill.f
  rw [refsound_f, hb, Option.bind_some, if_pos (hi.2 h)]
  by_cases h1 : t < a
  · rw [if_pos h1, stowageref09_Fill.j0, if_pos rfl]
  · rw [if_neg h1, decide_eq_true (by omega), stowageref09_Fill.j0, if_pos rfl]
theorem prod_small {x y A B : Int} (x0 : 0 ≤ x) (x1 : x ≤ A) (y0 : 0 ≤ y) (y1 : y ≤ B) (A0 : 0 ≤ A) : 0 ≤ x * y ∧ x * y ≤ A * B :=
  ⟨Int.mul_nonneg x0 y0, Int.mul_le_mul x1 y1 y0 A0⟩
theorem reffill_ok (k : Nat) (r bu lv a t : Int) (h : Sound r bu lv a) (h1 : a ≤ t) (h2 : t ≤ 1099511627776) : stowageref09_Fill.f (k + 2) r bu lv a t = some (cap r bu, bu, lev r bu lv (t - a), t, 0) := by
  obtain ⟨b, hb, hi⟩ := sound_f r bu lv a
  have hcl := cap_lev (d := t - a) h.r0 h.b0 h.l0 h.l1 (by omega)
  obtain ⟨r0, r1, b0, b1, l0, l1, a0, a1⟩ := h
  unfold stowageref09_Fill.f
  rw [refsound_f, hb, Option.bind_some, if_pos (hi.2 ⟨r0, r1, b0, b1, l0, l1, a0, a1⟩), if_neg (by omega), decide_eq_false (by omega), stowageref09_Fill.j0, if_neg (by simp)]
  rw [w64 (x := t - a) (by omega) (by omega), w64 (x := 65536 * bu) (by omega) (by omega)]
  rw [← hcl]
  have j1 : ∀ d : Int, 0 ≤ d → d ≤ 65536 * bu → stowageref09_Fill.j1 (k + 1) t (65536 * bu) d r bu lv a = some (cap r bu, bu, (if lv + cap r bu * d > 65536 * bu then 65536 * bu else lv + cap r bu * d), t, 0) := by
    intro d d0 d1
    rw [stowageref09_Fill.j1]
    unfold cap
    by_cases h3 : r > 65536 * bu
    · have p := prod_small (x := 65536 * bu) (y := d) (A := 4194304) (B := 4194304) (by omega) (by omega) d0 (by omega) (by omega)
      rw [if_pos h3, if_pos h3, w64 (x := 65536 * bu * d) (by omega) (by omega), w64 (by omega) (by omega)]
      split <;> rfl
    · have p := prod_small (x := r) (y := d) (A := 4194304) (B := 4194304) (by omega) (by omega) d0 (by omega) (by omega)
      rw [if_neg h3, if_neg h3, w64 (x := r * d) (by omega) (by omega), w64 (by omega) (by omega)]
      split <;> rfl
  by_cases h3 : t - a > 65536 * bu
  · rw [if_pos h3, if_pos h3, j1 _ (by omega) (by omega)]
  · rw [if_neg h3, if_neg h3, j1 _ (by omega) (by omega)]

theorem filled_eq (k : Nat) (r bu lv a t : Int) : stowageref09_Filled.f (k + 2) r bu lv a t = rate_Fill.f r bu lv a t := by
  unfold stowageref09_Filled.f
  by_cases h : Sound r bu lv a
  case neg => rw [reffill_bad _ _ _ _ _ _ h, fill_bad _ _ _ _ _ h, Option.bind_some, if_neg (by simp)]
  by_cases ht : t < a ∨ t > 1099511627776
  · rw [reffill_arg _ _ _ _ _ _ h ht, fill_arg _ _ _ _ _ h ht, Option.bind_some, if_neg (by simp)]
  · rw [reffill_ok _ _ _ _ _ _ h (by omega) (by omega), fill_ok _ _ _ _ _ h (by omega) (by omega), Option.bind_some, if_pos rfl]

theorem reftake_eq (k : Nat) (r bu lv a n t : Int) : stowageref09_Take.f (k + 2) r bu lv a n t = rate_Take.f (k + 2) r bu lv a n t := by
  unfold stowageref09_Take.f rate_Take.f
  by_cases h : Sound r bu lv a
  case neg => rw [reffill_bad _ _ _ _ _ _ h, fill_bad _ _ _ _ _ h, Option.bind_some, Option.bind_some, if_neg (by simp), if_neg (by simp)]
  by_cases ht : t < a ∨ t > 1099511627776
  · rw [reffill_arg _ _ _ _ _ _ h ht, fill_arg _ _ _ _ _ h ht, Option.bind_some, Option.bind_some, if_neg (by simp), if_neg (by simp)]
  rw [reffill_ok _ _ _ _ _ _ h (by omega) (by omega), fill_ok _ _ _ _ _ h (by omega) (by omega), Option.bind_some, Option.bind_some, if_pos rfl, if_pos rfl]
  by_cases hn : n < 0
  · rw [if_pos hn, if_pos hn, stowageref09_Take.j0, rate_Take.j0, if_pos rfl]
  · rw [if_neg hn, if_neg hn, stowageref09_Take.j0, rate_Take.j0]

end Go.Proofs.Ytbmnkfpodkdpeaa.RF
