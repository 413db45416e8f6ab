/- The bit operations by which Go's math package takes a float64 apart: on words as numbers. No program in sight. -/
import Derived.Laws.BitsAll
import Derived.Test.YtbmnkfpodkdpeaaFloatPlain
namespace Go.Proofs.Ytbmnkfpodkdpeaa.FP
open Ieee

theorem and_bit63 (r : Nat) (h : r < 9223372036854775808) : r &&& 9223372036854775808 = 0 := by
  apply Nat.eq_of_testBit_eq
  intro i
  rw [Nat.testBit_and, Nat.zero_testBit, show (9223372036854775808 : Nat) = 2 ^ 63 from rfl, Nat.testBit_two_pow]
  by_cases h2 : 63 = i
  · subst h2
    rw [Nat.testBit_lt_two_pow (show r < 2 ^ 63 from h)]; rfl
  · simp [h2]
theorem top_or (r : Nat) (h : r < 9223372036854775808) : 9223372036854775808 + r = 9223372036854775808 ||| r := by
  have := Nat.two_pow_add_eq_or_of_lt (i := 63) (b := r) h 1
  rw [show 2 ^ 63 * 1 = 9223372036854775808 from rfl] at this
  exact this
/-- The sign's weight. -/
def sg (s : Bool) : Nat := if s then 9223372036854775808 else 0
theorem word_sg (s : Bool) (r : Nat) : double.word s r = sg s + r := by
  unfold sg; cases s
  · rw [word_false]; simp
  · rw [word_true]; simp
theorem keep_frac (s : Bool) (r : Nat) (h : r < 9223372036854775808) : double.word s r &&& 9227875636482146303 = sg s + r % 4503599627370496 := by
  have e : (9227875636482146303 : Nat) = 9223372036854775808 ||| 4503599627370495 := by decide
  have low : ∀ x : Nat, x &&& 4503599627370495 = x % 4503599627370496 := fun x => Nat.and_two_pow_sub_one_eq_mod x 52
  rw [e, Nat.and_or_distrib_left, low]
  cases s
  · rw [word_false, and_bit63 r h, Nat.zero_or]; simp [sg]
  · rw [word_true, top_or r h, Nat.and_or_distrib_right, Nat.and_self, and_bit63 r h, Nat.or_zero, ← top_or r h, ← show (9223372036854775808 + r) % 4503599627370496 = r % 4503599627370496 by omega]
    simp only [sg, if_true]
    rw [← top_or _ (by omega)]
theorem put_exp (s : Bool) (f m : Nat) (hf : f < 4503599627370496) (hm : m < 2048) : (sg s + f) ||| (m * 4503599627370496) = sg s + (m * 4503599627370496 + f) := by
  have e1 : m * 4503599627370496 + f = (m * 4503599627370496) ||| f := by
    have := Nat.two_pow_add_eq_or_of_lt (i := 52) (b := f) hf m
    rw [Nat.mul_comm, show (2 : Nat) ^ 52 = 4503599627370496 from rfl] at this
    exact this
  cases s
  · simp only [sg, Bool.false_eq_true, if_false, Nat.zero_add]
    rw [e1, Nat.or_comm]
  · simp only [sg, if_true]
    rw [top_or f (by omega), top_or (m * 4503599627370496 + f) (by omega), e1, Nat.or_assoc, Nat.or_comm f]

/-- The exponent of a word's, put in anew. -/
theorem bits_put (s : Bool) (r m : Nat) (h : r < 9223372036854775808) (hm : m < 2048) : Go.bits .or .u64 (Go.bits .andNot .u64 ((double.word s r : Nat) : Int) 9218868437227405312) ((m : Int) * 4503599627370496) = ((double.word s (m * 4503599627370496 + r % 4503599627370496) : Nat) : Int) := by
  have hw : double.word s r < 18446744073709551616 := by
    rw [word_sg]; unfold sg; split <;> omega
  rw [show (9218868437227405312 : Int) = ((9218868437227405312 : Nat) : Int) from rfl, u64_andNot_nat _ _ hw (by omega), show 18446744073709551615 - 9218868437227405312 = 9227875636482146303 from rfl, keep_frac s r h]
  rw [show ((m : Int) * 4503599627370496) = ((m * 4503599627370496 : Nat) : Int) by omega, u64_or_nat _ _ (by unfold sg; split <;> omega) (by omega), put_exp s _ m (by omega) hm, word_sg]

end Go.Proofs.Ytbmnkfpodkdpeaa.FP
