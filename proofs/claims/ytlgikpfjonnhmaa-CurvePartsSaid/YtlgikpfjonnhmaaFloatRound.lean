/- What the nearest word of a number is, between the midpoints beside it; the same of a quotient; and that both rise with the number. No program in sight. -/
import Derived.Test.YtlgikpfjonnhmaaFloatPlain
import Derived.Laws.FloatArith
namespace Go.Proofs.Ytlgikpfjonnhmaa.FP
open Ieee

/-- r is the nearest word of X / Y, in units of the least place; between two, the even one. -/
def Rnd (X Y r : Nat) : Prop :=
  2 * X ≤ (V r + V (r + 1)) * Y ∧ (2 * X = (V r + V (r + 1)) * Y → r % 2 = 0) ∧
  ∀ t, t + 1 = r → (V t + V r) * Y ≤ 2 * X ∧ ((V t + V r) * Y = 2 * X → r % 2 = 0)

theorem rnd_mono {X1 X2 Y r1 r2 : Nat} (hY : 0 < Y) (h1 : Rnd X1 Y r1) (h2 : Rnd X2 Y r2) (h : X1 ≤ X2) : r1 ≤ r2 := by
  rcases Nat.lt_or_ge r2 r1 with hlt | hge
  · exfalso
    obtain ⟨t, ht⟩ : ∃ t, t + 1 = r1 := ⟨r1 - 1, by omega⟩
    obtain ⟨g1, g2⟩ := h1.2.2 t ht
    obtain ⟨g3, g4, _⟩ := h2
    rcases Nat.lt_or_ge r2 t with h5 | h5
    · have a1 := V_lt h5
      have a2 := V_le (show r2 + 1 ≤ r1 by omega)
      have a3 : (V r2 + V (r2 + 1)) * Y < (V t + V r1) * Y := (Nat.mul_lt_mul_right hY).2 (by omega)
      omega
    · obtain rfl : r2 = t := by omega
      subst ht
      have e1 := g2 (by omega)
      have e2 := g4 (by omega)
      omega
  · exact hge

theorem cut_even (m s : Nat) (hs : s ≤ m.log2 + 2) : ∃ k, Toward.even.cut false m s = k ∧ 2 * m ≤ (2 * k + 1) * 2 ^ s ∧ (2 * m = (2 * k + 1) * 2 ^ s → k % 2 = 0) ∧ 2 * k * 2 ^ s ≤ 2 * m + 2 ^ s ∧ (2 * k * 2 ^ s = 2 * m + 2 ^ s → k % 2 = 0) ∧ m / 2 ^ s ≤ k ∧ k ≤ m / 2 ^ s + 1 := by
  refine ⟨_, rfl, ?_⟩
  unfold Toward.cut
  simp only [Nat.min_eq_left hs, Nat.shiftLeft_eq, Nat.one_mul]
  have hp := Nat.two_pow_pos s
  generalize 2 ^ s = p at *
  have hd := Nat.div_add_mod m p
  have ht := Nat.mod_lt m hp
  generalize m % p = t at *
  generalize m / p = q at *
  have e : ∀ x : Nat, x * p = p * x := fun x => Nat.mul_comm x p
  have e1 : (2 * q + 1) * p = 2 * (p * q) + p := by grind
  have e2 : (2 * (q + 1) + 1) * p = 2 * (p * q) + 3 * p := by grind
  have e3 : 2 * q * p = 2 * (p * q) := by grind
  have e4 : 2 * (q + 1) * p = 2 * (p * q) + 2 * p := by grind
  generalize p * q = z at *
  by_cases c1 : p < 2 * t
  · have d1 : decide (p < 2 * t) = true := decide_eq_true c1
    rw [d1]
    simp only [Bool.true_or, Bool.toNat_true]
    rw [e2, e4]
    omega
  · have d1 : decide (p < 2 * t) = false := decide_eq_false c1
    rw [d1]
    simp only [Bool.false_or]
    by_cases c2 : p = 2 * t
    · have d2 : (p == 2 * t) = true := beq_iff_eq.2 c2
      rw [d2]
      simp only [Bool.true_and]
      by_cases c3 : q % 2 = 1
      · have d3 : (q % 2 == 1) = true := beq_iff_eq.2 c3
        rw [d3]
        simp only [Bool.toNat_true]
        rw [e2, e4]
        omega
      · have d3 : (q % 2 == 1) = false := beq_eq_false_iff_ne.2 c3
        rw [d3]
        simp only [Bool.toNat_false, Nat.add_zero]
        rw [e1, e3]
        omega
    · have d2 : (p == 2 * t) = false := beq_eq_false_iff_ne.2 c2
      rw [d2]
      simp only [Bool.false_and, Bool.toNat_false, Nat.add_zero]
      rw [e1, e3]
      omega

/-- The nearest word as a significand of 53 digits (perhaps one more) at its place. -/
theorem nearest_kept (mag : Nat) (place : Int) (h0 : mag ≠ 0) (hn : 0 ≤ place + (mag.log2 : Int) + 1022) : ∃ E k s1 s2 : Nat, (E : Int) = place + mag.log2 + 1022 ∧ 4503599627370496 ≤ k ∧ k ≤ 9007199254740992 ∧
    double.nearest false mag place = min (E * 4503599627370496 + k) 9218868437227405312 ∧ (s1 : Int) - s2 = place + 1074 - E ∧ (s1 = 0 ∨ s2 = 0) ∧
    2 * (mag * 2 ^ s1) ≤ (2 * k + 1) * 2 ^ s2 ∧ (2 * (mag * 2 ^ s1) = (2 * k + 1) * 2 ^ s2 → k % 2 = 0) ∧ 2 * k * 2 ^ s2 ≤ 2 * (mag * 2 ^ s1) + 2 ^ s2 ∧ (2 * k * 2 ^ s2 = 2 * (mag * 2 ^ s1) + 2 ^ s2 → k % 2 = 0) ∧
    4503599627370496 * 2 ^ s2 ≤ mag * 2 ^ s1 := by
  obtain ⟨E, hE⟩ := Int.eq_ofNat_of_zero_le hn
  unfold Format.nearest
  rw [if_neg h0, frac_eq, least_eq, word_false]
  have hl : max (place + (mag.log2 : Int) - (52 : Nat)) (-1074) = -1074 + (E : Int) := by omega
  simp only [hl]
  rw [show ((-1074 + (E : Int)) - (-1074)).toNat = E by omega, binade_eq, infRung_eq]
  have hs := Nat.log2_self_le h0
  have hlt : mag < 2 ^ (mag.log2 + 1) := Nat.lt_log2_self
  rcases Nat.le_total mag.log2 52 with h | h
  · rw [show (place - (-1074 + (E : Int))).toNat = 52 - mag.log2 by omega, show ((-1074 + (E : Int)) - place).toNat = 0 by omega, Nat.shiftLeft_eq]
    obtain ⟨k, hk, g1, g2, g3, g4, g5, g6⟩ := cut_even (mag * 2 ^ (52 - mag.log2)) 0 (by omega)
    have e1 := Nat.mul_le_mul_right (2 ^ (52 - mag.log2)) hs
    rw [← Nat.pow_add, show mag.log2 + (52 - mag.log2) = 52 by omega] at e1
    have e2 := (Nat.mul_lt_mul_right (Nat.two_pow_pos (52 - mag.log2))).2 hlt
    rw [← Nat.pow_add, show mag.log2 + 1 + (52 - mag.log2) = 53 by omega] at e2
    rw [hk]
    refine ⟨E, k, 52 - mag.log2, 0, by omega, ?_, ?_, rfl, by omega, .inr rfl, g1, g2, g3, g4, ?_⟩
    · generalize mag * 2 ^ (52 - mag.log2) = z at *; omega
    · generalize mag * 2 ^ (52 - mag.log2) = z at *; omega
    · generalize mag * 2 ^ (52 - mag.log2) = z at *; omega
  · rw [show (place - (-1074 + (E : Int))).toNat = 0 by omega, show ((-1074 + (E : Int)) - place).toNat = mag.log2 - 52 by omega, Nat.shiftLeft_eq, Nat.pow_zero, Nat.mul_one]
    obtain ⟨k, hk, g1, g2, g3, g4, g5, g6⟩ := cut_even mag (mag.log2 - 52) (by omega)
    have hp := Nat.two_pow_pos (mag.log2 - 52)
    have e0 : 4503599627370496 * 2 ^ (mag.log2 - 52) ≤ mag := by
      have : 4503599627370496 * 2 ^ (mag.log2 - 52) = 2 ^ mag.log2 := by rw [show (4503599627370496 : Nat) = 2 ^ 52 from rfl, ← Nat.pow_add, show 52 + (mag.log2 - 52) = mag.log2 by omega]
      omega
    have e1 : 4503599627370496 ≤ mag / 2 ^ (mag.log2 - 52) := by
      rw [Nat.le_div_iff_mul_le hp]; exact e0
    have e2 : mag / 2 ^ (mag.log2 - 52) < 9007199254740992 := by
      rw [Nat.div_lt_iff_lt_mul hp]
      have : 9007199254740992 * 2 ^ (mag.log2 - 52) = 2 ^ (mag.log2 + 1) := by rw [show (9007199254740992 : Nat) = 2 ^ 53 from rfl, ← Nat.pow_add, show 53 + (mag.log2 - 52) = mag.log2 + 1 by omega]
      omega
    rw [hk]
    refine ⟨E, k, 0, mag.log2 - 52, by omega, by omega, by omega, rfl, by omega, .inl rfl, ?_, ?_, ?_, ?_, ?_⟩
    all_goals rw [Nat.pow_zero, Nat.mul_one]; assumption

/-- Of a significand at its place: the word, its number and its neighbours. -/
theorem kept_word (E k r : Nat) (h0 : 4503599627370496 ≤ k) (h1 : k ≤ 9007199254740992) (hr : r = E * 4503599627370496 + k) :
    V r = k * 2 ^ E ∧ (k + 1) * 2 ^ E ≤ V (r + 1) ∧ (∀ t, t + 1 = r → (4503599627370496 < k → V t = (k - 1) * 2 ^ E) ∧ V t < V r) ∧ r % 2 = k % 2 := by
  have hp := Nat.two_pow_pos E
  have key : ∀ j, 4503599627370496 ≤ j → j ≤ 9007199254740992 → V (E * 4503599627370496 + j) = j * 2 ^ E := by
    intro j h2 h3
    rcases Nat.lt_or_ge j 9007199254740992 with h | h
    · obtain ⟨g1, g2⟩ := mant_expo (e := E) h2 h
      unfold V; rw [g1, g2]
    · obtain rfl : j = 9007199254740992 := by omega
      obtain ⟨g1, g2⟩ := mant_expo (e := E + 1) (m := 4503599627370496) (by omega) (by omega)
      rw [show E * 4503599627370496 + 9007199254740992 = (E + 1) * 4503599627370496 + 4503599627370496 by omega]
      unfold V; rw [g1, g2, Nat.pow_succ]
      omega
  have hv := key k h0 h1
  rw [← hr] at hv
  refine ⟨hv, ?_, fun t ht => ⟨fun h2 => ?_, V_lt (by omega)⟩, by omega⟩
  · rw [V_succ, hv, Nat.add_mul, Nat.one_mul]
    have : E ≤ expo r := by unfold expo; omega
    have := Nat.pow_le_pow_right (n := 2) (by omega) this
    omega
  · have := key (k - 1) (by omega) (by omega)
    rwa [show E * 4503599627370496 + (k - 1) = t by omega] at this

/-- From the bounds on a significand to those on its word. -/
theorem rnd_of (X Y E k r : Nat) (h0 : 4503599627370496 ≤ k) (h1 : k ≤ 9007199254740992) (hr : r = E * 4503599627370496 + k) (hY : 0 < Y)
    (g1 : 2 * X ≤ (2 * k + 1) * 2 ^ E * Y) (g2 : 2 * X = (2 * k + 1) * 2 ^ E * Y → k % 2 = 0) (g3 : (2 * k - 1) * 2 ^ E * Y ≤ 2 * X) (g4 : (2 * k - 1) * 2 ^ E * Y = 2 * X → k % 2 = 0)
    (g5 : k = 4503599627370496 → k * 2 ^ E * Y ≤ X) : Rnd X Y r := by
  obtain ⟨a1, a2, a3, a4⟩ := kept_word E k r h0 h1 hr
  have b1 : (2 * k + 1) * 2 ^ E ≤ V r + V (r + 1) := by
    rw [a1]
    have : (2 * k + 1) * 2 ^ E = k * 2 ^ E + (k + 1) * 2 ^ E := by rw [← Nat.add_mul]; congr 1; omega
    omega
  have b2 : (2 * k + 1) * 2 ^ E * Y ≤ (V r + V (r + 1)) * Y := Nat.mul_le_mul_right _ b1
  refine ⟨by omega, fun h => ?_, fun t ht => ?_⟩
  · rw [a4]; exact g2 (by omega)
  · obtain ⟨c1, c2⟩ := a3 t ht
    by_cases hk : 4503599627370496 < k
    · have c3 : V t + V r = (2 * k - 1) * 2 ^ E := by
        rw [c1 hk, a1, ← Nat.add_mul]; congr 1; omega
      rw [c3, a4]
      exact ⟨g3, g4⟩
    · have g6 := g5 (by omega)
      rw [← a1] at g6
      have c3 : (V t + V r) * Y < (V r + V r) * Y := (Nat.mul_lt_mul_right hY).2 (by omega)
      have c4 : (V r + V r) * Y = 2 * (V r * Y) := by rw [Nat.add_mul]; omega
      omega

end Go.Proofs.Ytlgikpfjonnhmaa.FP
