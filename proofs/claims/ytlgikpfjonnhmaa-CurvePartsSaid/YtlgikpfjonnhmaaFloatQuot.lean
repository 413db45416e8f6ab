/- The nearest word of an integer and of a quotient of two words, and that both rise with the number. No program in sight. -/
import Derived.Test.YtlgikpfjonnhmaaFloatRound
namespace Go.Proofs.Ytlgikpfjonnhmaa.FP
open Ieee

theorem scale_le {x y c : Nat} (hc : 0 < c) (h : x * c ≤ y * c) : x ≤ y := Nat.le_of_mul_le_mul_right h hc
theorem scale_eq {x y c : Nat} (hc : 0 < c) (h : x * c = y * c) : x = y := Nat.mul_right_cancel hc h

theorem nearest_rnd (mag : Nat) (place : Int) (A B : Nat) (h0 : mag ≠ 0) (hn : 0 ≤ place + (mag.log2 : Int) + 1022) (hp : (A : Int) - B = place + 1074) (hr : double.nearest false mag place < 9218868437227405312) :
    Rnd (mag * 2 ^ A) (2 ^ B) (double.nearest false mag place) := by
  obtain ⟨E, k, s1, s2, hE, k0, k1, hw, hs, _, g1, g2, g3, g4, g5⟩ := nearest_kept mag place h0 hn
  have hw2 : double.nearest false mag place = E * 4503599627370496 + k := by omega
  have hc := Nat.two_pow_pos s2
  have hd := Nat.two_pow_pos (B + E)
  have hx : mag * 2 ^ A * 2 ^ s2 = mag * 2 ^ s1 * 2 ^ (B + E) := by
    rw [Nat.mul_assoc, Nat.mul_assoc, ← Nat.pow_add, ← Nat.pow_add]; congr 2; omega
  have hy : ∀ j, j * 2 ^ E * 2 ^ B * 2 ^ s2 = j * 2 ^ s2 * 2 ^ (B + E) := by
    intro j
    rw [Nat.mul_assoc, Nat.mul_assoc, Nat.mul_assoc, ← Nat.pow_add, ← Nat.pow_add, ← Nat.pow_add]; congr 2; omega
  have h2x : 2 * (mag * 2 ^ A) * 2 ^ s2 = 2 * (mag * 2 ^ s1) * 2 ^ (B + E) := by rw [Nat.mul_assoc, hx, ← Nat.mul_assoc]
  have hm : (2 * k - 1) * 2 ^ s2 + 2 ^ s2 = 2 * k * 2 ^ s2 := by
    rw [Nat.sub_mul, Nat.one_mul, Nat.sub_add_cancel]
    have := Nat.mul_le_mul_right (2 ^ s2) (show 1 ≤ 2 * k by omega)
    omega
  refine rnd_of _ _ E k _ k0 k1 hw2 (Nat.two_pow_pos B) ?_ ?_ ?_ ?_ ?_
  · refine scale_le hc ?_
    rw [h2x, hy]
    exact Nat.mul_le_mul_right _ g1
  · intro h
    refine g2 (scale_eq hd ?_)
    rw [← h2x, ← hy, h]
  · refine scale_le hc ?_
    rw [h2x, hy]
    refine Nat.mul_le_mul_right _ ?_
    omega
  · intro h
    refine g4 ?_
    have : (2 * k - 1) * 2 ^ s2 = 2 * (mag * 2 ^ s1) := by
      refine scale_eq hd ?_
      rw [← h2x, ← hy, h]
    omega
  · intro h
    subst h
    refine scale_le hc ?_
    rw [hx, hy]
    exact Nat.mul_le_mul_right _ g5

theorem log2_63 {n : Nat} (h0 : n ≠ 0) (h1 : n < 18446744073709551616) : n.log2 ≤ 63 := by
  have : n.log2 < 64 := (Nat.log2_lt h0).2 h1
  omega

/-- A natural number of at most 64 digits, as a word. -/
def nw (n : Nat) : Nat := double.nearest false n 0
theorem nw_norm {n : Nat} (h0 : n ≠ 0) (h1 : n < 18446744073709551616) : 4607182418800017408 ≤ nw n ∧ nw n ≤ 4895412794951729152 := by
  have hl := log2_63 h0 h1
  have := nearest_binade n h0 hl
  exact ⟨Nat.le_trans (Nat.mul_le_mul_right 4503599627370496 (show 1023 ≤ 1023 + n.log2 by omega)) this.1, Nat.le_trans this.2 (Nat.mul_le_mul_right 4503599627370496 (show 1024 + n.log2 ≤ 1087 by omega))⟩
theorem nw_rnd {n : Nat} (h0 : n ≠ 0) (h1 : n < 18446744073709551616) : Rnd (n * 2 ^ LP) 1 (nw n) := by
  have h := nearest_rnd n 0 LP 0 h0 (by omega) (by have := LP_eq; omega) (by have := nw_norm h0 h1; unfold nw at this; exact Nat.lt_of_le_of_lt this.2 (by decide))
  rw [Nat.pow_zero] at h
  exact h
theorem nw_mono {m n : Nat} (h0 : m ≠ 0) (h : m ≤ n) (h1 : n < 18446744073709551616) : nw m ≤ nw n :=
  rnd_mono (by omega) (nw_rnd h0 (by omega)) (nw_rnd (by omega) h1) (Nat.mul_le_mul_right _ h)

/-- The quotient of two positive words whose significands are full. -/
theorem div_rnd (a b : Nat) (ha0 : 4503599627370496 ≤ a) (ha : a < 9218868437227405312) (hb0 : 4503599627370496 ≤ b) (hb : b < 9218868437227405312) (h1 : expo b ≤ expo a + 1021) (h2 : expo a ≤ expo b + 900) :
    ∃ d, double.div a b = some d ∧ d < 9218868437227405312 ∧ Rnd (V a * 2 ^ LP) (V b) d := by
  have hLP := LP_eq
  have hma := mant_norm ha0
  have hmb := mant_norm hb0
  have hla : (mant a).log2 = 52 := log2_norm hma.1 hma.2
  have hlb : (mant b).log2 = 52 := log2_norm hmb.1 hmb.2
  have hva : V a = mant a * 2 ^ expo a := rfl
  have hvb : V b = mant b * 2 ^ expo b := rfl
  have hdiv : double.div a b = some (double.nearest false (2 * ((mant a * 2 ^ 54) / mant b) + ((mant a * 2 ^ 54) % mant b != 0).toNat) (-1074 + (expo a : Int) - (-1074 + (expo b : Int)) - 54 - 1)) := by
    unfold Format.div
    rw [read_pos a ha, read_pos b hb]
    simp only [Datum.quotient, frac_eq, hla, hlb]
    rw [if_neg (by omega)]
    simp only [Option.map_some, Format.write, Bool.xor_self, Nat.shiftLeft_eq]
    rfl
  rw [hdiv]
  refine ⟨_, rfl, ?_⟩
  rw [show -1074 + (expo a : Int) - (-1074 + (expo b : Int)) - 54 - 1 = (expo a : Int) - expo b - 55 by omega]
  have hmbp : 0 < mant b := by omega
  have hdm := Nat.div_add_mod (mant a * 2 ^ 54) (mant b)
  have hml := Nat.mod_lt (mant a * 2 ^ 54) hmbp
  obtain ⟨s, hs⟩ : ∃ s, s = ((mant a * 2 ^ 54) % mant b != 0).toNat := ⟨_, rfl⟩
  have hs1 : s ≤ 1 := by rw [hs]; cases ((mant a * 2 ^ 54) % mant b != 0) <;> simp
  have hs0 : s = 0 ↔ (mant a * 2 ^ 54) % mant b = 0 := by
    rw [hs]
    by_cases c : (mant a * 2 ^ 54) % mant b = 0
    · rw [c]; simp
    · have : ((mant a * 2 ^ 54) % mant b != 0) = true := bne_iff_ne.2 c
      rw [this]; simp [c]
  rw [← hs]
  clear hs hdiv
  have hq0 : 9007199254740992 ≤ mant a * 2 ^ 54 / mant b := by
    rw [Nat.le_div_iff_mul_le hmbp]
    have := Nat.mul_le_mul_right (2 ^ 54) hma.1
    omega
  have hq1 : mant a * 2 ^ 54 / mant b < 36028797018963968 := by
    rw [Nat.div_lt_iff_lt_mul hmbp]
    have := Nat.mul_le_mul_left 36028797018963968 hmb.1
    omega
  generalize mant a * 2 ^ 54 % mant b = t at *
  generalize mant a * 2 ^ 54 / mant b = q at *
  have hl0 : 54 ≤ (2 * q + s).log2 := (Nat.le_log2 (by omega)).2 (by omega)
  have hl1 : (2 * q + s).log2 ≤ 56 := by
    have : (2 * q + s).log2 < 57 := (Nat.log2_lt (by omega)).2 (by omega)
    omega
  obtain ⟨E, k, s1, s2, hE, k0, k1, hw, hs12, hs3, g1, g2, g3, g4, g5⟩ := nearest_kept (2 * q + s) ((expo a : Int) - expo b - 55) (by omega) (by omega)
  obtain rfl : s1 = 0 := by omega
  obtain ⟨u, rfl⟩ : ∃ u, s2 = u + 2 := ⟨s2 - 2, by omega⟩
  have hE2 : E ≤ 1923 := by clear g1 g2 g3 g4 g5 hw hdm; omega
  have hE3 : E * 4503599627370496 + k < 9218868437227405312 := by
    have := Nat.mul_le_mul_right 4503599627370496 hE2
    clear g1 g2 g3 g4 g5 hw hdm
    omega
  have hw2 : double.nearest false (2 * q + s) ((expo a : Int) - expo b - 55) = E * 4503599627370496 + k := by
    rw [hw]; exact Nat.min_eq_left (Nat.le_of_lt hE3)
  clear hw
  refine ⟨by rw [hw2]; exact hE3, ?_⟩
  rw [Nat.pow_zero, Nat.mul_one] at g1 g2 g3 g4 g5
  rw [Nat.pow_add, show (2 : Nat) ^ 2 = 4 from rfl] at g1 g2 g3 g4 g5
  have hpu := Nat.two_pow_pos u
  -- the midpoints are whole numbers of units
  have e1 : (2 * k + 1) * (2 ^ u * 4) = 4 * ((2 * k + 1) * 2 ^ u) := by rw [← Nat.mul_assoc, Nat.mul_comm]
  have e2 : 2 * k * (2 ^ u * 4) = 4 * ((2 * k - 1) * 2 ^ u) + 2 ^ u * 4 := by
    obtain ⟨j, hj⟩ : ∃ j, 2 * k = j + 1 := ⟨2 * k - 1, by omega⟩
    rw [hj, Nat.add_sub_cancel, Nat.add_mul, Nat.one_mul, ← Nat.mul_assoc, Nat.mul_comm _ 4]
  have e3 : 4503599627370496 * (2 ^ u * 4) = 2 * (4503599627370496 * 2 ^ u * 2) := by omega
  rw [e1] at g1 g2
  rw [e2] at g3 g4
  rw [e3] at g5
  have hq : ∀ T, T ≤ q → T * mant b ≤ mant b * q := fun T h => by rw [Nat.mul_comm]; exact Nat.mul_le_mul_left _ h
  have hq' : ∀ T, q + 1 ≤ T → mant b * q + mant b ≤ T * mant b := fun T h => by
    have := Nat.mul_le_mul_right (mant b) h
    rw [Nat.add_mul, Nat.one_mul, Nat.mul_comm q] at this
    exact this
  have hqe : ∀ T, T = q → T * mant b = mant b * q := fun T h => by rw [h, Nat.mul_comm]
  -- up
  have f1 : mant a * 2 ^ 54 ≤ (2 * k + 1) * 2 ^ u * mant b := by
    generalize (2 * k + 1) * 2 ^ u = T at *
    rcases Nat.lt_or_ge q T with h | h
    · have := hq' T h; omega
    · have : T = q := by omega
      have := hqe T this
      omega
  have f2 : mant a * 2 ^ 54 = (2 * k + 1) * 2 ^ u * mant b → k % 2 = 0 := by
    intro h
    generalize (2 * k + 1) * 2 ^ u = T at *
    rcases Nat.lt_or_ge q T with h3 | h3
    · have := hq' T h3; omega
    · have h4 : T = q := by omega
      have := hqe T h4
      exact g2 (by omega)
  have f3 : (2 * k - 1) * 2 ^ u * mant b ≤ mant a * 2 ^ 54 := by
    generalize (2 * k - 1) * 2 ^ u = T at *
    have := hq T (by omega)
    omega
  have f4 : (2 * k - 1) * 2 ^ u * mant b = mant a * 2 ^ 54 → k % 2 = 0 := by
    intro h
    generalize (2 * k - 1) * 2 ^ u = T at *
    rcases Nat.lt_or_ge T q with h3 | h3
    · have := Nat.mul_le_mul_left (mant b) h3
      rw [Nat.mul_succ, Nat.mul_comm] at this
      omega
    · have h4 : T = q := by omega
      have := hqe T h4
      exact g4 (by omega)
  have f5 : k = 4503599627370496 → k * 2 ^ u * 2 * mant b ≤ mant a * 2 ^ 54 := by
    rintro rfl
    generalize 4503599627370496 * 2 ^ u * 2 = T at *
    have := hq T (by omega)
    omega
  -- back to numbers
  have hP := Nat.two_pow_pos (expo a + 1021)
  have x1 : 2 * (V a * 2 ^ LP) = mant a * 2 ^ 54 * 2 ^ (expo a + 1021) := by
    have p1 : 2 ^ 54 * 2 ^ (expo a + 1021) = 2 * 2 ^ (expo a + LP) := by
      rw [← Nat.pow_add, show 54 + (expo a + 1021) = (expo a + LP) + 1 by omega, Nat.pow_succ, Nat.mul_comm]
    rw [hva, Nat.mul_assoc (mant a), ← Nat.pow_add, Nat.mul_assoc (mant a), p1, Nat.mul_left_comm]
  have x2 : ∀ j, j * 2 ^ E * V b = j * 2 ^ u * mant b * 2 ^ (expo a + 1021) := by
    intro j
    have p1 : 2 ^ E * 2 ^ expo b = 2 ^ u * 2 ^ (expo a + 1021) := by
      rw [← Nat.pow_add, ← Nat.pow_add, show E + expo b = u + (expo a + 1021) by clear g1 g2 g3 g4 g5 hdm f1 f2 f3 f4 f5; omega]
    rw [hvb]
    generalize 2 ^ E = x1 at p1 ⊢
    generalize 2 ^ expo b = x2 at p1 ⊢
    generalize 2 ^ u = x3 at p1 ⊢
    generalize 2 ^ (expo a + 1021) = x4 at p1 ⊢
    generalize mant b = x5 at p1 ⊢
    have p2 : j * x1 * (x5 * x2) = j * x5 * (x1 * x2) := by ac_rfl
    rw [p2, p1]
    ac_rfl
  refine rnd_of _ _ E k _ k0 k1 hw2 (by rw [hvb]; exact Nat.mul_pos hmbp (Nat.two_pow_pos _)) ?_ ?_ ?_ ?_ ?_
  · rw [x1, x2]; exact Nat.mul_le_mul_right _ f1
  · intro h; rw [x1, x2] at h; exact f2 (scale_eq hP h)
  · rw [x1, x2]; exact Nat.mul_le_mul_right _ f3
  · intro h; rw [x1, x2] at h; exact f4 (scale_eq hP h)
  · intro h
    have f6 := Nat.mul_le_mul_right (2 ^ (expo a + 1021)) (f5 h)
    rw [← x1] at f6
    have x3 : k * 2 ^ u * 2 * mant b * 2 ^ (expo a + 1021) = 2 * (k * 2 ^ E * V b) := by
      rw [x2]
      generalize 2 ^ (expo a + 1021) = x4
      generalize 2 ^ u = x5
      rw [Nat.mul_right_comm (k * x5), Nat.mul_right_comm _ 2 x4, Nat.mul_comm]
    rw [x3] at f6
    exact Nat.le_of_mul_le_mul_left f6 (by omega)

def OP : Nat := 1022
theorem V_one : V 4607182418800017408 = 2 ^ LP := by
  obtain ⟨g1, g2⟩ := mant_expo (e := OP) (m := 4503599627370496) (by omega) (by omega)
  rw [show OP * 4503599627370496 + 4503599627370496 = 4607182418800017408 from rfl] at g1 g2
  unfold V
  rw [g1, g2, show (4503599627370496 : Nat) = 2 ^ 52 from rfl, ← Nat.pow_add, show 52 + OP = LP from rfl]

theorem V_pos {r : Nat} (h : 0 < r) : 0 < V r := Nat.mul_pos (mant_pos h) (Nat.two_pow_pos _)

/-- A part of a whole is a word from 0 to 1. -/
theorem rnd_le_one {X Y d : Nat} (hY : 0 < Y) (h : X ≤ Y * 2 ^ LP) (hd : Rnd X Y d) : d ≤ 4607182418800017408 := by
  rcases Nat.lt_or_ge 4607182418800017408 d with h1 | h1
  · exfalso
    obtain ⟨t, ht⟩ : ∃ t, t + 1 = d := ⟨d - 1, by omega⟩
    have g := (hd.2.2 t ht).1
    have a1 := V_le (show 4607182418800017408 ≤ t by omega)
    have a2 := V_lt h1
    rw [V_one] at a1 a2
    have a3 : (2 ^ LP + 2 ^ LP) * Y < (V t + V d) * Y := (Nat.mul_lt_mul_right hY).2 (by omega)
    have a4 : (2 ^ LP + 2 ^ LP) * Y = 2 * (Y * 2 ^ LP) := by rw [← Nat.two_mul, Nat.mul_assoc, Nat.mul_comm Y]
    omega
  · exact h1

/-- The quotient of two integers, the first not the greater one. -/
theorem part (m n : Nat) (h0 : m ≠ 0) (h : m ≤ n) (h1 : n < 18446744073709551616) : ∃ d, double.div (nw m) (nw n) = some d ∧ d ≤ 4607182418800017408 ∧ Rnd (V (nw m) * 2 ^ LP) (V (nw n)) d := by
  have hm := nw_norm h0 (by omega)
  have hn := nw_norm (n := n) (by omega) h1
  obtain ⟨d, g1, _, g3⟩ := div_rnd (nw m) (nw n) (by omega) (by omega) (by omega) (by omega) (by unfold expo; omega) (by unfold expo; omega)
  refine ⟨d, g1, rnd_le_one (V_pos (by omega)) (Nat.mul_le_mul_right _ (V_le (nw_mono h0 h h1))) g3, g3⟩
theorem part_mono {m1 m2 n d1 d2 : Nat} (h0 : m1 ≠ 0) (h : m1 ≤ m2) (h2 : m2 ≤ n) (h1 : n < 18446744073709551616) (e1 : double.div (nw m1) (nw n) = some d1) (e2 : double.div (nw m2) (nw n) = some d2) : d1 ≤ d2 := by
  obtain ⟨c1, g1, _, g2⟩ := part m1 n h0 (by omega) h1
  obtain ⟨c2, g3, _, g4⟩ := part m2 n (by omega) h2 h1
  obtain rfl : c1 = d1 := Option.some.inj (g1.symm.trans e1)
  obtain rfl : c2 = d2 := Option.some.inj (g3.symm.trans e2)
  have hn := nw_norm (n := n) (by omega) h1
  exact rnd_mono (V_pos (by omega)) g2 g4 (Nat.mul_le_mul_right _ (V_le (nw_mono h0 h (by omega))))

theorem of_nat (n : Nat) : floatOfInt .f64 (n : Int) = nw n := by
  unfold floatOfInt FloatKind.nearest FloatKind.encode FloatKind.format Format.write nw
  dsimp only
  rw [decide_eq_false (by omega), Int.natAbs_natCast]

end Go.Proofs.Ytlgikpfjonnhmaa.FP
