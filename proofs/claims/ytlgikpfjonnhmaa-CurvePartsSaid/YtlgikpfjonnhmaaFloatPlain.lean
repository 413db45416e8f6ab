/- Plain facts on the words of float64: what a positive word stands for, how two compare, and that a number which the format has is written as just its word. No program in sight. -/
import Derived.Laws.FloatBits
namespace Go.Proofs.Ytlgikpfjonnhmaa.FP
open Ieee

theorem binade_eq : double.binade = 4503599627370496 := by decide
theorem infRung_eq : double.infRung = 9218868437227405312 := by decide +kernel
theorem sign_eq : double.signWeight = 9223372036854775808 := by decide +kernel
theorem least_eq : double.leastPlace = -1074 := by decide +kernel
theorem frac_eq : double.fractionBits = 52 := rfl

/-- The significand of a positive word below infinity. -/
def mant (r : Nat) : Nat := if r < 4503599627370496 then r else 4503599627370496 + r % 4503599627370496
/-- Its place above the least. -/
def expo (r : Nat) : Nat := r / 4503599627370496 - 1
/-- What it stands for, in units of the least place. -/
def V (r : Nat) : Nat := mant r * 2 ^ expo r

theorem read_pos (r : Nat) (h : r < 9218868437227405312) : double.read r = .number false (mant r) (-1074 + (expo r : Int)) := by
  have hs : r / double.signWeight % 2 == 1 ↔ False := by rw [sign_eq]; simp; omega
  have hm : r % double.signWeight = r := by rw [sign_eq]; omega
  unfold Format.read
  simp only [hm]
  have hs' : (r / double.signWeight % 2 == 1) = false := by rw [sign_eq]; simp; omega
  rw [hs', binade_eq, infRung_eq, least_eq]
  by_cases h1 : r < 4503599627370496
  · rw [if_pos h1]
    unfold mant expo
    rw [if_pos h1, show r / 4503599627370496 - 1 = 0 by omega]
    simp
  · rw [if_neg h1, if_pos h]
    unfold mant expo
    rw [if_neg h1]

theorem read_neg (r : Nat) (h : r < 9218868437227405312) : double.read (9223372036854775808 + r) = .number true (mant r) (-1074 + (expo r : Int)) := by
  have hm : (9223372036854775808 + r) % double.signWeight = r := by rw [sign_eq]; omega
  unfold Format.read
  simp only [hm]
  have hs' : ((9223372036854775808 + r) / double.signWeight % 2 == 1) = true := by rw [sign_eq]; simp; omega
  rw [hs', binade_eq, infRung_eq, least_eq]
  by_cases h1 : r < 4503599627370496
  · rw [if_pos h1]
    unfold mant expo
    rw [if_pos h1, show r / 4503599627370496 - 1 = 0 by omega]
    simp
  · rw [if_neg h1, if_pos h]
    unfold mant expo
    rw [if_neg h1]

theorem read_inf : double.read 9218868437227405312 = .infinity false := by decide +kernel
theorem read_ninf : double.read 18442240474082181120 = .infinity true := by decide +kernel
theorem read_nan (r : Nat) (h : 9218868437227405312 < r) (h2 : r < 9223372036854775808) : ∃ t, double.read r = .nan false t := by
  have hm : r % double.signWeight = r := by rw [sign_eq]; omega
  unfold Format.read
  simp only [hm]
  rw [binade_eq, infRung_eq, if_neg (by omega), if_neg (by omega), if_neg (by omega)]
  have hs' : (r / double.signWeight % 2 == 1) = false := by rw [sign_eq]; simp; omega
  rw [hs']
  exact ⟨_, rfl⟩
theorem read_nnan (r : Nat) (h : 18442240474082181120 < r) (h2 : r < 18446744073709551616) : ∃ t, double.read r = .nan true t := by
  have hm : r % double.signWeight = r - 9223372036854775808 := by rw [sign_eq]; omega
  unfold Format.read
  simp only [hm]
  rw [binade_eq, infRung_eq, if_neg (by omega), if_neg (by omega), if_neg (by omega)]
  have hs' : (r / double.signWeight % 2 == 1) = true := by rw [sign_eq]; simp; omega
  rw [hs']
  exact ⟨_, rfl⟩

theorem expo_zero {r : Nat} (h : r < 9007199254740992) : expo r = 0 := by unfold expo; omega
theorem mant_norm {r : Nat} (h : 4503599627370496 ≤ r) : 4503599627370496 ≤ mant r ∧ mant r < 9007199254740992 := by
  unfold mant
  rw [if_neg (by omega)]
  omega
theorem mant_lt (r : Nat) : mant r < 9007199254740992 := by
  unfold mant
  split <;> omega
theorem mant_pos {r : Nat} (h : 0 < r) : 0 < mant r := by
  unfold mant
  split <;> omega
theorem V_small {r : Nat} (h : r < 4503599627370496) : V r = r := by
  unfold V
  rw [expo_zero (by omega)]
  unfold mant
  rw [if_pos h, Nat.pow_zero, Nat.mul_one]
/-- A word back out of its significand and place. -/
theorem word_of {r : Nat} (h : 4503599627370496 ≤ r) : r = expo r * 4503599627370496 + mant r := by
  unfold expo mant
  rw [if_neg (by omega)]
  omega
theorem mant_expo {e m : Nat} (h0 : 4503599627370496 ≤ m) (h1 : m < 9007199254740992) : mant (e * 4503599627370496 + m) = m ∧ expo (e * 4503599627370496 + m) = e := by
  unfold mant expo
  rw [if_neg (by omega)]
  omega

theorem V_succ (r : Nat) : V (r + 1) = V r + 2 ^ expo r := by
  by_cases h : r + 1 < 4503599627370496
  · rw [V_small h, V_small (by omega), expo_zero (by omega)]
  · by_cases h1 : r + 1 = 4503599627370496
    · obtain rfl : r = 4503599627370495 := by omega
      decide +kernel
    · by_cases h2 : (r + 1) % 4503599627370496 = 0
      · have e1 : expo (r + 1) = expo r + 1 := by unfold expo; omega
        have m1 : mant (r + 1) = 4503599627370496 := by unfold mant; rw [if_neg (by omega)]; omega
        have m2 : mant r = 9007199254740991 := by unfold mant; rw [if_neg (by omega)]; omega
        unfold V
        rw [e1, m1, m2, Nat.pow_succ]
        omega
      · have e1 : expo (r + 1) = expo r := by unfold expo; omega
        have m1 : mant (r + 1) = mant r + 1 := by unfold mant; rw [if_neg (by omega), if_neg (by omega)]; omega
        unfold V
        rw [e1, m1, Nat.add_mul, Nat.one_mul]
theorem V_lt {a b : Nat} (h : a < b) : V a < V b := by
  induction b with
  | zero => omega
  | succ b ih =>
    have := V_succ b
    have := Nat.two_pow_pos (expo b)
    rcases Nat.lt_or_ge a b with h1 | h1
    · have := ih h1; omega
    · obtain rfl : a = b := by omega
      omega
theorem V_le {a b : Nat} (h : a ≤ b) : V a ≤ V b := by
  rcases Nat.lt_or_ge a b with h1 | h1
  · exact Nat.le_of_lt (V_lt h1)
  · obtain rfl : a = b := by omega
    exact Nat.le_refl _
theorem V_inj {a b : Nat} (h : V a = V b) : a = b := by
  rcases Nat.lt_trichotomy a b with h1 | h1 | h1
  · have := V_lt h1; omega
  · exact h1
  · have := V_lt h1; omega
theorem compare_V (a b : Nat) : compare (V a) (V b) = compare a b := by
  rcases Nat.lt_trichotomy a b with h1 | h1 | h1
  · rw [Nat.compare_eq_lt.2 h1, Nat.compare_eq_lt.2 (V_lt h1)]
  · subst h1; rw [Nat.compare_eq_eq.2 rfl, Nat.compare_eq_eq.2 rfl]
  · rw [Nat.compare_eq_gt.2 h1, Nat.compare_eq_gt.2 (V_lt h1)]

theorem compare_mul (a b c : Nat) (h : 0 < c) : compare (a * c) (b * c) = compare a b := by
  rcases Nat.lt_trichotomy a b with h1 | h1 | h1
  · rw [Nat.compare_eq_lt.2 h1, Nat.compare_eq_lt.2 ((Nat.mul_lt_mul_right h).2 h1)]
  · subst h1; rw [Nat.compare_eq_eq.2 rfl, Nat.compare_eq_eq.2 rfl]
  · rw [Nat.compare_eq_gt.2 h1, Nat.compare_eq_gt.2 ((Nat.mul_lt_mul_right h).2 h1)]
theorem compare_int (a b : Nat) : compare (a : Int) (b : Int) = compare a b := by
  rcases Nat.lt_trichotomy a b with h1 | h1 | h1
  · rw [Nat.compare_eq_lt.2 h1, Int.compare_eq_lt.2 (by omega)]
  · subst h1; rw [Nat.compare_eq_eq.2 rfl, Int.compare_eq_eq.2 rfl]
  · rw [Nat.compare_eq_gt.2 h1, Int.compare_eq_gt.2 (by omega)]

/-- Two positive words (infinity among them) stand to each other as their numbers do. -/
theorem order_pos {a b : Nat} (ha : a ≤ 9218868437227405312) (hb : b ≤ 9218868437227405312) : double.order a b = some (compare a b) := by
  unfold Format.order
  rcases Nat.lt_or_ge a 9218868437227405312 with h1 | h1
  · rw [read_pos a h1]
    rcases Nat.lt_or_ge b 9218868437227405312 with h2 | h2
    · rw [read_pos b h2]
      simp only [Datum.order]
      congr 1
      rw [show signed false (mant a) ((-1074 + (expo a : Int)) - min (-1074 + (expo a : Int)) (-1074 + (expo b : Int))).toNat = ((mant a * 2 ^ (expo a - min (expo a) (expo b)) : Nat) : Int) by
        rw [show ((-1074 + (expo a : Int)) - min (-1074 + (expo a : Int)) (-1074 + (expo b : Int))).toNat = expo a - min (expo a) (expo b) by omega]; simp [signed, Nat.shiftLeft_eq]]
      rw [show signed false (mant b) ((-1074 + (expo b : Int)) - min (-1074 + (expo a : Int)) (-1074 + (expo b : Int))).toNat = ((mant b * 2 ^ (expo b - min (expo a) (expo b)) : Nat) : Int) by
        rw [show ((-1074 + (expo b : Int)) - min (-1074 + (expo a : Int)) (-1074 + (expo b : Int))).toNat = expo b - min (expo a) (expo b) by omega]; simp [signed, Nat.shiftLeft_eq]]
      rw [compare_int, ← compare_mul _ _ (2 ^ min (expo a) (expo b)) (Nat.two_pow_pos _), Nat.mul_assoc, Nat.mul_assoc, ← Nat.pow_add, ← Nat.pow_add,
        show expo a - min (expo a) (expo b) + min (expo a) (expo b) = expo a by omega, show expo b - min (expo a) (expo b) + min (expo a) (expo b) = expo b by omega]
      exact compare_V a b
    · obtain rfl : b = 9218868437227405312 := by omega
      rw [read_inf]
      simp only [Datum.order]
      rw [Nat.compare_eq_lt.2 h1]; rfl
  · obtain rfl : a = 9218868437227405312 := by omega
    rw [read_inf]
    rcases Nat.lt_or_ge b 9218868437227405312 with h2 | h2
    · rw [read_pos b h2]
      simp only [Datum.order]
      rw [Nat.compare_eq_gt.2 h2]; rfl
    · obtain rfl : b = 9218868437227405312 := by omega
      rw [read_inf]
      simp only [Datum.order]
      rfl

theorem log2_mul_pow (m k : Nat) (h : m ≠ 0) : (m * 2 ^ k).log2 = m.log2 + k := by
  rw [Nat.log2_eq_iff (Nat.mul_ne_zero h (Nat.ne_of_gt (Nat.two_pow_pos k)))]
  have h1 := Nat.log2_self_le h
  have h2 : m < 2 ^ (m.log2 + 1) := Nat.lt_log2_self
  refine ⟨by rw [Nat.pow_add]; exact Nat.mul_le_mul_right _ h1, ?_⟩
  rw [show m.log2 + k + 1 = (m.log2 + 1) + k by omega, Nat.pow_add]
  exact (Nat.mul_lt_mul_right (Nat.two_pow_pos k)).2 h2

theorem log2_norm {m : Nat} (h0 : 4503599627370496 ≤ m) (h1 : m < 9007199254740992) : m.log2 = 52 :=
  (Nat.log2_eq_iff (by omega)).2 ⟨by omega, by omega⟩

/-- A positive number that the format has is written as its word: mag times 2^place, which is V r times 2^-1074. -/
theorem nearest_cut (r mag A B : Nat) (place : Int) (hr0 : 0 < r) (hv : mag * 2 ^ A = V r * 2 ^ B) (hp : (A : Int) - B = place + 1074) : double.nearest false mag place = min r 9218868437227405312 := by
  have hm0 : mag ≠ 0 := by
    intro h
    subst h
    have h1 : 0 < V r := by unfold V; exact Nat.mul_pos (mant_pos hr0) (Nat.two_pow_pos _)
    have := Nat.mul_pos h1 (Nat.two_pow_pos B)
    omega
  have hl : mag.log2 + A = (mant r).log2 + expo r + B := by
    rw [← log2_mul_pow mag A hm0, hv]
    unfold V
    rw [log2_mul_pow _ B (Nat.mul_ne_zero (Nat.ne_of_gt (mant_pos hr0)) (Nat.ne_of_gt (Nat.two_pow_pos _))), log2_mul_pow _ _ (Nat.ne_of_gt (mant_pos hr0))]
  have hlm : (mant r).log2 ≤ 52 ∧ (4503599627370496 ≤ r → (mant r).log2 = 52) := by
    refine ⟨?_, fun h => log2_norm (mant_norm h).1 (mant_norm h).2⟩
    have : (mant r).log2 < 53 := (Nat.log2_lt (Nat.ne_of_gt (mant_pos hr0))).2 (by have := mant_lt r; omega)
    omega
  unfold Format.nearest
  rw [if_neg hm0, frac_eq, least_eq]
  have hlast : max (place + (mag.log2 : Int) - (52 : Nat)) (-1074) = -1074 + (expo r : Int) := by
    rcases Nat.lt_or_ge r 4503599627370496 with h1 | h1
    · have := expo_zero (r := r) (by omega)
      have h3 : (mant r).log2 ≤ 51 := by
        have : mant r < 4503599627370496 := by unfold mant; rw [if_pos h1]; exact h1
        have : (mant r).log2 < 52 := (Nat.log2_lt (Nat.ne_of_gt (mant_pos hr0))).2 (by omega)
        omega
      omega
    · have := hlm.2 h1
      omega
  simp only [hlast]
  have hkept : Toward.even.cut false (mag <<< (place - (-1074 + (expo r : Int))).toNat) ((-1074 + (expo r : Int)) - place).toNat = mant r := by
    rcases Int.le_total (-1074 + (expo r : Int)) place with h1 | h1
    · obtain ⟨s, hs⟩ := Int.eq_ofNat_of_zero_le (show 0 ≤ place - (-1074 + (expo r : Int)) by omega)
      have e1 : ((-1074 + (expo r : Int)) - place).toNat = 0 := by omega
      have e2 : mag * 2 ^ s = mant r := by
        have e3 : A = s + (expo r + B) := by omega
        rw [e3, Nat.pow_add, ← Nat.mul_assoc] at hv
        unfold V at hv
        rw [Nat.mul_assoc (mant r), ← Nat.pow_add] at hv
        exact Nat.mul_right_cancel (Nat.two_pow_pos _) hv
      rw [hs, e1, Int.toNat_natCast, Nat.shiftLeft_eq, e2]
      unfold Toward.cut
      simp [Nat.mod_one]
    · obtain ⟨s, hs⟩ := Int.eq_ofNat_of_zero_le (show 0 ≤ (-1074 + (expo r : Int)) - place by omega)
      have e1 : (place - (-1074 + (expo r : Int))).toNat = 0 := by omega
      have e2 : mag = mant r * 2 ^ s := by
        have e3 : expo r + B = s + A := by omega
        unfold V at hv
        rw [Nat.mul_assoc (mant r), ← Nat.pow_add, e3, Nat.pow_add, ← Nat.mul_assoc] at hv
        exact Nat.mul_right_cancel (Nat.two_pow_pos _) hv
      rw [hs, e1, Int.toNat_natCast, Nat.shiftLeft_eq, Nat.pow_zero, Nat.mul_one]
      have hge : s ≤ mag.log2 + 2 := by rw [e2, log2_mul_pow _ _ (Nat.ne_of_gt (mant_pos hr0))]; omega
      unfold Toward.cut
      simp only [Nat.min_eq_left hge, Nat.shiftLeft_eq, Nat.one_mul]
      rw [e2, Nat.mul_div_cancel _ (Nat.two_pow_pos s), Nat.mul_mod_left]
      have : 0 < 2 ^ s := Nat.two_pow_pos s
      simp
  rw [hkept, show ((-1074 + (expo r : Int)) - (-1074)).toNat = expo r by omega, binade_eq, infRung_eq]
  unfold Format.word
  simp only [Bool.false_eq_true, if_false]
  rcases Nat.lt_or_ge r 4503599627370496 with h1 | h1
  · have e1 := expo_zero (r := r) (by omega)
    have e2 : mant r = r := by unfold mant; rw [if_pos h1]
    rw [e1, e2, Nat.zero_mul, Nat.zero_add]
  · rw [← word_of h1]

theorem nearest_exact (r mag A B : Nat) (place : Int) (hr0 : 0 < r) (hr : r < 9218868437227405312) (hv : mag * 2 ^ A = V r * 2 ^ B) (hp : (A : Int) - B = place + 1074) : double.nearest false mag place = r := by
  rw [nearest_cut r mag A B place hr0 hv hp]
  omega

/-- Each number of at most 53 digits, with zeros behind, is a word's (perhaps one beyond infinity). -/
theorem V_exists (m k : Nat) (h0 : 0 < m) (h1 : m < 9007199254740992) : ∃ r, 0 < r ∧ V r = m * 2 ^ k := by
  have hl : m.log2 ≤ 52 := by
    have : m.log2 < 53 := (Nat.log2_lt (by omega)).2 (by omega)
    omega
  by_cases h2 : m.log2 + k ≤ 51
  · have h3 : m * 2 ^ k < 4503599627370496 := by
      have h4 : m < 2 ^ (m.log2 + 1) := Nat.lt_log2_self
      have h5 : m * 2 ^ k < 2 ^ (m.log2 + 1) * 2 ^ k := (Nat.mul_lt_mul_right (Nat.two_pow_pos k)).2 h4
      rw [← Nat.pow_add] at h5
      have h6 := Nat.pow_le_pow_right (n := 2) (by omega) (show m.log2 + 1 + k ≤ 52 by omega)
      omega
    exact ⟨m * 2 ^ k, Nat.mul_pos h0 (Nat.two_pow_pos k), V_small h3⟩
  · obtain ⟨s, hs⟩ : ∃ s, s = 52 - m.log2 := ⟨_, rfl⟩
    obtain ⟨e, he⟩ : ∃ e, e = m.log2 + k - 52 := ⟨_, rfl⟩
    have hm1 : 4503599627370496 ≤ m * 2 ^ s := by
      have h4 := Nat.mul_le_mul_right (2 ^ s) (Nat.log2_self_le (show m ≠ 0 by omega))
      rw [← Nat.pow_add, show m.log2 + s = 52 by omega] at h4
      omega
    have hm2 : m * 2 ^ s < 9007199254740992 := by
      have h4 : m < 2 ^ (m.log2 + 1) := Nat.lt_log2_self
      have h5 : m * 2 ^ s < 2 ^ (m.log2 + 1) * 2 ^ s := (Nat.mul_lt_mul_right (Nat.two_pow_pos s)).2 h4
      rw [← Nat.pow_add, show m.log2 + 1 + s = 53 by omega] at h5
      omega
    obtain ⟨g1, g2⟩ := mant_expo (e := e) hm1 hm2
    refine ⟨e * 4503599627370496 + m * 2 ^ s, by omega, ?_⟩
    unfold V
    rw [g1, g2, Nat.mul_assoc, ← Nat.pow_add, show s + e = k by omega]

/-- The least place, below. -/
def LP : Nat := 1074
theorem LP_eq : LP = 1074 := rfl
def HP : Nat := 972
theorem HP_eq : HP = 972 := rfl
theorem cut_plain (way : Toward) (hw : way = .down ∨ way = .zero) (n drop : Nat) : way.cut false n drop = n / (1 <<< min drop (n.log2 + 2)) := by
  rcases hw with rfl | rfl <;> simp [Toward.cut]

/-- A finite positive number without its fraction, as an integer. -/
theorem cut_floor (r : Nat) (way : Toward) (hw : way = .down ∨ way = .zero) : way.cut false (mant r <<< (-1074 + (expo r : Int)).toNat) (-(-1074 + (expo r : Int))).toNat = V r / 2 ^ LP := by
  have hLP := LP_eq
  rw [cut_plain way hw]
  rcases Nat.le_total LP (expo r) with h | h
  · rw [show (-(-1074 + (expo r : Int))).toNat = 0 by omega, show (-1074 + (expo r : Int)).toNat = expo r - LP by omega]
    simp only [Nat.min_eq_left (Nat.zero_le _), Nat.shiftLeft_eq, Nat.pow_zero, Nat.mul_one, Nat.div_one]
    unfold V
    rw [show expo r = (expo r - LP) + LP by omega, Nat.pow_add, ← Nat.mul_assoc, Nat.mul_div_cancel _ (Nat.two_pow_pos LP), Nat.add_sub_cancel]
  · rw [show (-(-1074 + (expo r : Int))).toNat = LP - expo r by omega, show (-1074 + (expo r : Int)).toNat = 0 by omega]
    simp only [Nat.shiftLeft_eq, Nat.pow_zero, Nat.mul_one, Nat.one_mul]
    have hv : V r / 2 ^ LP = mant r / 2 ^ (LP - expo r) := by
      unfold V
      rw [show LP = (LP - expo r) + expo r by omega, Nat.pow_add, Nat.mul_div_mul_right _ _ (Nat.two_pow_pos _), Nat.add_sub_cancel]
    rw [hv]
    rcases Nat.le_total (LP - expo r) ((mant r).log2 + 2) with h2 | h2
    · rw [Nat.min_eq_left h2]
    · rw [Nat.min_eq_right h2]
      have h3 : mant r < 2 ^ ((mant r).log2 + 2) := Nat.lt_of_lt_of_le Nat.lt_log2_self (Nat.pow_le_pow_right (by omega) (by omega))
      have h4 : 2 ^ ((mant r).log2 + 2) ≤ 2 ^ (LP - expo r) := Nat.pow_le_pow_right (by omega) h2
      rw [Nat.div_eq_of_lt h3, Nat.div_eq_of_lt (by omega)]

/-- A finite positive number as an integer, cut towards zero. -/
theorem toInt_pos (r : Nat) (hr : r < 9218868437227405312) : (double.read r).toInt .zero = some ((V r / 2 ^ LP : Nat) : Int) := by
  rw [read_pos r hr]
  unfold Datum.toInt Datum.integral
  simp only [cut_floor r .zero (.inr rfl)]
  simp [signed]

/-- An integer of at most 53 digits has a word of its own. -/
theorem nearest_nat (n : Nat) (h0 : 0 < n) (h1 : n < 9007199254740992) : ∃ r, 0 < r ∧ r < 9218868437227405312 ∧ V r = n * 2 ^ LP ∧ double.nearest false n 0 = r := by
  obtain ⟨r, hr0, hr⟩ := V_exists n LP h0 h1
  have hlt : r < 9218868437227405312 := by
    rcases Nat.lt_or_ge r 9218868437227405312 with h | h
    · exact h
    · exfalso
      have h2 := V_le h
      have h3 : V 9218868437227405312 = 4503599627370496 * 2 ^ (HP + LP) := by
        obtain ⟨g1, g2⟩ := mant_expo (e := 2046) (m := 4503599627370496) (by omega) (by omega)
        rw [show 2046 * 4503599627370496 + 4503599627370496 = 9218868437227405312 from rfl] at g1 g2
        unfold V
        rw [g1, g2, show 2046 = HP + LP from rfl]
      rw [hr, h3, Nat.pow_add, ← Nat.mul_assoc] at h2
      have h4 := Nat.le_of_mul_le_mul_right h2 (Nat.two_pow_pos LP)
      have h5 := Nat.two_pow_pos HP
      have h6 : 4503599627370496 * 4503599627370496 ≤ 4503599627370496 * 2 ^ HP := Nat.mul_le_mul_left _ (by
        have := Nat.pow_le_pow_right (n := 2) (by omega) (show 52 ≤ HP by have := HP_eq; omega)
        omega)
      omega
  exact ⟨r, hr0, hlt, hr, nearest_exact r n LP 0 0 hr0 hlt (by rw [hr, Nat.pow_zero, Nat.mul_one]) (by have := LP_eq; omega)⟩

/-- A finite positive number without its fraction, as a word (if it is small enough). -/
theorem floor_word (r : Nat) (hr : r < 9218868437227405312) (hs : V r / 2 ^ LP < 9007199254740992) : ∃ q, q < 9218868437227405312 ∧ double.write ((double.read r).integral .down) = q ∧ (double.read q).toInt .zero = some ((V r / 2 ^ LP : Nat) : Int) := by
  rw [read_pos r hr]
  simp only [Datum.integral, cut_floor r .down (.inl rfl), Format.write]
  generalize V r / 2 ^ LP = n at *
  rcases Nat.eq_zero_or_pos n with rfl | hn
  · exact ⟨0, by omega, rfl, by decide +kernel⟩
  · obtain ⟨q, h0, h1, h2, h3⟩ := nearest_nat n hn hs
    exact ⟨q, h1, h3, by rw [toInt_pos q h1, h2, Nat.mul_div_cancel _ (Nat.two_pow_pos LP)]⟩

/-! ### Signs, and the words of integers -/
theorem word_true (r : Nat) : double.word true r = 9223372036854775808 + r := by unfold Format.word; rw [if_pos rfl, sign_eq]
theorem word_false (r : Nat) : double.word false r = r := by unfold Format.word; rw [if_neg (by simp)]
theorem nearest_neg (mag : Nat) (place : Int) : double.nearest true mag place = 9223372036854775808 + double.nearest false mag place := by
  unfold Format.nearest
  by_cases h : mag = 0
  · rw [if_pos h, if_pos h, word_true, word_false]
  · rw [if_neg h, if_neg h, word_true, word_false]
    rfl

/-- The rung of an integer: within its binade. -/
theorem nearest_binade (n : Nat) (h0 : n ≠ 0) (h1 : n.log2 ≤ 63) : (1023 + n.log2) * 4503599627370496 ≤ double.nearest false n 0 ∧ double.nearest false n 0 ≤ (1024 + n.log2) * 4503599627370496 := by
  unfold Format.nearest
  rw [if_neg h0, frac_eq, least_eq, word_false]
  have hl : max ((0 : Int) + (n.log2 : Int) - (52 : Nat)) (-1074) = (n.log2 : Int) - 52 := by omega
  simp only [hl]
  have hkept : 4503599627370496 ≤ Toward.even.cut false (n <<< (0 - ((n.log2 : Int) - 52)).toNat) (((n.log2 : Int) - 52) - 0).toNat ∧ Toward.even.cut false (n <<< (0 - ((n.log2 : Int) - 52)).toNat) (((n.log2 : Int) - 52) - 0).toNat ≤ 9007199254740992 := by
    have hs := Nat.log2_self_le h0
    have hlt : n < 2 ^ (n.log2 + 1) := Nat.lt_log2_self
    rcases Nat.le_total n.log2 52 with h | h
    · rw [show (0 - ((n.log2 : Int) - 52)).toNat = 52 - n.log2 by omega, show (((n.log2 : Int) - 52) - 0).toNat = 0 by omega, Nat.shiftLeft_eq]
      have e1 := Nat.mul_le_mul_right (2 ^ (52 - n.log2)) hs
      rw [← Nat.pow_add, show n.log2 + (52 - n.log2) = 52 by omega] at e1
      have e2 := (Nat.mul_lt_mul_right (Nat.two_pow_pos (52 - n.log2))).2 hlt
      rw [← Nat.pow_add, show n.log2 + 1 + (52 - n.log2) = 53 by omega] at e2
      unfold Toward.cut
      simp only [Nat.zero_min, Nat.shiftLeft_eq, Nat.pow_zero, Nat.mul_one, Nat.div_one, Nat.mod_one]
      simp
      omega
    · rw [show (0 - ((n.log2 : Int) - 52)).toNat = 0 by omega, show (((n.log2 : Int) - 52) - 0).toNat = n.log2 - 52 by omega, Nat.shiftLeft_eq, Nat.pow_zero, Nat.mul_one]
      unfold Toward.cut
      simp only [Nat.min_eq_left (show n.log2 - 52 ≤ n.log2 + 2 by omega), Nat.shiftLeft_eq, Nat.one_mul]
      have hp := Nat.two_pow_pos (n.log2 - 52)
      have e1 : 4503599627370496 ≤ n / 2 ^ (n.log2 - 52) := by
        rw [Nat.le_div_iff_mul_le hp]
        have : 4503599627370496 * 2 ^ (n.log2 - 52) = 2 ^ n.log2 := by rw [show (4503599627370496 : Nat) = 2 ^ 52 from rfl, ← Nat.pow_add, show 52 + (n.log2 - 52) = n.log2 by omega]
        omega
      have e2 : n / 2 ^ (n.log2 - 52) < 9007199254740992 := by
        rw [Nat.div_lt_iff_lt_mul hp]
        have : 9007199254740992 * 2 ^ (n.log2 - 52) = 2 ^ (n.log2 + 1) := by rw [show (9007199254740992 : Nat) = 2 ^ 53 from rfl, ← Nat.pow_add, show 53 + (n.log2 - 52) = n.log2 + 1 by omega]
        omega
      have e3 : ∀ b : Bool, b.toNat ≤ 1 := fun b => by cases b <;> simp
      have := e3 (decide (2 ^ (n.log2 - 52) < 2 * (n % 2 ^ (n.log2 - 52))) || (2 ^ (n.log2 - 52) == 2 * (n % 2 ^ (n.log2 - 52)) && n / 2 ^ (n.log2 - 52) % 2 == 1))
      omega
  rw [show (((n.log2 : Int) - 52) - (-1074)).toNat = 1022 + n.log2 by omega, binade_eq, infRung_eq]
  omega

/-! ### A number times 1, and through 65536 -/
theorem mul_one_word (r : Nat) (h0 : 4503599627370496 ≤ r) (h1 : r < 9218868437227405312) (s : Bool) : double.mul 4607182418800017408 (double.word s r) = some (double.word s r) := by
  have g : double.read 4607182418800017408 = .number false 4503599627370496 (-52) := by decide +kernel
  unfold Format.mul
  have key : double.nearest false (4503599627370496 * mant r) (-52 + (-1074 + (expo r : Int))) = r := by
    refine nearest_exact r (4503599627370496 * mant r) (expo r) 52 _ (by omega) h1 ?_ (by omega)
    unfold V
    rw [show (2 : Nat) ^ 52 = 4503599627370496 from rfl, Nat.mul_comm (mant r * _), Nat.mul_assoc]
  cases s with
  | false =>
    rw [word_false, g, read_pos r h1]
    simp only [Datum.product, Option.map_some, Format.write, Bool.xor_self]
    rw [key]
  | true =>
    rw [word_true, g, read_neg r h1]
    simp only [Datum.product, Option.map_some, Format.write, Bool.false_xor]
    rw [nearest_neg, key]
theorem div_word (r : Nat) (h0 : 17 * 4503599627370496 ≤ r) (h1 : r < 9218868437227405312) (s : Bool) : double.div (double.word s r) 4679240012837945344 = some (double.word s (r - 16 * 4503599627370496)) := by
  have g : double.read 4679240012837945344 = .number false 4503599627370496 (-36) := by decide +kernel
  have hm := mant_norm (r := r) (by omega)
  have hl : (mant r).log2 = 52 := log2_norm hm.1 hm.2
  have hl2 : (4503599627370496 : Nat).log2 = 52 := by decide +kernel
  have he : expo (r - 16 * 4503599627370496) + 16 = expo r := by unfold expo; omega
  have hm2 : mant (r - 16 * 4503599627370496) = mant r := by unfold mant; rw [if_neg (by omega), if_neg (by omega)]; omega
  have hq : 2 * ((mant r <<< (54 + 52 - 52)) / 4503599627370496) + ((mant r <<< (54 + 52 - 52)) % 4503599627370496 != 0).toNat = 8 * mant r := by
    rw [Nat.shiftLeft_eq, show 54 + 52 - 52 = 54 from rfl, show (2 : Nat) ^ 54 = 4 * 4503599627370496 from rfl, ← Nat.mul_assoc, Nat.mul_div_cancel _ (by omega), Nat.mul_mod_left]
    simp
    omega
  have key : double.nearest false (8 * mant r) (-1074 + (expo r : Int) - (-36) - ((54 + 52 - 52 : Nat) : Int) - 1) = r - 16 * 4503599627370496 := by
    refine nearest_exact _ (8 * mant r) (expo (r - 16 * 4503599627370496)) 3 _ (by omega) (by omega) ?_ (by omega)
    unfold V
    rw [hm2, show (2 : Nat) ^ 3 = 8 from rfl, Nat.mul_comm (mant r * _), Nat.mul_assoc]
  unfold Format.div
  cases s with
  | false =>
    rw [word_false, g, read_pos r h1]
    simp only [Datum.quotient, frac_eq, hl, hl2]
    rw [if_neg (by omega)]
    simp only [Option.map_some, Format.write, Bool.xor_self]
    rw [hq, key, word_false]
  | true =>
    rw [word_true, g, read_neg r h1]
    simp only [Datum.quotient, frac_eq, hl, hl2]
    rw [if_neg (by omega)]
    simp only [Option.map_some, Format.write, Bool.xor_false]
    rw [hq, nearest_neg, key, word_true]

end Go.Proofs.Ytlgikpfjonnhmaa.FP
