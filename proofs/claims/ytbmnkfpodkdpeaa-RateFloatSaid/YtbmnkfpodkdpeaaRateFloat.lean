/- A rate that was in 65536ths, as a float64: Float is the division by 65536 to the last bit, and Fixed brings the rate back. -/
import Derived.Test.YtbmnkfpodkdpeaaQstowagelaw09awake
import Derived.Test.YtbmnkfpodkdpeaaRateMath
import Derived.Test.YtbmnkfpodkdpeaaFloatBits
namespace Go.Proofs.Ytbmnkfpodkdpeaa.RM
open Go.RowKit Go.Proofs.Ytbmnkfpodkdpeaa.FP

theorem andNot_sign (b : Nat) (hb : b < 18446744073709551616) : Go.bits .andNot .u64 (b : Int) 9223372036854775808 = ((b % 9223372036854775808 : Nat) : Int) := by
  rw [show (9223372036854775808 : Int) = ((9223372036854775808 : Nat) : Int) from rfl, u64_andNot_nat b 9223372036854775808 hb (by omega)]
  congr 1
  exact Nat.and_two_pow_sub_one_eq_mod b 63
theorem abs_any (b : Nat) (hb : b < 18446744073709551616) (w : World) : Calls Try.prog 43 #[.float .f64 b] w fun e w' => e = .returned (.float .f64 (b % 9223372036854775808)) ∧ w' = w := by
  have h1 := run_bits b
  have h2 := run_from
  have h3 := andNot_sign b hb
  generalize b % 9223372036854775808 = r at *
  go_enter Try.func43, Try.ntmps43
  go_wp2
  go_ret
  exact ⟨rfl, rfl⟩

/-- A finite number of either sign. -/
def wd (s : Bool) (r : Nat) : Nat := Ieee.double.word s r
theorem wd_mod (s : Bool) (r : Nat) (hr : r < 9223372036854775808) : wd s r % 9223372036854775808 = r := by
  unfold wd; cases s
  · rw [word_false]; omega
  · rw [word_true]; omega
theorem wd_lt (s : Bool) (r : Nat) (hr : r < 9223372036854775808) : wd s r < 18446744073709551616 := by
  unfold wd; cases s
  · rw [word_false]; omega
  · rw [word_true]; omega
theorem order_same (s : Bool) (r : Nat) (hr : r < 9218868437227405312) : FloatKind.f64.format.order (wd s r) (wd s r) = some .eq := by
  show Ieee.double.order (wd s r) (wd s r) = _
  unfold Ieee.Format.order wd
  cases s
  · rw [word_false, read_pos r hr]; simp only [Ieee.Datum.order]; rw [Int.compare_eq_eq.2 rfl]
  · rw [word_true, read_neg r hr]; simp only [Ieee.Datum.order]; rw [Int.compare_eq_eq.2 rfl]
theorem order_not_zero (s : Bool) (r : Nat) (h0 : 0 < r) (hr : r < 9218868437227405312) : FloatKind.f64.format.order (wd s r) 0 = some (if s then .lt else .gt) := by
  have g : Ieee.double.read 0 = .number false 0 (-1074) := by decide +kernel
  cases s
  · show FloatKind.f64.format.order (Ieee.double.word false r) 0 = _
    rw [word_false, order64 (by omega) (by omega), Nat.compare_eq_gt.2 h0]; rfl
  · show Ieee.double.order (Ieee.double.word true r) 0 = _
    unfold Ieee.Format.order
    rw [word_true, read_neg r hr, g]
    simp only [Ieee.Datum.order]
    have hm := mant_pos h0
    have : 0 < mant r <<< (-1074 + (expo r : Int) - min (-1074 + (expo r : Int)) (-1074)).toNat := by
      rw [Nat.shiftLeft_eq]; exact Nat.mul_pos hm (Nat.two_pow_pos _)
    rw [Int.compare_eq_lt.2]
    · rfl
    · unfold Ieee.signed
      rw [if_pos rfl, if_neg (by simp), Nat.zero_shiftLeft]
      generalize mant r <<< (-1074 + (expo r : Int) - min (-1074 + (expo r : Int)) (-1074)).toNat = z at *
      omega

theorem isNaN_any (s : Bool) (r : Nat) (hr : r < 9218868437227405312) (w : World) : Calls Try.prog 37 #[.float .f64 (wd s r)] w fun e w' => e = .returned (.bool false) ∧ w' = w := by
  have ho := order_same s r hr
  generalize wd s r = b at *
  go_enter Try.func37, Try.ntmps37
  go_wp2
  go_ret
  exact ⟨rfl, rfl⟩
theorem isInf_any (s : Bool) (r : Nat) (hr : r < 9218868437227405312) (w : World) : Calls Try.prog 38 #[.float .f64 (wd s r), .int .i64 0] w fun e w' => e = .returned (.bool false) ∧ w' = w := by
  have ho : FloatKind.f64.format.order r 9218868437227405311 = some .lt ∨ FloatKind.f64.format.order r 9218868437227405311 = some .eq := by
    rw [order64 (by omega) (by omega)]
    rcases Nat.lt_or_ge r 9218868437227405311 with h | h
    · left; rw [Nat.compare_eq_lt.2 h]
    · right; rw [Nat.compare_eq_eq.2 (by omega)]
  have hA := fun w => abs_any (wd s r) (wd_lt s r (by omega)) w
  rw [wd_mod s r (by omega)] at hA
  have HA := Lib.hid hA
  clear hA
  generalize wd s r = b at *
  rcases ho with ho | ho
  all_goals
    go_enter Try.func38, Try.ntmps38
    go_wp2_with (go_at_call 43; refine (HA.out _).mono ?_; rintro e w' ⟨rfl, rfl⟩)
    go_ret
    exact ⟨rfl, rfl⟩
theorem normalize_norm (s : Bool) (r : Nat) (h0 : 4503599627370496 ≤ r) (hr : r < 9218868437227405312) (w : World) : Calls Try.prog 40 #[.float .f64 (wd s r)] w fun e w' => e = .returned (.tuple #[.float .f64 (wd s r), .int .i64 0]) ∧ w' = w := by
  have ho : FloatKind.f64.format.order r 4503599627370496 = some .gt ∨ FloatKind.f64.format.order r 4503599627370496 = some .eq := by
    rw [order64 (by omega) (by omega)]
    rcases Nat.lt_or_ge 4503599627370496 r with h | h
    · left; rw [Nat.compare_eq_gt.2 h]
    · right; rw [Nat.compare_eq_eq.2 (by omega)]
  have hA := fun w => abs_any (wd s r) (wd_lt s r (by omega)) w
  rw [wd_mod s r (by omega)] at hA
  have HA := Lib.hid hA
  clear hA
  generalize wd s r = b at *
  rcases ho with ho | ho
  all_goals
    go_enter Try.func40, Try.ntmps40
    go_wp2_with (go_at_call 43; refine (HA.out _).mono ?_; rintro e w' ⟨rfl, rfl⟩)
    go_ret2
    exact ⟨rfl, rfl⟩

theorem and2047 (c : Nat) (hc : c < 18446744073709551616) : Go.bits .and .i64 ((c : Int) / 4503599627370496) 2047 = ((c / 4503599627370496 % 2048 : Nat) : Int) := by
  rw [show ((c : Int) / 4503599627370496) = ((c / 4503599627370496 : Nat) : Int) by omega]
  have := bits_mask .i64 63 (by decide) (fun n h0 h1 => IntWalk.i64_in n (by omega)) 11 (by decide) ((c / 4503599627370496 : Nat) : Int) (by omega) (by omega)
  rw [show (2 : Int) ^ 11 - 1 = 2047 from rfl] at this
  rw [this]
  rfl

set_option maxRecDepth 100000 in
theorem ldexp16 (s : Bool) (r : Nat) (h0 : 17 * 4503599627370496 ≤ r) (hr : r < 9218868437227405312) (w : World) : Calls Try.prog 36 #[.float .f64 (wd s r), .int .i64 (-16)] w fun e w' => e = .returned (.float .f64 (wd s (r - 16 * 4503599627370496))) ∧ w' = w := by
  have hz : (FloatKind.f64.format.order (wd s r) 0 == some .eq) = false := by rw [order_not_zero s r (by omega) hr]; cases s <;> rfl
  have hbits := run_bits
  have hfrom := run_from
  have hand := and2047 (wd s r) (wd_lt s r (by omega))
  have hE : wd s r / 4503599627370496 % 2048 = r / 4503599627370496 := by
    unfold wd; cases s
    · rw [word_false]; omega
    · rw [word_true]; omega
  rw [hE] at hand
  have H1 := Lib.hid (isInf_any s r hr)
  have H2 := Lib.hid (isNaN_any s r hr)
  have H3 := Lib.hid (normalize_norm s r (by omega) hr)
  obtain ⟨q, hq⟩ : ∃ q, q = r / 4503599627370496 := ⟨_, rfl⟩
  have hq1 : 17 ≤ (q : Int) := by omega
  have hq2 : (q : Int) < 2047 := by omega
  rw [← hq] at hand
  clear hE
  have hc4 : ((wd s r : Nat) : Int) / 4503599627370496 < 4096 := by have := wd_lt s r (by omega); omega
  have hput : Go.bits .or .u64 (Go.bits .andNot .u64 ((wd s r : Nat) : Int) 9218868437227405312) ((-16 + ((q : Int) - 1023) + 1023) * 4503599627370496) = ((wd s (r - 16 * 4503599627370496) : Nat) : Int) := by
    have := bits_put s r (q - 16) (by omega) (by omega)
    rw [show (((q - 16 : Nat)) : Int) = (-16 + ((q : Int) - 1023) + 1023) by omega, show (q - 16) * 4503599627370496 + r % 4503599627370496 = r - 16 * 4503599627370496 by omega] at this
    exact this
  have hmul : floatBits .mul .f64 4607182418800017408 (wd s (r - 16 * 4503599627370496)) = some (wd s (r - 16 * 4503599627370496)) := mul_one_word _ (by omega) (by omega) s
  have hrun := fun w t => run_float_arith (P := Try.prog) w .mul t .f64 _ _ _ hmul
  clear hmul hq
  generalize hd : wd s (r - 16 * 4503599627370496) = d at *
  clear hd
  generalize hc : wd s r = c at *
  clear hc
  go_enter Try.func36, Try.ntmps36
  go_wp2_with (first | (go_at_call 38; refine (H1.out _).mono ?_; rintro e w' ⟨rfl, rfl⟩) | (go_at_call 37; refine (H2.out _).mono ?_; rintro e w' ⟨rfl, rfl⟩) | (go_at_call 40; refine (H3.out _).mono ?_; rintro e w' ⟨rfl, rfl⟩))
  go_ret
  exact ⟨rfl, rfl⟩

set_option maxRecDepth 100000 in
/-- Zero stays zero. -/
theorem ldexp_zero (w : World) : Calls Try.prog 36 #[.float .f64 0, .int .i64 (-16)] w fun e w' => e = .returned (.float .f64 0) ∧ w' = w := by
  have hz : (FloatKind.f64.format.order 0 0 == some .eq) = true := by decide +kernel
  go_enter Try.func36, Try.ntmps36
  go_wp2
  go_ret
  exact ⟨rfl, rfl⟩

/-- The word of n over 65536. -/
def over (n : Int) : Nat := if n = 0 then 0 else wd (decide (n < 0)) (Ieee.double.nearest false n.natAbs 0 - 16 * 4503599627370496)

theorem rung (n : Int) (hn : n ≠ 0) (h0 : -9223372036854775808 ≤ n) (h1 : n ≤ 9223372036854775807) : 17 * 4503599627370496 ≤ Ieee.double.nearest false n.natAbs 0 ∧ Ieee.double.nearest false n.natAbs 0 < 9218868437227405312 := by
  have hl : n.natAbs.log2 ≤ 63 := by
    have : n.natAbs.log2 < 64 := (Nat.log2_lt (by omega)).2 (show n.natAbs < 18446744073709551616 by omega)
    omega
  have hb := nearest_binade n.natAbs (by omega) hl
  exact ⟨Nat.le_trans (Nat.mul_le_mul_right _ (show 17 ≤ 1023 + n.natAbs.log2 by omega)) hb.1, Nat.lt_of_le_of_lt hb.2 (Nat.lt_of_le_of_lt (Nat.mul_le_mul_right _ (show 1024 + n.natAbs.log2 ≤ 1087 by omega)) (by decide))⟩
theorem of_int (n : Int) : floatOfInt .f64 n = wd (decide (n < 0)) (Ieee.double.nearest false n.natAbs 0) := by
  unfold floatOfInt FloatKind.nearest FloatKind.encode FloatKind.format Ieee.Format.write wd
  dsimp only
  cases decide (n < 0)
  · rw [word_false]
  · rw [word_true, nearest_neg]
theorem of_zero : floatOfInt .f64 0 = 0 := by decide +kernel

theorem Ldexp_calls (n : Int) (h0 : -9223372036854775808 ≤ n) (h1 : n ≤ 9223372036854775807) (w : World) : Calls Try.prog 31 #[.float .f64 (floatOfInt .f64 n), .int .i64 (-16)] w fun e w' => e = .returned (.float .f64 (over n)) ∧ w' = w := by
  have H : Hid (∀ w, Calls Try.prog 36 #[.float .f64 (floatOfInt .f64 n), .int .i64 (-16)] w fun e w' => e = .returned (.float .f64 (over n)) ∧ w' = w) := by
    refine Lib.hid (fun w => ?_)
    by_cases hn : n = 0
    · subst hn
      rw [of_zero]
      exact ldexp_zero w
    · unfold over
      rw [of_int n, if_neg hn]
      have := rung n hn h0 h1
      exact ldexp16 _ _ this.1 this.2 w
  generalize floatOfInt .f64 n = c at *
  generalize over n = d at *
  go_enter Try.func31, Try.ntmps31
  go_wp2_with (go_at_call 36; refine (H.out _).mono ?_; rintro e w' ⟨rfl, rfl⟩)
  go_ret
  exact ⟨rfl, rfl⟩

theorem Float_calls (n : Int) (h0 : -9223372036854775808 ≤ n) (h1 : n ≤ 9223372036854775807) (w : World) : Calls Try.prog 26 #[.int .i64 n] w fun e w' => e = .returned (.float .f64 (over n)) ∧ w' = w := by
  have H := Lib.hid (Ldexp_calls n h0 h1)
  generalize over n = d at *
  go_enter Try.func26, Try.ntmps26
  go_wp2_with (go_at_call 31; refine (H.out _).mono ?_; rintro e w' ⟨rfl, rfl⟩)
  go_ret
  exact ⟨rfl, rfl⟩

theorem div_over (n : Int) (h0 : -9223372036854775808 ≤ n) (h1 : n ≤ 9223372036854775807) : floatBits .quo .f64 (floatOfInt .f64 n) 4679240012837945344 = some (over n) := by
  by_cases hn : n = 0
  · subst hn
    decide +kernel
  · unfold over
    rw [of_int n, if_neg hn]
    have := rung n hn h0 h1
    exact div_word _ this.1 this.2 _

/-- Back it is the rate. -/
theorem fixed_over (n : Int) (h0 : 0 ≤ n) (h1 : n ≤ 4294967296) : fixed (over n) = n := by
  by_cases hn : n = 0
  · subst hn
    decide +kernel
  · obtain ⟨m, rfl⟩ := Int.eq_ofNat_of_zero_le h0
    obtain ⟨r, hr0, hr1, hr2, hr3⟩ := nearest_nat m (by omega) (by omega)
    have hg := rung m hn (by omega) (by omega)
    rw [Int.natAbs_natCast, hr3] at hg
    have ho : over (m : Int) = r - 16 * 4503599627370496 := by
      unfold over
      rw [if_neg hn, decide_eq_false (by omega), Int.natAbs_natCast, hr3]
      unfold wd
      rw [word_false]
    have hv : V (r - 16 * 4503599627370496) * 65536 = m * 2 ^ LP := by
      rw [← hr2]
      have e1 : expo (r - 16 * 4503599627370496) + 16 = expo r := by unfold expo; omega
      have e2 : mant (r - 16 * 4503599627370496) = mant r := by unfold mant; rw [if_neg (by omega), if_neg (by omega)]; omega
      unfold V
      rw [e2, ← e1, Nat.pow_add, ← Nat.mul_assoc]
    have hpos := Nat.two_pow_pos LP
    rw [ho]
    unfold fixed
    rw [if_neg (by omega), if_neg (by omega)]
    by_cases hc : 4679240012837945344 ≤ r - 16 * 4503599627370496
    · rw [if_pos hc]
      have e := V_le hc
      rw [V_one16] at e
      have e2 : 4294967296 * 2 ^ LP ≤ m * 2 ^ LP := by omega
      have := Nat.le_of_mul_le_mul_right e2 hpos
      omega
    · rw [if_neg hc, hv, Nat.mul_div_cancel _ hpos]

set_option maxHeartbeats 1000000 in
theorem float_walk (n : Int) (w : World) (h0 : -9223372036854775808 ≤ n) (h1 : n ≤ 9223372036854775807) : Calls Try.prog 13 #[.int .i64 n] w fun e w' => e = .returned (.bool true) ∧ Below w.heap.size w w' := by
  have H := Lib.hid (Float_calls n h0 h1)
  have hdiv := div_over n h0 h1
  have hrun := fun w t => run_float_arith (P := Try.prog) w .quo t .f64 _ _ _ hdiv
  have hbits := run_bits
  have ho : over n < 18446744073709551616 := by
    unfold over; split
    · omega
    · rename_i hn
      have := rung n hn h0 h1
      exact wd_lt _ _ (by omega)
  have HF := Lib.hid (fixed_calls (over n) ho)
  have HV := Lib.hid (fixed_over n)
  clear hdiv
  generalize over n = d at *
  by_cases ha : 0 ≤ n ∧ n ≤ 4294967296
  · have HV2 := Lib.hid (HV.out ha.1 ha.2)
    obtain ⟨ha1, ha2⟩ := ha
    clear HV
    go_enter Try.func13, Try.ntmps13
    go_wp2_with fail
    refine (H.out _).mono ?_
    rintro e w1 ⟨rfl, rfl⟩
    go_wp2_with fail
    refine (HF.out _).mono ?_
    rw [HV2.out]
    rintro e w2 ⟨rfl, k, rfl⟩
    go_wp2_with fail
    refine (Go.Proofs.Ytbmnkfpodkdpeaa.Q.stowagelaw09_awake.calls true _ rfl).mono ?_
    rintro e w3 ⟨rfl, hb3⟩
    have HB3 := Lib.hid hb3
    clear hb3
    go_wp2_with fail
    go_ret
    exact ⟨rfl, (Go.Proofs.YtbmnkfpodkdpeaaW.PrintWords.pw_below_drewN (Below.refl _ _) k).trans HB3.out⟩
  · have hcases : n < 0 ∨ 4294967296 < n := by omega
    clear ha HV HF
    rcases hcases with hn | hn
    all_goals
      go_enter Try.func13, Try.ntmps13
      go_wp2_with fail
      refine (H.out _).mono ?_
      rintro e w1 ⟨rfl, rfl⟩
      go_wp2_with fail
      refine (Go.Proofs.Ytbmnkfpodkdpeaa.Q.stowagelaw09_awake.calls true _ rfl).mono ?_
      rintro e w3 ⟨rfl, hb3⟩
      have HB3 := Lib.hid hb3
      clear hb3
      go_wp2_with fail
      go_ret
      exact ⟨rfl, HB3.out⟩

theorem wf_i64 {x : Int} (h : (Lit.int .i64 x).wf = true) : -9223372036854775808 ≤ x ∧ x ≤ 9223372036854775807 := by
  simp [Lit.wf, IntKind.min, IntKind.max, IntKind.bits, IntKind.signed] at h
  omega

end Go.Proofs.Ytbmnkfpodkdpeaa.RM
