/- The rate of any float64 in 65536ths: the program's answer is the document's, which goes by the bits. -/
import Derived.Test.YtbmnkfpodkdpeaaQstowagelaw09awake
import Derived.Test.YtbmnkfpodkdpeaaRateMath
import Derived.LoopTactic
namespace Go.Proofs.Ytbmnkfpodkdpeaa.RM
open Go.RowKit Go.Proofs.Ytbmnkfpodkdpeaa.FP

set_option maxRecDepth 100000 in
/-- The reference's loop: halving N times. -/
theorem ref_loop_calls (b : Nat) (hb : 0 < b) (h1 : b < 4679240012837945344) (w : World) : Calls Try.prog 17 #[.float .f64 b] w fun e w' => e = .returned (.int .i64 (fixed b)) ∧ w' = w := by
  have hbits := run_bits
  have hz0 : ((b : Int) == 0) = false := by rw [beq_eq_false_iff_ne]; omega
  have hz1 : decide (9218868437227405312 < (b : Int)) = false := decide_eq_false (by omega)
  have hfix : fixed b = ((mant b / 2 ^ (1058 - expo b) : Nat) : Int) := by
    unfold fixed
    rw [if_neg (by omega), if_neg (by omega), if_neg (by omega)]
    congr 1
    have hE : expo b ≤ 1037 := by unfold expo; omega
    have hL := LP_eq
    have e1 : V b * 65536 = mant b * 2 ^ (expo b + 16) := by
      unfold V
      rw [show (65536 : Nat) = 2 ^ 16 from rfl, Nat.mul_assoc, ← Nat.pow_add]
    rw [e1, show LP = (1058 - expo b) + (expo b + 16) by omega, Nat.pow_add 2 (1058 - expo b) (expo b + 16), Nat.mul_div_mul_right _ _ (Nat.two_pow_pos _)]
  obtain ⟨q, hq⟩ : ∃ q, q = b / 4503599627370496 := ⟨_, rfl⟩
  have hsh : (b : Int) / 4503599627370496 = (q : Int) := by omega
  obtain ⟨M, hM⟩ : ∃ M, M = mant b := ⟨_, rfl⟩
  obtain ⟨N, hN⟩ : ∃ N, N = 1058 - expo b := ⟨_, rfl⟩
  rw [← hM, ← hN] at hfix
  have hE : expo b = q - 1 := by rw [hq]; rfl
  have hm0 : mant b < 9007199254740992 := mant_lt b
  have hN2 : N ≤ 1058 := by omega
  have hM2 : M < 9007199254740992 := by omega
  -- the loop's round, at either start
  have half : ∀ i : Nat, M / 2 ^ (i + 1) = M / 2 ^ i / 2 := fun i => by rw [Nat.pow_succ, Nat.div_div_eq_div_mul]
  have none : ∀ i : Nat, i ≤ N → M / 2 ^ i = 0 → M / 2 ^ N = 0 := fun i hi h => by
    have h1 : 0 < 2 ^ i := Nat.two_pow_pos i
    have h2 : M < 2 ^ i := by
      rcases Nat.lt_or_ge M (2 ^ i) with h3 | h3
      · exact h3
      · have := (Nat.le_div_iff_mul_le h1).2 (show 1 * 2 ^ i ≤ M by omega)
        omega
    exact Nat.div_eq_of_lt (Nat.lt_of_lt_of_le h2 (Nat.pow_le_pow_right (by omega) hi))
  have Hhalf := Lib.hid half
  have Hnone := Lib.hid none
  clear half none
  rcases Nat.eq_zero_or_pos q with h0 | h0
  · have hMb : M = b := by rw [hM]; unfold mant; rw [if_pos (by omega)]
    have hNN : N = 1058 := by omega
    have hb2 : (b : Int) < 4503599627370496 := by omega
    have hsh0 : (b : Int) / 4503599627370496 = 0 := by omega
    have hre : (b : Int) % 4503599627370496 = b := by omega
    have HF := Lib.hid hfix
    have HMb := Lib.hid hMb
    have HNN := Lib.hid hNN
    clear hq hM hN hE h0 hfix hMb hNN hsh
    go_enter Try.func17, Try.ntmps17
    go_wp2
    go_loop [4, 5] (fun m e => ∃ i : Nat, i ≤ N ∧ e = .int .i64 ((i : Int) - N) ∧ m = .int .u64 ((M / 2 ^ i : Nat) : Int)) (fun _ e => (0 - intOf e).toNat)
    case atStart => exact ⟨0, Nat.zero_le _, by have := HNN.out; congr 1; omega, by have := HMb.out; rw [Nat.pow_zero, Nat.div_one]; congr 1; omega⟩
    case round =>
      obtain ⟨i, hi, rfl, rfl⟩ := hrel
      have Hx := Lib.hid (Hhalf.out i)
      have Hy := Lib.hid (Hnone.out i hi)
      have hx3 : M / 2 ^ i ≤ M := Nat.div_le_self _ _
      obtain ⟨x, hx⟩ : ∃ x, x = M / 2 ^ i := ⟨_, rfl⟩
      rw [← hx] at Hx Hy hx3 ⊢
      have HX := Lib.hid hx
      clear hx
      by_cases hlt : (i : Int) - N < 0
      · by_cases hpos : 0 < x
        · go_wp2
          go_round
          case rel => exact ⟨i + 1, by omega, by congr 1; omega, by rw [Hx.out]; first | rfl | (congr 1; omega)⟩
          case measure => simp [intOf]; omega
        · have hx0 : x = 0 := by omega
          have HZ := Lib.hid (Hy.out hx0)
          clear Hy
          subst hx0
          go_wp2
          go_ret
          exact ⟨by rw [HF.out, HZ.out]; rfl, rfl⟩
      · obtain rfl : i = N := by omega
        go_wp2
        go_ret
        exact ⟨by rw [HF.out, ← HX.out]; rfl, rfl⟩
  · have hMb : M = 4503599627370496 + b % 4503599627370496 := by rw [hM]; unfold mant; rw [if_neg (by omega)]
    have hNN : (N : Int) = 1059 - q := by omega
    have hq1 : (q : Int) < 1039 := by omega
    have hq0 : (0 : Int) < q := by omega
    have HF := Lib.hid hfix
    have HMb := Lib.hid hMb
    have HNN := Lib.hid hNN
    clear hq hM hN hE h0 hfix hMb hNN
    go_enter Try.func17, Try.ntmps17
    go_wp2
    go_loop [4, 5] (fun m e => ∃ i : Nat, i ≤ N ∧ e = .int .i64 ((i : Int) - N) ∧ m = .int .u64 ((M / 2 ^ i : Nat) : Int)) (fun _ e => (0 - intOf e).toNat)
    case atStart => exact ⟨0, Nat.zero_le _, by have := HNN.out; congr 1; omega, by have := HMb.out; rw [Nat.pow_zero, Nat.div_one]; congr 1; omega⟩
    case round =>
      obtain ⟨i, hi, rfl, rfl⟩ := hrel
      have Hx := Lib.hid (Hhalf.out i)
      have Hy := Lib.hid (Hnone.out i hi)
      have hx3 : M / 2 ^ i ≤ M := Nat.div_le_self _ _
      obtain ⟨x, hx⟩ : ∃ x, x = M / 2 ^ i := ⟨_, rfl⟩
      rw [← hx] at Hx Hy hx3 ⊢
      have HX := Lib.hid hx
      clear hx
      by_cases hlt : (i : Int) - N < 0
      · by_cases hpos : 0 < x
        · go_wp2
          go_round
          case rel => exact ⟨i + 1, by omega, by congr 1; omega, by rw [Hx.out]; first | rfl | (congr 1; omega)⟩
          case measure => simp [intOf]; omega
        · have hx0 : x = 0 := by omega
          have HZ := Lib.hid (Hy.out hx0)
          clear Hy
          subst hx0
          go_wp2
          go_ret
          exact ⟨by rw [HF.out, HZ.out]; rfl, rfl⟩
      · obtain rfl : i = N := by omega
        go_wp2
        go_ret
        exact ⟨by rw [HF.out, ← HX.out]; rfl, rfl⟩

theorem ref_zero (b : Nat) (h : b = 0 ∨ 9218868437227405312 < b) (w : World) : Calls Try.prog 17 #[.float .f64 b] w fun e w' => e = .returned (.int .i64 0) ∧ w' = w := by
  have hbits := run_bits
  rcases h with rfl | h
  · go_enter Try.func17, Try.ntmps17
    go_wp2
    go_ret
    exact ⟨rfl, rfl⟩
  · have hz0 : ((b : Int) == 0) = false := by rw [beq_eq_false_iff_ne]; omega
    have hz1 : decide (9218868437227405312 < (b : Int)) = true := decide_eq_true (by omega)
    go_enter Try.func17, Try.ntmps17
    go_wp2
    go_ret
    exact ⟨rfl, rfl⟩

theorem ref_top (b : Nat) (h : 4679240012837945344 ≤ b) (h2 : b ≤ 9218868437227405312) (w : World) : Calls Try.prog 17 #[.float .f64 b] w fun e w' => e = .returned (.int .i64 4294967296) ∧ w' = w := by
  have hbits := run_bits
  have hz0 : ((b : Int) == 0) = false := by rw [beq_eq_false_iff_ne]; omega
  have hz1 : decide (9218868437227405312 < (b : Int)) = false := decide_eq_false (by omega)
  obtain ⟨q, hq⟩ : ∃ q, q = b / 4503599627370496 := ⟨_, rfl⟩
  have hsh : (b : Int) / 4503599627370496 = (q : Int) := by omega
  have hq1 : 1039 ≤ (q : Int) := by omega
  have hq2 : (q : Int) ≤ 2047 := by omega
  clear hq
  go_enter Try.func17, Try.ntmps17
  go_wp2
  go_ret
  exact ⟨rfl, rfl⟩

theorem ref_calls (b : Nat) (w : World) : Calls Try.prog 17 #[.float .f64 b] w fun e w' => e = .returned (.int .i64 (fixed b)) ∧ w' = w := by
  by_cases h0 : b = 0
  · rw [show fixed b = 0 by unfold fixed; rw [if_pos h0]]
    exact ref_zero b (.inl h0) w
  by_cases h1 : 9218868437227405312 < b
  · rw [show fixed b = 0 by unfold fixed; rw [if_neg h0, if_pos h1]]
    exact ref_zero b (.inr h1) w
  by_cases h2 : 4679240012837945344 ≤ b
  · rw [show fixed b = 4294967296 by unfold fixed; rw [if_neg h0, if_neg h1, if_pos h2]]
    exact ref_top b h2 (by omega) w
  · exact ref_loop_calls b (by omega) (by omega) w

theorem fixed_walk (n : Int) (w : World) (h0 : 0 ≤ n) (h1 : n < 18446744073709551616) : Calls Try.prog 3 #[.int .u64 n] w fun e w' => e = .returned (.bool true) ∧ Below w.heap.size w w' := by
  obtain ⟨b, rfl⟩ := Int.eq_ofNat_of_zero_le h0
  have hfrom := run_from
  have h2 : b < 18446744073709551616 := by omega
  generalize hf : fixed b = c
  have HF := Lib.hid hf
  clear hf
  go_enter Try.func3, Try.ntmps3
  go_wp2_with fail
  refine (Go.Proofs.Ytbmnkfpodkdpeaa.Q.stowagelaw09_awake.calls true _ rfl).mono ?_
  rintro e w1 ⟨rfl, hb1⟩
  have HB1 := Lib.hid hb1
  clear hb1
  go_wp2_with fail
  refine (fixed_calls b h2 _).mono ?_
  rw [HF.out]
  rintro e w2 ⟨rfl, n, rfl⟩
  go_wp2_with fail
  refine (ref_calls b _).mono ?_
  rw [HF.out]
  rintro e w3 ⟨rfl, rfl⟩
  go_wp2_with fail
  go_ret
  exact ⟨rfl, Go.Proofs.YtbmnkfpodkdpeaaW.PrintWords.pw_below_drewN HB1.out n⟩

theorem wf_u64 {x : Int} (h : (Lit.int .u64 x).wf = true) : 0 ≤ x ∧ x < 18446744073709551616 := by
  simp [Lit.wf, IntKind.min, IntKind.max, IntKind.bits, IntKind.signed] at h
  omega

end Go.Proofs.Ytbmnkfpodkdpeaa.RM
