/- The rate of any float64 in 65536ths: what Fixed answers, proved by walking its text and that of math.Floor. -/
import Derived.Test.YtbmnkfpodkdpeaaProg
import Derived.Test.YtbmnkfpodkdpeaaFloatPlain
import Derived.WalkKit
import Derived.WalkLawsBesides
import Derived.Laws.Externs
import Derived.Lib.Hide
import Derived.Outline
import Derived.Below
import Derived.Deep.Draws
import Derived.KernelRfl
namespace Go.Proofs.Ytbmnkfpodkdpeaa.RM
open Go.RowKit Go.Proofs.Ytbmnkfpodkdpeaa.FP

theorem run_bits (b : Nat) (w : World) : (callFunc 27 #[.float .f64 b]).run Try.prog w = .ok (.value (.int .u64 b)) w := by
  rw [run_callFunc_extern (fn := Try.f27) (e := Extern.MathFloatBits.float64bits) Try.func27 (by decide) (by rfl) (by rfl) (by rfl)]
  rfl
theorem run_from (n : Int) (w : World) : (callFunc 14 #[.int .u64 n]).run Try.prog w = .ok (.value (.float .f64 n.toNat)) w := by
  rw [run_callFunc_extern (fn := Try.f14) (e := Extern.MathFloatBits.float64frombits) Try.func14 (by decide) (by rfl) (by rfl) (by rfl)]
  rfl
/-- The word of a positive number's floor. -/
def flo (b : Nat) : Nat := Ieee.double.write ((Ieee.double.read b).integral .down)
theorem run_floor (b : Nat) (hb : b < 9218868437227405312) (w : World) : (callFunc 32 #[.float .f64 b]).run Try.prog w = .ok (.value (.float .f64 (flo b))) w := by
  rw [run_callFunc_extern (fn := Try.f32) (e := Extern.MathFloor.toIntegral "math.archFloor" .down) Try.func32 (by decide) (by rfl) (by rfl) (by rfl)]
  have h := read_pos b hb
  have h' : FloatKind.f64.decode b = .number false (mant b) (-1074 + (expo b : Int)) := h
  have e : Extern.MathFloor.toIntegral "math.archFloor" .down #[.float .f64 b] = pure (.float .f64 (flo b)) := by
    show ((match FloatKind.f64.decode b with
      | .nan s t => if FloatKind.f64.format.quiet t = t then pure (Value.float .f64 b) else do
          let kept ← choose (.extern "math.Floor,Ceil,Trunc,RoundToEven.signallingNaN kept" 2)
          pure (Value.float .f64 (if kept == 1 then b else FloatKind.f64.encode (.nan s (FloatKind.f64.format.quiet t))))
      | d => pure (Value.float .f64 (FloatKind.f64.encode (d.integral .down))) : Sem Value)) = _
    rw [h']
    unfold flo
    rw [h]
    rfl
  rw [e]
  rfl

theorem order64 {a b : Nat} (ha : a ≤ 9218868437227405312) (hb : b ≤ 9218868437227405312) : FloatKind.f64.format.order a b = some (compare a b) := order_pos ha hb

theorem Floor_pos (b : Nat) (hb2 : b < 9218868437227405312) (w : World) : Calls Try.prog 28 #[.float .f64 b] w fun e w' => e = .returned (.float .f64 (flo b)) ∧ w' = w := by
  have h := run_floor b hb2
  generalize flo b = c at *
  go_enter Try.func28, Try.ntmps28
  go_wp2
  go_ret
  exact ⟨rfl, rfl⟩

/-- A product of any two words: a number, or a NaN that the tape names. -/
theorem mul_any (a b : Nat) (t : TypeId) (w : World) : ∃ v n : Nat, (binOp .mul t (.float .f64 a) (.float .f64 b)).run Try.prog w = .ok (.float .f64 v) (w.drewN n) := by
  cases h : floatBits .mul .f64 a b with
  | some r => exact ⟨r, 0, run_float_arith w .mul t .f64 a b r h⟩
  | none =>
    have h' : FloatKind.f64.format.mul a b = none := h
    refine ⟨Question.cut (.nanBits .f64 a b) (w.tape w.drawn (.nanBits .f64 a b)), 1, ?_⟩
    simp [binOp, Op.floatArith, h', Question.forced, World.drewN]

/-- What Fixed answers. -/
def fixed (b : Nat) : Int :=
  if b = 0 then 0 else if 9218868437227405312 < b then 0 else
  if 4679240012837945344 ≤ b then 4294967296 else ((V b * 65536 / 2 ^ LP : Nat) : Int)

theorem mul_inf : floatBits .mul .f64 9218868437227405312 4679240012837945344 = some 9218868437227405312 := by decide +kernel
/-- 65536 times a positive finite number. -/
theorem mul_pos_some (b : Nat) (h0 : 0 < b) (h1 : b < 9218868437227405312) : ∃ r, V r = V b * 65536 ∧ 0 < r ∧ floatBits .mul .f64 b 4679240012837945344 = some (min r 9218868437227405312) := by
  obtain ⟨r, hr0, hr⟩ := V_exists (mant b) (expo b + 16) (mant_pos h0) (mant_lt b)
  have hv : V r = V b * 65536 := by
    rw [hr]; unfold V; rw [Nat.pow_add, ← Nat.mul_assoc]
  refine ⟨r, hv, hr0, ?_⟩
  unfold floatBits
  show Ieee.double.mul b 4679240012837945344 = _
  unfold Ieee.Format.mul
  have g : Ieee.double.read 4679240012837945344 = .number false 4503599627370496 (-36) := by decide +kernel
  rw [read_pos b h1, g]
  simp only [Ieee.Datum.product, Option.map_some, Ieee.Format.write, Bool.xor_self]
  congr 1
  refine nearest_cut r (mant b * 4503599627370496) (expo b) 36 _ hr0 ?_ (by omega)
  rw [hv]
  unfold V
  rw [show (2 : Nat) ^ 36 = 68719476736 from rfl]
  generalize mant b = m
  generalize 2 ^ expo b = x
  rw [Nat.mul_assoc, Nat.mul_comm 4503599627370496 x, Nat.mul_assoc, Nat.mul_assoc]

theorem V_one16 : V 4679240012837945344 = 65536 * 2 ^ LP := by
  obtain ⟨g1, g2⟩ := mant_expo (e := 1038) (m := 4503599627370496) (by omega) (by omega)
  rw [show 1038 * 4503599627370496 + 4503599627370496 = 4679240012837945344 from rfl] at g1 g2
  have hL := LP_eq
  have e : 2 ^ LP = 68719476736 * 2 ^ (LP - 36) := by rw [show (68719476736 : Nat) = 2 ^ 36 from rfl, ← Nat.pow_add, show 36 + (LP - 36) = LP by omega]
  unfold V
  rw [g1, g2, show 1038 = LP - 36 from rfl, e]
  generalize 2 ^ (LP - 36) = x
  omega
theorem V_two32 : V 4751297606875873280 = 4294967296 * 2 ^ LP := by
  obtain ⟨g1, g2⟩ := mant_expo (e := 1054) (m := 4503599627370496) (by omega) (by omega)
  rw [show 1054 * 4503599627370496 + 4503599627370496 = 4751297606875873280 from rfl] at g1 g2
  have hL := LP_eq
  have e : 2 ^ LP = 1048576 * 2 ^ (LP - 20) := by rw [show (1048576 : Nat) = 2 ^ 20 from rfl, ← Nat.pow_add, show 20 + (LP - 20) = LP by omega]
  unfold V
  rw [g1, g2, show 1054 = LP - 20 from rfl, e]
  generalize 2 ^ (LP - 20) = x
  omega

theorem fixed_none (b : Nat) (h : FloatKind.f64.format.order b 0 ≠ some .gt) (w : World) : Calls Try.prog 16 #[.float .f64 b] w fun e w' => e = .returned (.int .i64 0) ∧ ∃ n, w' = w.drewN n := by
  have ho : (FloatKind.f64.format.order b 0 == some .gt) = false := by rw [beq_eq_false_iff_ne]; exact h
  obtain ⟨v, n, hm⟩ := mul_any b 4679240012837945344 23 w
  clear h
  go_enter Try.func16, Try.ntmps16
  go_wp2
  go_ret
  exact ⟨rfl, n, rfl⟩

theorem fixed_top (b s : Nat) (h : FloatKind.f64.format.order b 0 = some .gt) (hs : floatBits .mul .f64 b 4679240012837945344 = some s) (h1 : 4751297606875873280 ≤ s) (h2 : s ≤ 9218868437227405312) (w : World) : Calls Try.prog 16 #[.float .f64 b] w fun e w' => e = .returned (.int .i64 4294967296) ∧ w' = w := by
  have hm := fun w t => run_float_arith (P := Try.prog) w .mul t .f64 _ _ s hs
  have ho : FloatKind.f64.format.order s 4751297606875873280 = some .gt ∨ FloatKind.f64.format.order s 4751297606875873280 = some .eq := by
    rw [order64 h2 (by omega)]
    rcases Nat.lt_or_ge 4751297606875873280 s with h | h
    · left; rw [Nat.compare_eq_gt.2 h]
    · right; rw [Nat.compare_eq_eq.2 (by omega)]
  clear hs h1 h2
  rcases ho with ho | ho
  all_goals
    go_enter Try.func16, Try.ntmps16
    go_wp2
    go_ret
    exact ⟨rfl, rfl⟩

theorem fixed_mid (b s : Nat) (n : Int) (h : FloatKind.f64.format.order b 0 = some .gt) (hs : floatBits .mul .f64 b 4679240012837945344 = some s) (h1 : s < 4751297606875873280) (hf : floatToIntVal .f64 (flo s) .i64 = some n) (w : World) : Calls Try.prog 16 #[.float .f64 b] w fun e w' => e = .returned (.int .i64 n) ∧ w' = w := by
  have hm := fun w t => run_float_arith (P := Try.prog) w .mul t .f64 _ _ s hs
  have ho : FloatKind.f64.format.order s 4751297606875873280 = some .lt := by
    rw [order64 (by omega) (by omega), Nat.compare_eq_lt.2 h1]
  have hc := fun w => run_convert_float_int (P := Try.prog) w 23 3 .f64 .i64 (flo s) n (by rw [Try.underlying23]; rfl) Try.underlying3 hf
  clear hs
  generalize hq : flo s = q at *
  have HQ := Lib.hid hq
  clear hq hf
  go_enter Try.func16, Try.ntmps16
  go_wp2_with (go_at_call 28; refine (Floor_pos s (by omega) _).mono ?_; rw [HQ.out]; rintro e w' ⟨rfl, rfl⟩)
  go_ret
  exact ⟨rfl, rfl⟩

theorem order_zero (b : Nat) (h1 : 9218868437227405312 < b) (h2 : b < 18446744073709551616) : FloatKind.f64.format.order b 0 ≠ some .gt := by
  have h0 : Ieee.double.read 0 = .number false 0 (-1074) := by decide +kernel
  show (Ieee.double.order b 0) ≠ some .gt
  unfold Ieee.Format.order
  rw [h0]
  rcases Nat.lt_or_ge b 9223372036854775808 with h3 | h3
  · obtain ⟨t, ht⟩ := read_nan b h1 h3
    rw [ht]; simp [Ieee.Datum.order]
  · rcases Nat.lt_or_ge b 18442240474082181120 with h4 | h4
    · obtain ⟨r, rfl⟩ : ∃ r, b = 9223372036854775808 + r := ⟨b - 9223372036854775808, by omega⟩
      rw [read_neg r (by omega)]
      simp only [Ieee.Datum.order]
      intro h
      injection h with h
      rw [Int.compare_eq_gt] at h
      unfold Ieee.signed at h
      rw [if_pos rfl, if_neg (by simp), Nat.zero_shiftLeft] at h
      generalize mant r <<< (-1074 + (expo r : Int) - min (-1074 + (expo r : Int)) (-1074)).toNat = z at h
      omega
    · rcases Nat.lt_or_ge 18442240474082181120 b with h5 | h5
      · obtain ⟨t, ht⟩ := read_nnan b h5 h2
        rw [ht]; simp [Ieee.Datum.order]
      · obtain rfl : b = 18442240474082181120 := by omega
        rw [read_ninf]; simp [Ieee.Datum.order]

theorem fixed_calls (b : Nat) (hb : b < 18446744073709551616) (w : World) : Calls Try.prog 16 #[.float .f64 b] w fun e w' => e = .returned (.int .i64 (fixed b)) ∧ ∃ n, w' = w.drewN n := by
  by_cases h0 : b = 0
  · subst h0
    exact fixed_none 0 (by decide +kernel) w
  rcases Nat.lt_or_ge 9218868437227405312 b with h1 | h1
  · have hv : fixed b = 0 := by unfold fixed; rw [if_neg h0, if_pos h1]
    rw [hv]
    exact fixed_none b (order_zero b h1 hb) w
  have hgt : FloatKind.f64.format.order b 0 = some .gt := by rw [order64 h1 (by omega), Nat.compare_eq_gt.2 (by omega)]
  have same : ∀ n : Int, (Calls Try.prog 16 #[.float .f64 b] w fun e w' => e = .returned (.int .i64 n) ∧ w' = w) → n = fixed b → Calls Try.prog 16 #[.float .f64 b] w fun e w' => e = .returned (.int .i64 (fixed b)) ∧ ∃ n, w' = w.drewN n := by
    rintro n h rfl
    exact h.mono fun e w' ⟨he, hw⟩ => ⟨he, 0, hw⟩
  by_cases hi : b = 9218868437227405312
  · subst hi
    exact same _ (fixed_top _ _ hgt mul_inf (by omega) (by omega) w) (by unfold fixed; rw [if_neg h0, if_neg (by omega), if_pos (by omega)])
  obtain ⟨r, hr, hr0, hm⟩ := mul_pos_some b (by omega) (by omega)
  have hpos := Nat.two_pow_pos LP
  by_cases hc : 4679240012837945344 ≤ b
  · have h2 : 4751297606875873280 ≤ r := by
      rcases Nat.lt_or_ge r 4751297606875873280 with h | h
      · have e1 := V_lt h
        have e2 := V_le hc
        rw [V_two32] at e1
        rw [V_one16] at e2
        omega
      · exact h
    exact same _ (fixed_top b _ hgt hm (by omega) (by omega) w) (by unfold fixed; rw [if_neg h0, if_neg (by omega), if_pos hc])
  · have h2 : r < 4751297606875873280 := by
      rcases Nat.lt_or_ge r 4751297606875873280 with h | h
      · exact h
      · have e1 := V_le h
        have e2 := V_lt (Nat.lt_of_not_le hc)
        rw [V_two32] at e1
        rw [V_one16] at e2
        omega
    have h3 : V r / 2 ^ LP < 4294967296 := by
      rw [Nat.div_lt_iff_lt_mul hpos]
      have e2 := V_lt (Nat.lt_of_not_le hc)
      rw [V_one16] at e2
      omega
    rw [Nat.min_eq_left (by omega)] at hm
    have hf : floatToIntVal .f64 (flo r) .i64 = some ((V r / 2 ^ LP : Nat) : Int) := by
      obtain ⟨q, hq1, hq2, hq3⟩ := floor_word r (by omega) (by omega)
      have hq4 : flo r = q := hq2
      rw [hq4]
      unfold floatToIntVal
      have hq5 : (FloatKind.f64.decode q).toInt .zero = some ((V r / 2 ^ LP : Nat) : Int) := hq3
      rw [hq5]
      generalize V r / 2 ^ LP = x at *
      have e1 : IntKind.i64.min = -9223372036854775808 := by decide
      have e2 : IntKind.i64.max = 9223372036854775807 := by decide
      show (if IntKind.i64.min ≤ (x : Int) ∧ (x : Int) ≤ IntKind.i64.max then some (x : Int) else none) = _
      rw [e1, e2, if_pos (by omega)]
    exact same _ (fixed_mid b r _ hgt hm h2 hf w) (by unfold fixed; rw [if_neg h0, if_neg (by omega), if_neg hc, hr])
end Go.Proofs.Ytbmnkfpodkdpeaa.RM
