/- What the functions of package rate, and of the document's reference, come to: in numbers alone. -/
import Derived.Test.YtbmnkfpodkdpeaaQrateTake
import Derived.Test.YtbmnkfpodkdpeaaQrateNew
import Derived.Test.YtbmnkfpodkdpeaaQrateReady
import Derived.Test.YtbmnkfpodkdpeaaQstowagelaw09awake
namespace Go.Proofs.Ytbmnkfpodkdpeaa.RF
open Go.RowKit Go.Proofs.Ytbmnkfpodkdpeaa.Q Go.Proofs.YtbmnkfpodkdpeaaW.PrintWords Go.Proofs.YtbmnkfpodkdpeaaW.PrintLast

theorem w64 {x : Int} (h0 : -9223372036854775808 ≤ x) (h1 : x ≤ 9223372036854775807) : wrap64 x = x := by
  unfold wrap64; omega
theorem wf_i64 {x : Int} (h : (Lit.int .i64 x).wf = true) : -9223372036854775808 ≤ x ∧ x ≤ 9223372036854775807 := by
  simp [Lit.wf, IntKind.min, IntKind.max, IntKind.bits, IntKind.signed] at h
  omega
theorem wf_u8 {x : Int} (h : (Lit.int .u8 x).wf = true) : 0 ≤ x ∧ x ≤ 255 := by
  simp [Lit.wf, IntKind.min, IntKind.max, IntKind.bits, IntKind.signed] at h
  omega
theorem wf_u16 {x : Int} (h : (Lit.int .u16 x).wf = true) : 0 ≤ x ∧ x ≤ 65535 := by
  simp [Lit.wf, IntKind.min, IntKind.max, IntKind.bits, IntKind.signed] at h
  omega

/-- A bucket is sound. -/
structure Sound (r bu lv a : Int) : Prop where
  r0 : 0 ≤ r
  r1 : r ≤ 4294967296
  b0 : 1 ≤ bu
  b1 : bu ≤ 64
  l0 : 0 ≤ lv
  l1 : lv ≤ 65536 * bu
  a0 : 0 ≤ a
  a1 : a ≤ 1099511627776

theorem sound_f (r bu lv a : Int) : ∃ b, rate_sound.f r bu lv a = some b ∧ (b = true ↔ Sound r bu lv a) := by
  unfold rate_sound.f
  by_cases h1 : r ≥ 0
  case neg => rw [if_neg h1]; exact ⟨false, rfl, by simp; intro h; exact h1 h.r0⟩
  rw [if_pos h1]
  by_cases h2 : r ≤ 4294967296
  case neg => rw [if_neg h2]; exact ⟨false, rfl, by simp; intro h; exact h2 h.r1⟩
  rw [if_pos h2]
  by_cases h3 : bu ≥ 1
  case neg => rw [if_neg h3]; exact ⟨false, rfl, by simp; intro h; exact h3 h.b0⟩
  rw [if_pos h3]
  by_cases h4 : bu ≤ 64
  case neg => rw [if_neg h4]; exact ⟨false, rfl, by simp; intro h; exact h4 h.b1⟩
  rw [if_pos h4]
  by_cases h5 : lv ≥ 0
  case neg => rw [if_neg h5]; exact ⟨false, rfl, by simp; intro h; exact h5 h.l0⟩
  rw [if_pos h5, w64 (x := 65536 * bu) (by omega) (by omega)]
  by_cases h6 : lv ≤ 65536 * bu
  case neg => rw [if_neg h6]; exact ⟨false, rfl, by simp; intro h; exact h6 h.l1⟩
  rw [if_pos h6]
  by_cases h7 : a ≥ 0
  case neg => rw [if_neg h7]; exact ⟨false, rfl, by simp; intro h; exact h7 h.a0⟩
  rw [if_pos h7]
  refine ⟨_, rfl, ?_⟩
  rw [decide_eq_true_eq]
  exact ⟨fun h => ⟨h1, h2, h3, h4, h5, h6, h7, h⟩, fun h => h.a1⟩

/-- A level after so many moments. -/
def lev (r bu lv d : Int) : Int := if lv + r * d ≤ 65536 * bu then lv + r * d else 65536 * bu
theorem lev_bound {r bu lv d : Int} (r0 : 0 ≤ r) (l1 : lv ≤ 65536 * bu) (d0 : 0 ≤ d) : lv ≤ lev r bu lv d ∧ lev r bu lv d ≤ 65536 * bu := by
  have := Int.mul_nonneg r0 d0
  unfold lev
  split <;> omega
theorem lev_mono {r bu lv d e : Int} (r0 : 0 ≤ r) (h : d ≤ e) : lev r bu lv d ≤ lev r bu lv e := by
  have := Int.mul_le_mul_of_nonneg_left h r0
  unfold lev
  split <;> split <;> omega

/-- What Fill answers. -/
theorem fill_bad (r bu lv a t : Int) (h : ¬ Sound r bu lv a) : rate_Fill.f r bu lv a t = some (0, 0, 0, 0, 2) := by
  obtain ⟨b, hb, hi⟩ := sound_f r bu lv a
  unfold rate_Fill.f
  rw [hb, Option.bind_some, if_neg (fun e => h (hi.1 e))]
theorem fill_arg (r bu lv a t : Int) (h : Sound r bu lv a) (ht : t < a ∨ t > 1099511627776) : rate_Fill.f r bu lv a t = some (0, 0, 0, 0, 1) := by
  obtain ⟨b, hb, hi⟩ := sound_f r bu lv a
  unfold rate_Fill.f
  rw [hb, Option.bind_some, if_pos (hi.2 h)]
  by_cases h1 : t < a
  · rw [if_pos h1]
  · rw [if_neg h1, if_pos (by omega)]
theorem fill_ok (r bu lv a t : Int) (h : Sound r bu lv a) (h1 : a ≤ t) (h2 : t ≤ 1099511627776) : rate_Fill.f r bu lv a t = some (r, bu, lev r bu lv (t - a), t, 0) := by
  obtain ⟨b, hb, hi⟩ := sound_f r bu lv a
  obtain ⟨r0, r1, b0, b1, l0, l1, a0, a1⟩ := h
  unfold rate_Fill.f
  rw [hb, Option.bind_some, if_pos (hi.2 ⟨r0, r1, b0, b1, l0, l1, a0, a1⟩), if_neg (by omega), if_neg (by omega)]
  by_cases h3 : r > 0
  · rw [if_pos h3, if_neg (by omega)]
    rw [w64 (x := t - a) (by omega) (by omega), w64 (x := 65536 * bu) (by omega) (by omega), w64 (x := 65536 * bu - lv) (by omega) (by omega), w64 (x := 65536 * bu - lv + r) (by omega) (by omega), w64 (x := 65536 * bu - lv + r - 1) (by omega) (by omega)]
    rw [Int.tdiv_eq_ediv_of_nonneg (by omega)]
    have q0 : 0 ≤ (65536 * bu - lv + r - 1) / r := Int.ediv_nonneg (by omega) (by omega)
    have q1 : (65536 * bu - lv + r - 1) / r ≤ 65536 * bu - lv + r - 1 := Int.ediv_le_self _ (by omega)
    rw [w64 (x := (65536 * bu - lv + r - 1) / r) (by omega) (by omega)]
    -- the quotient is the least number of moments that fills it
    have key : (65536 * bu - lv + r - 1) / r ≤ t - a ↔ 65536 * bu - lv ≤ r * (t - a) := by
      rw [← Int.lt_add_one_iff, Int.ediv_lt_iff_lt_mul h3, Int.add_mul, Int.one_mul, Int.mul_comm (t - a) r]
      omega
    by_cases h4 : t - a ≥ (65536 * bu - lv + r - 1) / r
    · have := key.1 h4
      rw [if_pos h4]
      congr 3
      unfold lev
      split
      · congr 1; omega
      · rfl
    · have h5 : r * (t - a) < 65536 * bu - lv := by
        rcases Int.lt_or_le (r * (t - a)) (65536 * bu - lv) with h6 | h6
        · exact h6
        · exact absurd (key.2 h6) h4
      have h6 := Int.mul_nonneg r0 (show 0 ≤ t - a by omega)
      rw [if_neg h4, w64 (x := r * (t - a)) (by omega) (by omega), w64 (x := lv + r * (t - a)) (by omega) (by omega)]
      unfold lev
      rw [if_pos (by omega)]
  · rw [if_neg h3]
    obtain rfl : r = 0 := by omega
    unfold lev
    rw [Int.zero_mul, Int.add_zero, if_pos l1]

/-! ### Take -/
theorem take_err (k : Nat) (r bu lv a n t c : Int) (hc : c ≠ 0) (h : rate_Fill.f r bu lv a t = some (0, 0, 0, 0, c)) : rate_Take.f k r bu lv a n t = some (0, 0, 0, 0, c) := by
  unfold rate_Take.f
  rw [h, Option.bind_some, if_neg hc]
theorem take_range (k : Nat) (r bu lv a n t : Int) (h : Sound r bu lv a) (h1 : a ≤ t) (h2 : t ≤ 1099511627776) (hn : n < 0 ∨ n > bu) : rate_Take.f (k + 1) r bu lv a n t = some (0, 0, 0, 0, 7) := by
  unfold rate_Take.f
  rw [fill_ok r bu lv a t h h1 h2, Option.bind_some, if_pos rfl]
  by_cases h3 : n < 0
  · rw [if_pos h3, rate_Take.j0, if_pos rfl]
  · rw [if_neg h3, decide_eq_true (by omega), rate_Take.j0, if_pos rfl]
theorem take_wait (k : Nat) (r bu lv a n t : Int) (h : Sound r bu lv a) (h1 : a ≤ t) (h2 : t ≤ 1099511627776) (n0 : 0 ≤ n) (n1 : n ≤ bu) (hl : lev r bu lv (t - a) < 65536 * n) : rate_Take.f (k + 1) r bu lv a n t = some (0, 0, 0, 0, 12) := by
  have hb := h.b1
  unfold rate_Take.f
  rw [fill_ok r bu lv a t h h1 h2, Option.bind_some, if_pos rfl, if_neg (by omega), decide_eq_false (by omega), rate_Take.j0, if_neg (by simp), w64 (x := 65536 * n) (by omega) (by omega), if_pos hl]
theorem take_ok (k : Nat) (r bu lv a n t : Int) (h : Sound r bu lv a) (h1 : a ≤ t) (h2 : t ≤ 1099511627776) (n0 : 0 ≤ n) (n1 : n ≤ bu) (hl : 65536 * n ≤ lev r bu lv (t - a)) : rate_Take.f (k + 1) r bu lv a n t = some (r, bu, lev r bu lv (t - a) - 65536 * n, t, 0) := by
  have hb := h.b1
  have hb2 := lev_bound (d := t - a) h.r0 h.l1 (by omega)
  unfold rate_Take.f
  rw [fill_ok r bu lv a t h h1 h2, Option.bind_some, if_pos rfl, if_neg (by omega), decide_eq_false (by omega), rate_Take.j0, if_neg (by simp)]
  dsimp only
  rw [w64 (x := 65536 * n) (by omega) (by omega), if_neg (by omega), w64 (by omega) (by omega)]

/-- All that Take can answer. -/
theorem take_cases (k : Nat) (r bu lv a n t : Int) :
    (¬ Sound r bu lv a ∧ rate_Take.f (k + 1) r bu lv a n t = some (0, 0, 0, 0, 2)) ∨
    (Sound r bu lv a ∧ (t < a ∨ t > 1099511627776) ∧ rate_Take.f (k + 1) r bu lv a n t = some (0, 0, 0, 0, 1)) ∨
    (Sound r bu lv a ∧ a ≤ t ∧ t ≤ 1099511627776 ∧ (n < 0 ∨ n > bu) ∧ rate_Take.f (k + 1) r bu lv a n t = some (0, 0, 0, 0, 7)) ∨
    (Sound r bu lv a ∧ a ≤ t ∧ t ≤ 1099511627776 ∧ 0 ≤ n ∧ n ≤ bu ∧ lev r bu lv (t - a) < 65536 * n ∧ rate_Take.f (k + 1) r bu lv a n t = some (0, 0, 0, 0, 12)) ∨
    (Sound r bu lv a ∧ a ≤ t ∧ t ≤ 1099511627776 ∧ 0 ≤ n ∧ n ≤ bu ∧ 65536 * n ≤ lev r bu lv (t - a) ∧ rate_Take.f (k + 1) r bu lv a n t = some (r, bu, lev r bu lv (t - a) - 65536 * n, t, 0)) := by
  by_cases h : Sound r bu lv a
  case neg => exact .inl ⟨h, take_err _ _ _ _ _ _ _ _ (by omega) (fill_bad _ _ _ _ _ h)⟩
  by_cases ht : t < a ∨ t > 1099511627776
  · exact .inr (.inl ⟨h, ht, take_err _ _ _ _ _ _ _ _ (by omega) (fill_arg _ _ _ _ _ h ht)⟩)
  by_cases hn : n < 0 ∨ n > bu
  · exact .inr (.inr (.inl ⟨h, by omega, by omega, hn, take_range k _ _ _ _ _ _ h (by omega) (by omega) hn⟩))
  by_cases hl : lev r bu lv (t - a) < 65536 * n
  · exact .inr (.inr (.inr (.inl ⟨h, by omega, by omega, by omega, by omega, hl, take_wait k _ _ _ _ _ _ h (by omega) (by omega) (by omega) (by omega) hl⟩)))
  · exact .inr (.inr (.inr (.inr ⟨h, by omega, by omega, by omega, by omega, by omega, take_ok k _ _ _ _ _ _ h (by omega) (by omega) (by omega) (by omega) (by omega)⟩)))

theorem awake_eq : stowagelaw09_awake.f = some true := rfl

end Go.Proofs.Ytbmnkfpodkdpeaa.RF
