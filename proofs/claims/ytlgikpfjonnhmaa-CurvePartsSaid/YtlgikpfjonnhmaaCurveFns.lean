/- What the printed functions of package curve come to, in numbers and lists alone. -/
import Derived.Test.YtlgikpfjonnhmaaQcurveHull
import Derived.Test.YtlgikpfjonnhmaaQcurveAt
import Derived.Test.YtlgikpfjonnhmaaQcurveOf
import Derived.Test.YtlgikpfjonnhmaaQstowagelaw11awake
import Derived.Test.YtlgikpfjonnhmaaCurvePlain
import Derived.Laws.MathBits
namespace Go.Proofs.Ytlgikpfjonnhmaa.FQ
open Go.RowKit Go.Proofs.Ytlgikpfjonnhmaa.Q Go.Proofs.YtlgikpfjonnhmaaW.PrintWords Go.Proofs.YtlgikpfjonnhmaaW.PrintLast Go.Proofs.Ytlgikpfjonnhmaa.CP

theorem rd_nat (l : List Int) (i : Nat) : rd l (i : Int) = l.getD i 0 := by simp [rd]

theorem wf_u16 {x : Int} (h : (Lit.int .u16 x).wf = true) : 0 ≤ x ∧ x ≤ 65535 := by
  simp [Lit.wf, IntKind.min, IntKind.max, IntKind.bits, IntKind.signed] at h
  omega
theorem wf_u8 {x : Int} (h : (Lit.int .u8 x).wf = true) : 0 ≤ x ∧ x ≤ 255 := by
  simp [Lit.wf, IntKind.min, IntKind.max, IntKind.bits, IntKind.signed] at h
  omega
theorem wf_i64 {x : Int} (h : (Lit.int .i64 x).wf = true) : -9223372036854775808 ≤ x ∧ x ≤ 9223372036854775807 := by
  simp [Lit.wf, IntKind.min, IntKind.max, IntKind.bits, IntKind.signed] at h
  omega

/-! ### Sound -/
def SoundP (l : List Int) : Prop := 1 ≤ l.length ∧ l.length ≤ 4096 ∧ (∀ i : Nat, i < l.length → 0 ≤ l.getD i 0 ∧ l.getD i 0 ≤ 4503599627370496) ∧ ∀ i : Nat, i + 1 < l.length → l.getD i 0 ≤ l.getD (i + 1) 0
theorem sound_mono {l : List Int} (h : SoundP l) : ∀ (d i : Nat), i + d < l.length → l.getD i 0 ≤ l.getD (i + d) 0
  | 0, i, _ => Int.le_refl _
  | d + 1, i, hi => by
    have := sound_mono h d i (by omega)
    have := h.2.2.2 (i + d) (by omega)
    rw [← Nat.add_assoc]
    omega
theorem sound_le {l : List Int} (h : SoundP l) {a b : Int} (h0 : 0 ≤ a) (hab : a ≤ b) (hb : b < l.length) : 0 ≤ rd l a ∧ rd l a ≤ rd l b ∧ rd l b ≤ 4503599627370496 := by
  obtain ⟨i, rfl⟩ := Int.eq_ofNat_of_zero_le h0
  obtain ⟨j, rfl⟩ := Int.eq_ofNat_of_zero_le (Int.le_trans h0 hab)
  rw [rd_nat, rd_nat]
  have h1 := h.2.2.1 i (by omega)
  have h2 := h.2.2.1 j (by omega)
  have h3 := sound_mono h (j - i) i (by omega)
  rw [show i + (j - i) = j by omega] at h3
  omega

/-- From i on: what Sound answers (x3: the one ahead). -/
theorem sound_loop (l : List Int) (hm : l.length ≤ 9223372036854775807) : ∀ (d k i : Nat) (x3 : Int), i + d = l.length → d < k →
    ∃ b, curve_Sound.l0 k l x3 l (l.length : Int) (i : Int) = some b ∧
      (b = true ↔ (1 ≤ l.length ∧ l.length ≤ 4096 ∧ (∀ j : Nat, i ≤ j → j < l.length → x3 ≤ l.getD j 0 ∧ l.getD j 0 ≤ 4503599627370496) ∧ ∀ j : Nat, i ≤ j → j + 1 < l.length → l.getD j 0 ≤ l.getD (j + 1) 0))
  | 0, k, i, x3, hi, hk => by
    obtain ⟨k, rfl⟩ : ∃ m, k = m + 1 := ⟨k - 1, by omega⟩
    simp only [curve_Sound.l0]
    rw [if_neg (by omega)]
    by_cases h : (l.length : Int) ≥ 1
    · rw [if_pos h]
      refine ⟨_, rfl, ?_⟩
      simp only [decide_eq_true_eq]
      constructor
      · intro h2; exact ⟨by omega, by omega, fun j h3 h4 => by omega, fun j h3 h4 => by omega⟩
      · intro h2; have := h2.2.1; omega
    · rw [if_neg h]
      exact ⟨_, rfl, by simp; intro h2; omega⟩
  | d + 1, k, i, x3, hi, hk => by
    obtain ⟨k, rfl⟩ : ∃ m, k = m + 1 := ⟨k - 1, by omega⟩
    simp only [curve_Sound.l0]
    rw [if_pos (by omega), if_pos (by omega), if_pos (by omega), rd_nat]
    by_cases h1 : l.getD i 0 < x3
    · rw [if_pos h1]
      refine ⟨_, rfl, ?_⟩
      simp only [Bool.false_eq_true, false_iff]
      intro h2
      have := h2.2.2.1 i (Nat.le_refl _) (by omega)
      omega
    · rw [if_neg h1]
      by_cases h2 : l.getD i 0 > 4503599627370496
      · rw [if_pos h2]
        refine ⟨_, rfl, ?_⟩
        simp only [Bool.false_eq_true, false_iff]
        intro h3
        have := h3.2.2.1 i (Nat.le_refl _) (by omega)
        omega
      · rw [if_neg h2, w64 (by omega) (by omega)]
        obtain ⟨b, hb, hiff⟩ := sound_loop l hm d k (i + 1) (l.getD i 0) (by omega) (by omega)
        refine ⟨b, by exact_mod_cast hb, hiff.trans ?_⟩
        constructor
        · rintro ⟨a1, a2, a3, a4⟩
          refine ⟨a1, a2, fun j h3 h4 => ?_, fun j h3 h4 => ?_⟩
          · rcases Nat.lt_or_ge i j with h5 | h5
            · have := a3 j (by omega) h4
              omega
            · obtain rfl : i = j := by omega
              omega
          · rcases Nat.lt_or_ge i j with h5 | h5
            · exact a4 j (by omega) h4
            · obtain rfl : i = j := by omega
              exact (a3 (i + 1) (by omega) h4).1
        · rintro ⟨a1, a2, a3, a4⟩
          refine ⟨a1, a2, fun j h3 h4 => ⟨?_, (a3 j (by omega) h4).2⟩, fun j h3 h4 => a4 j (by omega) h4⟩
          -- the list rises from i to j
          have up : ∀ e : Nat, i + e < l.length → l.getD i 0 ≤ l.getD (i + e) 0 := by
            intro e
            induction e with
            | zero => intro _; exact Int.le_refl _
            | succ e ih =>
              intro h5
              have := ih (by omega)
              have := a4 (i + e) (by omega) (by omega)
              rw [← Nat.add_assoc]
              omega
          have := up (j - i) (by omega)
          rwa [show i + (j - i) = j by omega] at this

theorem sound_f (l : List Int) (hm : l.length ≤ 9223372036854775807) (k : Nat) (hk : l.length < k) : ∃ b, curve_Sound.f k l = some b ∧ (b = true ↔ SoundP l) := by
  obtain ⟨b, hb, hiff⟩ := sound_loop l hm l.length k 0 0 (by omega) hk
  refine ⟨b, hb, hiff.trans ?_⟩
  unfold SoundP
  constructor
  · rintro ⟨a1, a2, a3, a4⟩; exact ⟨a1, a2, fun j h => a3 j (Nat.zero_le _) h, fun j h => a4 j (Nat.zero_le _) h⟩
  · rintro ⟨a1, a2, a3, a4⟩; exact ⟨a1, a2, fun j _ h => a3 j h, fun j _ h => a4 j h⟩

/-! ### Mul64, under -/
theorem mul64_f (x y : Int) (hx0 : 0 ≤ x) (hx : x < 18446744073709551616) (hy0 : 0 ≤ y) (hy : y < 18446744073709551616) :
    bits_Mul64.f x y = some (x * y / 18446744073709551616, x * y % 18446744073709551616) := by
  unfold bits_Mul64.f
  have hp := Int.emod_nonneg (x % 4294967296 * (y % 4294967296)) (b := 18446744073709551616) (by omega)
  rw [and_low32 x hx0 hx, and_low32 y hy0 hy, and_low32 _ (by rw [IntKind.wrap_u64]; omega) (by rw [IntKind.wrap_u64]; omega)]
  simp only [IntKind.wrap_u64]
  rw [← mul64_arith x y hx0 hx hy0 hy]

theorem under_f (l : List Int) (h : SoundP l) (a s b : Int) (h0 : 0 ≤ a) (h1 : a < s) (h2 : s < b) (h3 : b < l.length) :
    curve_under.f l a s b = some (decide (cross (rd l) a s b ≤ 0)) := by
  have m1 := sound_le h h0 (Int.le_of_lt h1) (by omega)
  have m2 := sound_le h (a := s) (b := b) (by omega) (by omega) (by omega)
  have hl := h.2.1
  unfold curve_under.f
  rw [if_pos (by omega), if_pos (by omega), if_pos (by omega), if_pos (by omega)]
  rw [w64 (by omega) (by omega), w64 (by omega) (by omega), IntKind.wrap_u64, IntKind.wrap_u64, Int.emod_eq_of_lt (by omega) (by omega), Int.emod_eq_of_lt (by omega) (by omega)]
  rw [mul64_f _ _ (by omega) (by omega) (by omega) (by omega)]
  simp only [Option.bind_some]
  rw [if_pos (by omega), if_pos (by omega)]
  rw [w64 (by omega) (by omega), w64 (by omega) (by omega), IntKind.wrap_u64, IntKind.wrap_u64, Int.emod_eq_of_lt (by omega) (by omega), Int.emod_eq_of_lt (by omega) (by omega)]
  rw [mul64_f _ _ (by omega) (by omega) (by omega) (by omega)]
  simp only [Option.bind_some]
  unfold cross
  generalize (rd l s - rd l a) * (b - a) = x at *
  generalize (rd l b - rd l a) * (s - a) = y at *
  by_cases c1 : x / 18446744073709551616 < y / 18446744073709551616
  · rw [if_pos c1]; congr 1; symm; rw [decide_eq_true_eq]; omega
  · rw [if_neg c1]
    by_cases c2 : x / 18446744073709551616 = y / 18446744073709551616
    · rw [if_pos c2]; congr 1; rw [decide_eq_decide]; omega
    · rw [if_neg c2]; congr 1; symm; rw [decide_eq_false_iff_not]; omega

/-! ### Hull -/
theorem rd_top (y : Int) (t : List Int) : rd (y :: t).reverse (t.length : Int) = y := by
  rw [rd_nat]; simp
theorem rd_top2 (y z : Int) (t : List Int) : rd (y :: z :: t).reverse (t.length : Int) = z := by
  rw [rd_nat]; simp
theorem take_top (y : Int) (t : List Int) : (y :: t).reverse.take t.length = t.reverse := by
  rw [List.reverse_cons, List.take_append_of_le_length (by simp), List.take_of_length_le (by simp)]

/-- The stack while point b is being held against it. -/
def Mid (l : List Int) (b : Int) (r : List Int) : Prop :=
  Chain (rd l) r ∧ (r = [] → b = 0) ∧ ∀ x t, r = x :: t → x < b ∧ Seg (rd l) x b

theorem Mid.push {l : List Int} {b : Int} {r : List Int} (h : Mid l b r) (hc : ∀ x y t, r = x :: y :: t → 0 < cross (rd l) y x b) : Chain (rd l) (b :: r) := by
  cases r with
  | nil => exact h.2.1 rfl
  | cons x t =>
    obtain ⟨h1, h2⟩ := h.2.2 x t rfl
    cases t with
    | nil => exact ⟨h1, h2, h.1⟩
    | cons y t => exact ⟨h1, h2, hc x y t rfl, h.1⟩

theorem Mid.pop {l : List Int} {b x y : Int} {t : List Int} (h : Mid l b (x :: y :: t)) (hu : cross (rd l) y x b ≤ 0) : Mid l b (y :: t) := by
  obtain ⟨h1, h2⟩ := h.2.2 x _ rfl
  refine ⟨h.1.tail, fun e => by simp at e, fun z u e => ?_⟩
  injection e with e1 e2
  subst e1 e2
  exact ⟨by have := h.1.lt; omega, seg_join _ h.1.lt h1 h.1.seg h2 hu⟩

theorem hull_rounds (l : List Int) (h : SoundP l) : ∀ (k : Nat),
    (∀ (b : Nat) (r : List Int), b ≤ l.length → Chain (rd l) r → (∀ x t, r = x :: t → x = (b : Int) - 1) → (r = [] → b = 0) → r.length ≤ b → 3 * (l.length - b) + r.length + 1 ≤ k →
      ∃ r', curve_Hull.l0 k l r.reverse (l.length : Int) (b : Int) = some (r'.reverse, 0) ∧ Chain (rd l) r' ∧ ∃ t, r' = ((l.length : Int) - 1) :: t) ∧
    (∀ (b : Nat) (r : List Int), b < l.length → Mid l b r → r.length ≤ b → 3 * (l.length - b) + r.length ≤ k →
      ∃ r', curve_Hull.l1 k l r.reverse (b : Int) (r.length : Int) (l.length : Int) (b : Int) = some (r'.reverse, 0) ∧ Chain (rd l) r' ∧ ∃ t, r' = ((l.length : Int) - 1) :: t)
  | 0 => ⟨fun b r hb hr hx hn hl hk => by omega, fun b r hb hr hl hk => by omega⟩
  | k + 1 => by
    have hlen := h.2.1
    obtain ⟨ih0, ih1⟩ := hull_rounds l h k
    refine ⟨?_, ?_⟩
    · intro b r hb hr hx hn hl hk
      simp only [curve_Hull.l0]
      by_cases hlt : b < l.length
      · rw [if_pos (by omega)]
        have := ih1 b r hlt ⟨hr, fun e => by have := hn e; omega, fun x t e => ⟨by have := hx x t e; omega, seg_next _ _ _ (by have := hx x t e; omega)⟩⟩ hl (by omega)
        rw [List.length_reverse]
        exact this
      · rw [if_neg (by omega)]
        refine ⟨r, rfl, hr, ?_⟩
        cases r with
        | nil => have := hn rfl; have := h.1; omega
        | cons x t => exact ⟨t, by rw [hx x t rfl]; congr 1; omega⟩
    · intro b r hb hr hl hk
      simp only [curve_Hull.l1]
      have push : (∀ x y t, r = x :: y :: t → 0 < cross (rd l) y x b) → ∃ r', (if r.reverse.length < 17592186044416 then (curve_Hull.l0 k l (r.reverse ++ [(b : Int)]) (l.length : Int) (wrap64 ((b : Int) + 1))) else none) = some (r'.reverse, 0) ∧ Chain (rd l) r' ∧ ∃ t, r' = ((l.length : Int) - 1) :: t := by
        intro hc
        rw [if_pos (by rw [List.length_reverse]; omega), w64 (by omega) (by omega)]
        have := ih0 (b + 1) ((b : Int) :: r) (by omega) (hr.push hc) (fun x t e => by injection e with e1 e2; omega) (fun e => by simp at e) (by simp; omega) (by simp; omega)
        rw [List.reverse_cons] at this
        exact_mod_cast this
      match r, hr, hl, hk, push with
      | [], hr, hl, hk, push =>
        rw [if_neg (by simp)]
        exact push (fun x y t e => by simp at e)
      | [x], hr, hl, hk, push =>
        rw [if_neg (by simp)]
        exact push (fun x y t e => by simp at e)
      | x :: y :: t, hr, hl, hk, push =>
        simp only [List.length_cons] at hl hk
        have e1 : wrap64 (((x :: y :: t).length : Int) - 2) = (t.length : Int) := by simp only [List.length_cons]; rw [w64 (by omega) (by omega)]; omega
        have e2 : wrap64 (((x :: y :: t).length : Int) - 1) = ((y :: t).length : Int) := by simp only [List.length_cons]; rw [w64 (by omega) (by omega)]; omega
        obtain ⟨hx1, hx2⟩ := hr.2.2 x _ rfl
        have hlt := hr.1.lt
        have hn := hr.1.tail.nonneg
        rw [e1, e2]
        rw [if_pos (by simp only [List.length_cons]; omega), if_pos (by omega), if_pos (by rw [List.length_reverse]; simp only [List.length_cons]; omega), if_pos (by omega), if_pos (by rw [List.length_reverse]; simp only [List.length_cons]; omega)]
        rw [rd_top2, rd_top, under_f l h y x b hn hlt hx1 (by omega)]
        simp only [Option.bind_some, decide_eq_true_eq]
        by_cases hu : cross (rd l) y x b ≤ 0
        · rw [if_pos hu, if_pos (by rw [List.length_reverse]; simp only [List.length_cons]; omega)]
          rw [Int.toNat_natCast, take_top, List.length_reverse]
          exact ih1 b (y :: t) hb (hr.pop hu) (by simp only [List.length_cons]; omega) (by simp only [List.length_cons]; omega)
        · rw [if_neg hu]
          exact push (fun x' y' t' e => by injection e with a1 a2; injection a2 with a2 a3; subst a1 a2 a3; omega)

theorem hull_f (l : List Int) (h : SoundP l) : ∃ t, Chain (rd l) (((l.length : Int) - 1) :: t) ∧ ∀ k, 3 * l.length + 1 ≤ k → curve_Hull.f k l = some ((((l.length : Int) - 1) :: t).reverse, 0) := by
  have h1 := h.1
  have h2 := h.2.1
  obtain ⟨b, hb, hiff⟩ := sound_f l (by omega) (3 * l.length + 1) (by omega)
  obtain ⟨r, hr, hc, t, rfl⟩ := (hull_rounds l h (3 * l.length + 1)).1 0 [] (by omega) trivial (fun x t e => by simp at e) (fun _ => rfl) (by simp) (by simp)
  refine ⟨t, hc, fun k hk => ?_⟩
  have hf : curve_Hull.f (3 * l.length + 1) l = some ((((l.length : Int) - 1) :: t).reverse, 0) := by
    unfold curve_Hull.f
    rw [hb, hiff.2 h]
    simp only [Option.bind_some, if_true]
    exact hr
  exact at_rounds (g := fun k => curve_Hull.f k l) (curve_Hull.mono l) hk hf

theorem hull_f_bad (l : List Int) (hm : l.length ≤ 9223372036854775807) (h : ¬ SoundP l) (k : Nat) (hk : l.length < k) : curve_Hull.f k l = some ([], 2) := by
  obtain ⟨b, hb, hiff⟩ := sound_f l hm k hk
  unfold curve_Hull.f
  rw [hb]
  have : b = false := by
    cases b with
    | false => rfl
    | true => exact absurd (hiff.1 rfl) h
  rw [this]
  simp

/-! ### At -/
theorem at_in (l : List Int) (i : Int) (h0 : 0 ≤ i) (h1 : i < l.length) (hm : l.length ≤ 9223372036854775807) : curve_At.f l i = some (rd l i) := by
  unfold curve_At.f
  have e : mn i (wrap64 ((l.length : Int) - 1)) = i := by rw [w64 (by omega) (by omega)]; unfold mn; omega
  rw [if_neg (by omega), if_neg (by omega), e, if_pos h0, if_pos h1]

theorem at_past (l : List Int) (i : Int) (h0 : 0 < l.length) (h1 : (l.length : Int) ≤ i + 1) (hm : l.length ≤ 9223372036854775807) : curve_At.f l i = some (rd l ((l.length : Int) - 1)) := by
  unfold curve_At.f
  have e : mn i (wrap64 ((l.length : Int) - 1)) = (l.length : Int) - 1 := by rw [w64 (by omega) (by omega)]; unfold mn; omega
  rw [if_neg (by omega), if_neg (by omega), e, if_pos (by omega), if_pos (by omega)]

/-! ### Of -/
def pre (l : List Int) (i : Nat) : Int := (l.take i).sum
theorem pre_succ (l : List Int) (i : Nat) (h : i < l.length) : pre l (i + 1) = pre l i + l.getD i 0 := by
  unfold pre
  rw [List.take_succ_eq_append_getElem h, List.sum_append]
  simp [h]
/-- The curve of the first i counts. -/
def curveTo (l : List Int) (t : Int) (i : Nat) : List Int := (List.range (i + 1)).map fun j => t * pre l j
theorem curveTo_length (l : List Int) (t : Int) (i : Nat) : (curveTo l t i).length = i + 1 := by simp [curveTo]
theorem curveTo_succ (l : List Int) (t : Int) (i : Nat) : curveTo l t (i + 1) = curveTo l t i ++ [t * pre l (i + 1)] := by
  unfold curveTo
  rw [List.range_succ (n := i + 1), List.map_append]
  rfl
theorem curveTo_get (l : List Int) (t : Int) (i j : Nat) (h : j ≤ i) : (curveTo l t i).getD j 0 = t * pre l j := by
  unfold curveTo
  rw [List.getD_eq_getElem?_getD, List.getElem?_map, List.getElem?_range (by omega)]
  rfl
def Counts (l : List Int) (n : Nat) : Prop := ∀ i : Nat, i < n → 0 ≤ l.getD i 0 ∧ l.getD i 0 ≤ 1048576
theorem pre_bound (l : List Int) : ∀ n : Nat, n ≤ l.length → Counts l n → 0 ≤ pre l n ∧ pre l n ≤ 1048576 * n
  | 0, _, _ => by simp [pre]
  | n + 1, h, hc => by
    have ih := pre_bound l n (by omega) (fun i hi => hc i (by omega))
    have := hc n (by omega)
    rw [pre_succ l n (by omega)]
    omega
theorem times_bound {t p n : Int} (h0 : 0 ≤ t) (h1 : t ≤ 1048576) (p0 : 0 ≤ p) (p1 : p ≤ 1048576 * n) (n1 : n ≤ 4096) : 0 ≤ t * p ∧ t * p ≤ 4503599627370496 := by
  refine ⟨Int.mul_nonneg h0 p0, ?_⟩
  have := Int.mul_le_mul h1 (show p ≤ 4294967296 by omega) p0 (by omega)
  omega

theorem of_loop (l : List Int) (t : Int) (h0 : 0 ≤ t) (h1 : t ≤ 1048576) (hm : l.length < 4096) : ∀ (d k i : Nat), i + d = l.length → d < k → Counts l i →
    (Counts l l.length → curve_Of.l0 k t (curveTo l t i) l (l.length : Int) (i : Int) = some (curveTo l t l.length, 0)) ∧
    (¬ Counts l l.length → curve_Of.l0 k t (curveTo l t i) l (l.length : Int) (i : Int) = some ([], 1))
  | 0, k, i, hi, hk, hc => by
    obtain ⟨k, rfl⟩ : ∃ m, k = m + 1 := ⟨k - 1, by omega⟩
    obtain rfl : i = l.length := by omega
    simp only [curve_Of.l0]
    rw [if_neg (by omega)]
    exact ⟨fun _ => rfl, fun h => absurd hc h⟩
  | d + 1, k, i, hi, hk, hc => by
    obtain ⟨k, rfl⟩ : ∃ m, k = m + 1 := ⟨k - 1, by omega⟩
    simp only [curve_Of.l0]
    rw [if_pos (by omega), if_pos (by omega), if_pos (by omega), rd_nat]
    by_cases c1 : l.getD i 0 < 0
    · rw [if_pos c1]
      exact ⟨fun h => absurd (h i (by omega)) (by omega), fun _ => rfl⟩
    · rw [if_neg c1]
      by_cases c2 : l.getD i 0 > 1048576
      · rw [if_pos c2]
        exact ⟨fun h => absurd (h i (by omega)) (by omega), fun _ => rfl⟩
      · rw [if_neg c2, if_pos (by rw [curveTo_length]; omega), if_pos (by rw [curveTo_length]; omega), rd_nat, curveTo_get l t i i (Nat.le_refl _)]
        have hc' : Counts l (i + 1) := fun j hj => by
          rcases Nat.lt_or_ge j i with h | h
          · exact hc j h
          · obtain rfl : j = i := by omega
            omega
        have b1 := pre_bound l i (by omega) hc
        have b2 := pre_bound l (i + 1) (by omega) hc'
        have t1 := times_bound h0 h1 b1.1 b1.2 (by omega)
        have t2 := times_bound h0 h1 b2.1 b2.2 (by omega)
        have es := pre_succ l i (by omega)
        have ed : t * pre l (i + 1) = t * pre l i + t * l.getD i 0 := by rw [es, Int.mul_add]
        rw [w64 (x := t * l.getD i 0) (by omega) (by omega), w64 (x := t * pre l i + t * l.getD i 0) (by omega) (by omega), w64 (x := (i : Int) + 1) (by omega) (by omega), ← ed, ← curveTo_succ]
        have := of_loop l t h0 h1 hm d k (i + 1) (by omega) (by omega) hc'
        exact_mod_cast this

/-- What Of is given is right. -/
def Right (l : List Int) (t : Int) : Prop := l.length < 4096 ∧ 0 ≤ t ∧ t ≤ 1048576 ∧ Counts l l.length

theorem of_f (l : List Int) (t : Int) (h : Right l t) (k : Nat) (hk : l.length + 1 < k) : curve_Of.f k l t = some (curveTo l t l.length, 0) := by
  obtain ⟨k, rfl⟩ : ∃ m, k = m + 1 := ⟨k - 1, by omega⟩
  obtain ⟨a1, a2, a3, a4⟩ := h
  unfold curve_Of.f
  rw [if_neg (by omega), if_neg (by omega), decide_eq_false (by omega)]
  simp only [curve_Of.j0]
  have := (of_loop l t a2 a3 a1 l.length k 0 (by omega) (by omega) (fun i hi => by omega)).1 a4
  have e0 : curveTo l t 0 = [0] := by simp [curveTo, pre]
  rw [e0] at this
  simpa using this

theorem of_f_bad (l : List Int) (t : Int) (h : ¬ Right l t) (k : Nat) (hk : 4098 < k) : curve_Of.f k l t = some ([], 1) := by
  obtain ⟨k, rfl⟩ : ∃ m, k = m + 1 := ⟨k - 1, by omega⟩
  unfold curve_Of.f
  by_cases c1 : (l.length : Int) ≥ 4096
  · rw [if_pos c1]; simp [curve_Of.j0]
  · rw [if_neg c1]
    by_cases c2 : t < 0
    · rw [if_pos c2]; simp [curve_Of.j0]
    · rw [if_neg c2]
      by_cases c3 : t > 1048576
      · rw [decide_eq_true c3]; simp [curve_Of.j0]
      · rw [decide_eq_false c3]
        simp only [curve_Of.j0]
        have := (of_loop l t (by omega) (by omega) (by omega) l.length k 0 (by omega) (by omega) (fun i hi => by omega)).2 (fun h4 => h ⟨by omega, by omega, by omega, h4⟩)
        have e0 : curveTo l t 0 = [0] := by simp [curveTo, pre]
        rw [e0] at this
        simpa using this

/-- What Of makes is sound. -/
theorem curve_sound (l : List Int) (t : Int) (h : Right l t) : SoundP (curveTo l t l.length) := by
  obtain ⟨a1, a2, a3, a4⟩ := h
  have hb : ∀ i, i ≤ l.length → 0 ≤ t * pre l i ∧ t * pre l i ≤ 4503599627370496 := by
    intro i hi
    have := pre_bound l i hi (fun j hj => a4 j (by omega))
    exact times_bound a2 a3 this.1 this.2 (by omega)
  refine ⟨by rw [curveTo_length]; omega, by rw [curveTo_length]; omega, fun i hi => ?_, fun i hi => ?_⟩
  · rw [curveTo_length] at hi
    rw [curveTo_get _ _ _ _ (by omega)]
    exact hb i (by omega)
  · rw [curveTo_length] at hi
    rw [curveTo_get _ _ _ _ (by omega), curveTo_get _ _ _ _ (by omega), pre_succ l i (by omega), Int.mul_add]
    have := Int.mul_nonneg a2 (a4 i (by omega)).1
    omega

/-! ### awake -/
theorem awake_f : stowagelaw11_awake.f 30 = some true := by decide +kernel
theorem awake_at (k : Nat) (hk : 30 ≤ k) : stowagelaw11_awake.f k = some true := at_rounds stowagelaw11_awake.mono hk awake_f

end Go.Proofs.Ytlgikpfjonnhmaa.FQ
