/- The corners that the program finds are those of the definition, of any curve of at most 60 sizes: said of numbers and lists alone. -/
import Derived.Test.YtlgikpfjonnhmaaHandCurveHulls
import Derived.Test.YtlgikpfjonnhmaaCurveFns
namespace Go.Proofs.Ytlgikpfjonnhmaa.Pure
open Go.RowKit Go.Proofs.Ytlgikpfjonnhmaa.Q Go.Proofs.YtlgikpfjonnhmaaW.PrintWords Go.Proofs.YtlgikpfjonnhmaaW.PrintLast Go.Proofs.Ytlgikpfjonnhmaa.CP Go.Proofs.Ytlgikpfjonnhmaa.FQ

/-! ### the reference's Sound -/
theorem refsound_loop (l : List Int) (hm : l.length ≤ 9223372036854775807) : ∀ (d k i : Nat), i + d = l.length → d < k →
    ∃ b, stowageref11_Sound.l0 k l (i : Int) = some b ∧ (b = true ↔ ∀ j : Nat, i ≤ j → j < l.length → l.getD j 0 ≤ 4503599627370496 ∧ (0 < j → l.getD (j - 1) 0 ≤ l.getD j 0))
  | 0, k, i, hi, hk => by
    obtain ⟨k, rfl⟩ : ∃ m, k = m + 1 := ⟨k - 1, by omega⟩
    rw [stowageref11_Sound.l0, if_neg (by omega)]
    exact ⟨true, rfl, by simp; intro j h1 h2; omega⟩
  | d + 1, k, i, hi, hk => by
    obtain ⟨k, rfl⟩ : ∃ m, k = m + 1 := ⟨k - 1, by omega⟩
    rw [stowageref11_Sound.l0, if_pos (by omega), if_pos (by omega), rd_nat]
    by_cases h1 : l.getD i 0 > 4503599627370496
    · rw [if_pos h1]
      refine ⟨false, rfl, ?_⟩
      simp only [Bool.false_eq_true, false_iff]
      intro h2
      have := h2 i (Nat.le_refl _) (by omega)
      omega
    · rw [if_neg h1]
      obtain ⟨b, hb, hiff⟩ := refsound_loop l hm d k (i + 1) (by omega) (by omega)
      rw [show (((i + 1 : Nat)) : Int) = (i : Int) + 1 by omega] at hb
      by_cases h2 : (i : Int) > 0
      · rw [if_pos h2, w64 (x := (i : Int) - 1) (by omega) (by omega), if_pos (by omega), if_pos (by omega), show ((i : Int) - 1) = ((i - 1 : Nat) : Int) by omega, rd_nat]
        by_cases h3 : l.getD i 0 < l.getD (i - 1) 0
        · rw [if_pos h3]
          refine ⟨false, rfl, ?_⟩
          simp only [Bool.false_eq_true, false_iff]
          intro h4
          have := (h4 i (Nat.le_refl _) (by omega)).2 (by omega)
          omega
        · rw [if_neg h3, w64 (by omega) (by omega)]
          refine ⟨b, hb, hiff.trans ⟨fun h j h5 h6 => ?_, fun h j h5 h6 => h j (by omega) h6⟩⟩
          rcases Nat.lt_or_ge i j with h7 | h7
          · exact h j (by omega) h6
          · obtain rfl : i = j := by omega
            exact ⟨by omega, fun _ => by omega⟩
      · rw [if_neg h2, w64 (by omega) (by omega)]
        refine ⟨b, hb, hiff.trans ⟨fun h j h5 h6 => ?_, fun h j h5 h6 => h j (by omega) h6⟩⟩
        rcases Nat.lt_or_ge i j with h7 | h7
        · exact h j (by omega) h6
        · obtain rfl : i = j := by omega
          exact ⟨by omega, fun _ => by omega⟩

theorem refsound_f (l : List Int) (k : Nat) (hk : l.length + 1 < k) (hm : l.length ≤ 9223372036854775807) : ∃ b, stowageref11_Sound.f k l = some b ∧ (b = true ↔ SoundP l) := by
  obtain ⟨k, rfl⟩ : ∃ m, k = m + 1 := ⟨k - 1, by omega⟩
  unfold stowageref11_Sound.f
  by_cases h1 : (l.length : Int) < 1
  · rw [if_pos h1, stowageref11_Sound.j0, if_pos rfl]
    exact ⟨false, rfl, by simp; intro h; have := h.1; omega⟩
  · rw [if_neg h1]
    by_cases h2 : (l.length : Int) > 4096
    · rw [if_pos h2, stowageref11_Sound.j0, if_pos rfl]
      exact ⟨false, rfl, by simp; intro h; have := h.2.1; omega⟩
    · rw [if_neg h2, if_pos (by omega)]
      have e : rd l 0 = l.getD 0 0 := rd_nat l 0
      rw [e]
      by_cases h3 : l.getD 0 0 < 0
      · rw [decide_eq_true h3, stowageref11_Sound.j0, if_pos rfl]
        exact ⟨false, rfl, by simp only [Bool.false_eq_true, false_iff]; intro h; have := h.2.2.1 0 (by omega); omega⟩
      · rw [decide_eq_false h3, stowageref11_Sound.j0, if_neg (by simp)]
        obtain ⟨b, hb, hiff⟩ := refsound_loop l hm l.length k 0 (by omega) (by omega)
        refine ⟨b, hb, hiff.trans ⟨fun h => ?_, fun h j _ hj => ⟨(h.2.2.1 j hj).2, fun h0 => ?_⟩⟩⟩
        · have up : ∀ j : Nat, j < l.length → 0 ≤ l.getD j 0 := by
            intro j
            induction j with
            | zero => intro _; omega
            | succ j ih =>
              intro hj
              have := ih (by omega)
              have := (h (j + 1) (by omega) hj).2 (by omega)
              rw [Nat.add_sub_cancel] at this
              omega
          exact ⟨by omega, by omega, fun j hj => ⟨up j hj, (h j (by omega) hj).1⟩, fun j hj => by
            have := (h (j + 1) (by omega) hj).2 (by omega)
            rwa [Nat.add_sub_cancel] at this⟩
        · have := h.2.2.2 (j - 1) (by omega)
          rwa [show j - 1 + 1 = j by omega] at this

/-! ### more -/
theorem half (a b : Int) (a0 : 0 ≤ a) (a1 : a ≤ 4503599627370496) (b0 : 0 ≤ b) (b1 : b ≤ 4096) :
    wrap64 (wrap64 (wrap64 (Int.tdiv a 65536) * b) + wrap64 (Int.tdiv (wrap64 (Int.tmod a 65536 * b)) 65536)) = a * b / 65536 ∧
    Int.tmod (wrap64 (Int.tmod a 65536 * b)) 65536 = a * b % 65536 := by
  have t1 : Int.tdiv a 65536 = a / 65536 := Int.tdiv_eq_ediv_of_nonneg a0
  have t2 : Int.tmod a 65536 = a % 65536 := Int.tmod_eq_emod_of_nonneg a0
  have q0 : 0 ≤ a / 65536 := by omega
  have r0 : 0 ≤ a % 65536 := by omega
  have p1 := Int.mul_nonneg q0 b0
  have p2 := Int.mul_nonneg r0 b0
  have p3 := Int.mul_le_mul (show a / 65536 ≤ 68719476736 by omega) b1 b0 (by omega)
  have p4 := Int.mul_le_mul (show a % 65536 ≤ 65535 by omega) b1 b0 (by omega)
  have e : a * b = 65536 * (a / 65536 * b) + a % 65536 * b := by
    have : a = 65536 * (a / 65536) + a % 65536 := by omega
    generalize a / 65536 = q at *
    generalize a % 65536 = r at *
    subst this
    grind
  rw [t1, t2, w64 (x := a / 65536) (by omega) (by omega), w64 (x := a / 65536 * b) (by omega) (by omega), w64 (x := a % 65536 * b) (by omega) (by omega)]
  rw [Int.tdiv_eq_ediv_of_nonneg p2, Int.tmod_eq_emod_of_nonneg p2, w64 (x := a % 65536 * b / 65536) (by omega) (by omega), w64 (by omega) (by omega), e]
  generalize a / 65536 * b = x at *
  generalize a % 65536 * b = y at *
  omega

theorem more_f (a b c d : Int) (a0 : 0 ≤ a) (a1 : a ≤ 4503599627370496) (b0 : 0 ≤ b) (b1 : b ≤ 4096) (c0 : 0 ≤ c) (c1 : c ≤ 4503599627370496) (d0 : 0 ≤ d) (d1 : d ≤ 4096) :
    stowageref11_more.f a b c d = some (decide (a * b > c * d)) := by
  obtain ⟨h1, h2⟩ := half a b a0 a1 b0 b1
  obtain ⟨h3, h4⟩ := half c d c0 c1 d0 d1
  unfold stowageref11_more.f
  rw [h1, h2, h3, h4]
  generalize a * b = x at *
  generalize c * d = y at *
  by_cases e1 : x / 65536 > y / 65536
  · rw [if_pos e1]; congr 1; symm; rw [decide_eq_true_eq]; omega
  · rw [if_neg e1]
    by_cases e2 : x / 65536 = y / 65536
    · rw [if_pos e2]; congr 1; rw [decide_eq_decide]; omega
    · rw [if_neg e2]; congr 1; symm; rw [decide_eq_false_iff_not]; omega

/-! ### the reference's Hull -/
/-- No line of an earlier and a later size touches s, for those earlier ones that are at least a. -/
def Free (c : Int → Int) (n s : Int) (a : Int) : Prop := ∀ x b, a ≤ x → x < s → s < b → b < n → 0 < cross c x s b

theorem refhull_l2 (l : List Int) (h : SoundP l) (xs : List Int) (s a : Nat) (ha : a < s) (hs : s < l.length) (R : List Int)
    (go : (∀ b : Int, s < b → b < l.length → 0 < cross (rd l) a s b) → ∃ k, stowageref11_Hull.l1 k l xs s true ((a : Int) + 1) = some R)
    (stop : ¬ (∀ b : Int, s < b → b < l.length → 0 < cross (rd l) a s b) → ∃ k, stowageref11_Hull.l1 k l xs s false ((a : Int) + 1) = some R) :
    ∀ (d b : Nat), b + d = l.length → s < b → (∀ b' : Int, s < b' → b' < b → 0 < cross (rd l) a s b') → ∃ k, stowageref11_Hull.l2 k l xs s true a b = some R
  | 0, b, hb, hsb, hall => by
    obtain ⟨k, hk⟩ := go (fun b' h1 h2 => hall b' h1 (by omega))
    have := h.2.1
    refine ⟨k + 1, ?_⟩
    rw [stowageref11_Hull.l2, if_neg (by omega), w64 (by omega) (by omega)]
    exact hk
  | d + 1, b, hb, hsb, hall => by
    have hl := h.2.1
    have m1 := sound_le h (a := (a : Int)) (b := (s : Int)) (by omega) (by omega) (by omega)
    have m2 := sound_le h (a := (s : Int)) (b := (b : Int)) (by omega) (by omega) (by omega)
    have key : ∀ r, (∃ k, stowageref11_Hull.l2 k l xs s (decide (0 < cross (rd l) a s b)) a ((b : Int) + 1) = some r) → ∃ k, stowageref11_Hull.l2 k l xs s true a b = some r := by
      rintro r ⟨k, hk⟩
      refine ⟨k + 1, ?_⟩
      rw [stowageref11_Hull.l2, if_pos (by omega), if_pos rfl, if_pos (by omega), if_pos (by omega), if_pos (by omega), if_pos (by omega), if_pos (by omega)]
      rw [w64 (x := rd l s - rd l a) (by omega) (by omega), w64 (x := (b : Int) - a) (by omega) (by omega), w64 (x := rd l b - rd l a) (by omega) (by omega), w64 (x := (s : Int) - a) (by omega) (by omega)]
      rw [more_f _ _ _ _ (by omega) (by omega) (by omega) (by omega) (by omega) (by omega) (by omega) (by omega), Option.bind_some, w64 (by omega) (by omega)]
      have e : decide ((rd l s - rd l a) * ((b : Int) - a) > (rd l b - rd l a) * ((s : Int) - a)) = decide (0 < cross (rd l) a s b) := by
        rw [decide_eq_decide]; unfold cross; omega
      rw [e]
      exact hk
    apply key
    by_cases hc : 0 < cross (rd l) a s b
    · rw [decide_eq_true hc]
      have := refhull_l2 l h xs s a ha hs R go stop d (b + 1) (by omega) (by omega) (fun b' h1 h2 => by
        rcases Int.lt_or_le b' b with h3 | h3
        · exact hall b' h1 h3
        · obtain rfl : b' = b := by omega
          exact hc)
      exact_mod_cast this
    · rw [decide_eq_false hc]
      obtain ⟨k, hk⟩ := stop (fun hh => hc (hh b (by omega) (by omega)))
      refine ⟨k + 1, ?_⟩
      rw [stowageref11_Hull.l2]
      by_cases h3 : (b : Int) + 1 < l.length
      · rw [if_pos h3, if_neg (by simp), w64 (by omega) (by omega)]
        exact hk
      · rw [if_neg h3, w64 (by omega) (by omega)]
        exact hk

theorem refhull_l1 (l : List Int) (h : SoundP l) (xs : List Int) (hxs : xs.length ≤ 4096) (s : Nat) (hs : s < l.length) (R : List Int)
    (yes : Free (rd l) l.length s 0 → ∃ k, stowageref11_Hull.l0 k l (xs ++ [(s : Int)]) ((s : Int) + 1) = some R)
    (no : ¬ Free (rd l) l.length s 0 → ∃ k, stowageref11_Hull.l0 k l xs ((s : Int) + 1) = some R) :
    ∀ (d a : Nat), a + d = s → (∀ x b : Int, 0 ≤ x → x < a → s < b → b < l.length → 0 < cross (rd l) x s b) → ∃ k, stowageref11_Hull.l1 k l xs s true a = some R := by
  have hl := h.2.1
  -- the corner is none: out of both loops
  have out : ¬ Free (rd l) l.length s 0 → ∀ a : Nat, a ≤ s → ∃ k, stowageref11_Hull.l1 k l xs s false a = some R := by
    intro hn a ha
    obtain ⟨k, hk⟩ := no hn
    refine ⟨k + 2, ?_⟩
    rw [stowageref11_Hull.l1]
    have : stowageref11_Hull.j2 (k + 1) l xs s false a false = some R := by
      rw [stowageref11_Hull.j2, if_neg (by simp), if_neg (by simp), w64 (by omega) (by omega)]
      exact hk
    by_cases h3 : (a : Int) < s
    · rw [if_pos h3]; exact this
    · rw [if_neg h3]; exact this
  intro d
  induction d with
  | zero =>
    intro a ha hall
    obtain rfl : a = s := by omega
    obtain ⟨k, hk⟩ := yes (fun x b h1 h2 h3 h4 => hall x b h1 h2 h3 h4)
    refine ⟨k + 2, ?_⟩
    rw [stowageref11_Hull.l1, if_neg (by omega), stowageref11_Hull.j2, if_neg (by simp), if_pos rfl, if_pos (by omega), w64 (by omega) (by omega)]
    exact hk
  | succ d ih =>
    intro a ha hall
    obtain ⟨k, hk⟩ := refhull_l2 l h xs s a (by omega) hs R (fun hb => by
        have := ih (a + 1) (by omega) (fun x b h1 h2 h3 h4 => by
          rcases Int.lt_or_le x a with h5 | h5
          · exact hall x b h1 h5 h3 h4
          · obtain rfl : x = a := by omega
            exact hb b h3 h4)
        exact_mod_cast this)
      (fun hb => by
        have := out (fun hf => hb (fun b h3 h4 => hf a b (by omega) (by omega) h3 h4)) (a + 1) (by omega)
        exact_mod_cast this)
      (l.length - (s + 1)) (s + 1) (by omega) (by omega) (fun b' h1 h2 => by omega)
    refine ⟨k + 2, ?_⟩
    rw [stowageref11_Hull.l1, if_pos (by omega), stowageref11_Hull.j2, if_pos rfl, w64 (by omega) (by omega)]
    exact_mod_cast hk

theorem filter_step (s : Int) : ∀ (h : List Int), h.Pairwise (· < ·) → h.filter (fun x => decide (x < s + 1)) = h.filter (fun x => decide (x < s)) ++ (if s ∈ h then [s] else [])
  | [], _ => by simp
  | x :: t, hp => by
    rw [List.pairwise_cons] at hp
    have ih := filter_step s t hp.2
    rcases Int.lt_trichotomy x s with h1 | h1 | h1
    · rw [List.filter_cons_of_pos (by simp; omega), List.filter_cons_of_pos (by simp; omega), ih, List.cons_append]
      congr 2
      by_cases hm : s ∈ t
      · rw [if_pos hm, if_pos (List.mem_cons_of_mem _ hm)]
      · rw [if_neg hm, if_neg (by simp [hm]; omega)]
    · subst h1
      have e1 : t.filter (fun y => decide (y < x + 1)) = [] := by
        rw [List.filter_eq_nil_iff]; intro y hy; have := hp.1 y hy; simp; omega
      have e2 : t.filter (fun y => decide (y < x)) = [] := by
        rw [List.filter_eq_nil_iff]; intro y hy; have := hp.1 y hy; simp; omega
      rw [List.filter_cons_of_pos (by simp; omega), List.filter_cons_of_neg (by simp), e1, e2, if_pos (by simp)]
      rfl
    · have e1 : t.filter (fun y => decide (y < s + 1)) = [] := by
        rw [List.filter_eq_nil_iff]; intro y hy; have := hp.1 y hy; simp; omega
      have e2 : t.filter (fun y => decide (y < s)) = [] := by
        rw [List.filter_eq_nil_iff]; intro y hy; have := hp.1 y hy; simp; omega
      rw [List.filter_cons_of_neg (by simp; omega), List.filter_cons_of_neg (by simp; omega), e1, e2, if_neg]
      · rfl
      · intro hm
        rcases List.mem_cons.1 hm with rfl | hm
        · omega
        · have := hp.1 s hm; omega

theorem refhull_l0 (l : List Int) (h : SoundP l) (hl6 : l.length ≤ 60) (H : List Int) (hsort : H.Pairwise (· < ·)) (hlen : H.length ≤ 4096) (hin : ∀ x ∈ H, x < l.length)
    (hmem : ∀ s : Nat, s < l.length → ((s : Int) ∈ H ↔ Free (rd l) l.length s 0)) : ∀ (d s : Nat), s + d = l.length → ∃ k, stowageref11_Hull.l0 k l (H.filter fun x => decide (x < (s : Int))) (s : Int) = some H
  | 0, s, hs => by
    refine ⟨1, ?_⟩
    rw [stowageref11_Hull.l0, if_neg (by omega)]
    congr 1
    rw [List.filter_eq_self]
    intro x hx
    have := hin x hx
    simp; omega
  | d + 1, s, hs => by
    have ih := refhull_l0 l h hl6 H hsort hlen hin hmem d (s + 1) (by omega)
    have step := filter_step (s : Int) H hsort
    rw [show ((s + 1 : Nat) : Int) = (s : Int) + 1 by omega, step] at ih
    have hm := hmem s (by omega)
    obtain ⟨k, hk⟩ := refhull_l1 l h (H.filter fun x => decide (x < (s : Int))) (Nat.le_trans (List.length_filter_le _ _) hlen) s (by omega) H
      (fun hf => by rw [if_pos (hm.2 hf)] at ih; exact ih)
      (fun hf => by rw [if_neg (fun hh => hf (hm.1 hh)), List.append_nil] at ih; exact ih)
      s 0 (by omega) (fun x b h1 h2 => by omega)
    refine ⟨k + 1, ?_⟩
    rw [stowageref11_Hull.l0, if_pos (by omega)]
    exact hk

theorem same_loop' (l : List Int) (hm : l.length ≤ 9223372036854775807) : ∀ (d k i : Nat), i + d = l.length → d < k → stowageref01_SameInts.l0 k l l (i : Int) = some true
  | 0, k, i, hi, hk => by
    obtain ⟨k, rfl⟩ : ∃ m, k = m + 1 := ⟨k - 1, by omega⟩
    rw [stowageref01_SameInts.l0, if_neg (by omega)]
  | d + 1, k, i, hi, hk => by
    obtain ⟨k, rfl⟩ : ∃ m, k = m + 1 := ⟨k - 1, by omega⟩
    rw [stowageref01_SameInts.l0, if_pos (by omega), if_pos (by omega), if_pos (by omega), if_pos rfl, w64 (by omega) (by omega)]
    have := same_loop' l hm d k (i + 1) (by omega) (by omega)
    exact_mod_cast this

theorem good (l : List Int) : H.Good l := by
  have hlen : (l.take 60).length ≤ 60 := by rw [List.length_take]; omega
  by_cases hs : SoundP (l.take 60)
  · obtain ⟨t, hch, hf⟩ := hull_f (l.take 60) hs
    unfold H.Good
    generalize l.take 60 = q at *
    have hl1 := hs.1
    have hsorted := Chain.sorted hch
    have hall := Chain.all hch
    have hts : t.length < q.length := by
      have : ∀ (x : Int) (t : List Int), Chain (rd q) (x :: t) → (t.length : Int) ≤ x := by
        intro x t
        induction t generalizing x with
        | nil => intro h; have : x = 0 := h; simp [this]
        | cons y t ih => intro h; have := ih y h.tail; have := h.lt; simp only [List.length_cons]; omega
      have := this _ _ hch
      omega
    obtain ⟨k1, h1⟩ := refhull_l0 q hs hlen ((((q.length : Int) - 1) :: t).reverse) (by rw [List.pairwise_reverse]; exact hsorted) (by simp; omega)
      (fun x hx => by have := hall x (List.mem_reverse.1 hx); omega)
      (fun s hsl => by
        rw [List.mem_reverse]
        constructor
        · intro hm x b h2 h3 h4 h5
          exact Chain.corner hch s hm x b h2 h3 h4 (by omega)
        · intro hfree
          by_cases hm : (s : Int) ∈ (((q.length : Int) - 1) :: t)
          · exact hm
          · exfalso
            obtain ⟨a, b, g1, g2, g3, g4, g5⟩ := Chain.gap hch s (by omega) (by omega) hm
            have := hfree a b g1 g2 g3 (by omega)
            omega)
      q.length 0 (by omega)
    have h2 : stowageref11_Hull.f k1 q = some ((((q.length : Int) - 1) :: t).reverse) := by
      unfold stowageref11_Hull.f
      rw [List.filter_eq_nil_iff.2 (by intro x hx; have := hall x (List.mem_reverse.1 hx); simp; omega)] at h1
      exact h1
    refine ⟨max k1 500, awake_at _ (by omega), .inr ⟨?_, _, hf (max k1 500) (by omega), at_rounds (k := k1) (k' := max k1 500) (g := fun k => stowageref11_Hull.f k q) (stowageref11_Hull.mono q) (by omega) h2, ?_⟩⟩
    · obtain ⟨b, hb, hiff⟩ := refsound_f q (max k1 500) (by omega) (by omega)
      rw [hb, hiff.2 hs]
    · unfold stowageref01_SameInts.f
      rw [if_pos rfl]
      exact_mod_cast same_loop' (((q.length : Int) - 1) :: t).reverse (by simp; omega) (((q.length : Int) - 1) :: t).reverse.length (max k1 500) 0 (by omega) (by simp; omega)
  · refine ⟨500, awake_at _ (by omega), .inl ⟨?_, hull_f_bad _ (by omega) hs _ (by omega)⟩⟩
    obtain ⟨b, hb, hiff⟩ := refsound_f (l.take 60) 500 (by omega) (by omega)
    rw [hb]
    cases b with
    | false => rfl
    | true => exact absurd (hiff.1 rfl) hs

end Go.Proofs.Ytlgikpfjonnhmaa.Pure
