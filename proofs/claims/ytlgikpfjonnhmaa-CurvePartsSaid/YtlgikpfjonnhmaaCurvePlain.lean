/- Plain facts on numbers and lists for the hull of a curve: no program in sight. -/
import Derived.RowKit
import Derived.Lib.Mul64
namespace Go.Proofs.Ytlgikpfjonnhmaa.CP
open Go.RowKit

theorem w64 {x : Int} (h0 : -9223372036854775808 ≤ x) (h1 : x ≤ 9223372036854775807) : wrap64 x = x := by
  unfold wrap64; omega

/-- p/S ≤ q/Y and q/Y ≤ r/B give p/S ≤ r/B. -/
theorem le_chain {p q r S Y B : Int} (hY : 0 < Y) (hS : 0 ≤ S) (hB : 0 ≤ B) (h1 : p * Y ≤ q * S) (h2 : q * B ≤ r * Y) : p * B ≤ r * S := by
  have e1 : p * Y * B ≤ q * S * B := Int.mul_le_mul_of_nonneg_right h1 hB
  have e2 : q * B * S ≤ r * Y * S := Int.mul_le_mul_of_nonneg_right h2 hS
  have e3 : p * B * Y ≤ r * S * Y := by
    have a1 : p * B * Y = p * Y * B := by grind
    have a2 : q * S * B = q * B * S := by grind
    have a3 : r * S * Y = r * Y * S := by grind
    omega
  exact Int.le_of_mul_le_mul_right e3 hY

theorem lt_chain {p q r S Y B : Int} (hY : 0 < Y) (hS : 0 < S) (hB : 0 ≤ B) (h1 : p * Y ≤ q * S) (h2 : q * B < r * Y) : p * B < r * S := by
  have e1 : p * Y * B ≤ q * S * B := Int.mul_le_mul_of_nonneg_right h1 hB
  have e2 : q * B * S < r * Y * S := Int.mul_lt_mul_of_pos_right h2 hS
  have e3 : p * B * Y < r * S * Y := by
    have a1 : p * B * Y = p * Y * B := by grind
    have a2 : q * S * B = q * B * S := by grind
    have a3 : r * S * Y = r * Y * S := by grind
    omega
  exact Int.lt_of_mul_lt_mul_right e3 (Int.le_of_lt hY)

def cross (c : Int → Int) (a s b : Int) : Int := (c s - c a) * (b - a) - (c b - c a) * (s - a)

theorem cross_right (c : Int → Int) (a s b : Int) : cross c a s b = (c s - c b) * (b - a) - (c a - c b) * (b - s) := by
  unfold cross; grind

theorem cross_mid (c : Int → Int) (a s b : Int) : cross c a s b = (c s - c a) * (b - s) - (c b - c s) * (s - a) := by
  unfold cross; grind

/-- No point between a and b lies above the line. -/
def Seg (c : Int → Int) (a b : Int) : Prop := ∀ s, a ≤ s → s ≤ b → cross c a s b ≤ 0

theorem seg_next (c : Int → Int) (a b : Int) (h : b ≤ a + 1) : Seg c a b := by
  intro s h0 h1
  have : s = a ∨ s = b := by omega
  rcases this with rfl | rfl
  · unfold cross; simp
  · unfold cross; grind

theorem seg_join (c : Int → Int) {x y b : Int} (hxy : x < y) (hyb : y < b) (h1 : Seg c x y) (h2 : Seg c y b) (hu : cross c x y b ≤ 0) : Seg c x b := by
  intro s hs0 hs1
  rcases Int.le_total s y with h | h
  · have e := h1 s hs0 h
    unfold cross at e hu ⊢
    have := le_chain (p := c s - c x) (q := c y - c x) (r := c b - c x) (S := s - x) (Y := y - x) (B := b - x) (by omega) (by omega) (by omega) (by omega) (by omega)
    omega
  · have e := h2 s h hs1
    rw [cross_right] at e hu ⊢
    have := le_chain (p := c s - c b) (q := c y - c b) (r := c x - c b) (S := b - s) (Y := b - y) (B := b - x) (by omega) (by omega) (by omega) (by omega) (by omega)
    omega

/-- The stack of corners, the last one first. -/
def Chain (c : Int → Int) : List Int → Prop
  | [] => True
  | [x] => x = 0
  | [x, y] => y < x ∧ Seg c y x ∧ y = 0
  | x :: y :: z :: r => y < x ∧ Seg c y x ∧ 0 < cross c z y x ∧ Chain c (y :: z :: r)

theorem Chain.tail {c : Int → Int} {x y : Int} {r : List Int} (h : Chain c (x :: y :: r)) : Chain c (y :: r) := by
  cases r with
  | nil => exact h.2.2
  | cons z r => exact h.2.2.2

theorem Chain.lt {c : Int → Int} {x y : Int} {r : List Int} (h : Chain c (x :: y :: r)) : y < x := by
  cases r with
  | nil => exact h.1
  | cons z r => exact h.1

theorem Chain.seg {c : Int → Int} {x y : Int} {r : List Int} (h : Chain c (x :: y :: r)) : Seg c y x := by
  cases r with
  | nil => exact h.2.1
  | cons z r => exact h.2.1

theorem Chain.nonneg {c : Int → Int} : ∀ {x : Int} {r : List Int}, Chain c (x :: r) → 0 ≤ x
  | x, [], h => by have : x = 0 := h; omega
  | x, y :: r, h => by have h1 := Chain.nonneg h.tail; have := h.lt; omega

theorem Chain.all {c : Int → Int} : ∀ {x : Int} {r : List Int}, Chain c (x :: r) → ∀ s ∈ x :: r, 0 ≤ s ∧ s ≤ x
  | x, [], h, s, hs => by have : x = 0 := h; simp at hs; omega
  | x, y :: r, h, s, hs => by
    have hl := h.lt
    have hn := h.nonneg
    rcases List.mem_cons.1 hs with rfl | hs
    · omega
    · have := Chain.all h.tail s hs
      omega

/-- To the left of a corner no point lies above the line of the last two. -/
theorem Chain.left {c : Int → Int} : ∀ {x y : Int} {r : List Int}, Chain c (x :: y :: r) → ∀ a, 0 ≤ a → a ≤ x → (c x - c y) * (x - a) ≤ (c x - c a) * (x - y)
  | x, y, [], h, a, h0, h1 => by
    have hs := h.seg a (by have : y = 0 := h.2.2; omega) h1
    rw [cross_right] at hs
    have e1 : (c a - c x) * (x - y) = - ((c x - c a) * (x - y)) := by grind
    have e2 : (c y - c x) * (x - a) = - ((c x - c y) * (x - a)) := by grind
    omega
  | x, y, z :: r, h, a, h0, h1 => by
    rcases Int.le_total y a with hy | hy
    · have hs := h.seg a hy h1
      rw [cross_right] at hs
      have e1 : (c a - c x) * (x - y) = - ((c x - c a) * (x - y)) := by grind
      have e2 : (c y - c x) * (x - a) = - ((c x - c y) * (x - a)) := by grind
      omega
    · have ih := Chain.left h.tail a h0 hy
      have hl := h.lt
      have hl2 := h.tail.lt
      have hc : 0 < cross c z y x := h.2.2.1
      rw [cross_mid] at hc
      -- (x-y)-slope is less than (y-z)-slope, which is at most the slope from a to y
      have k := le_chain (p := c x - c y) (q := c y - c z) (r := c y - c a) (S := x - y) (Y := y - z) (B := y - a) (by omega) (by omega) (by omega) (by omega) (by
        have : (c y - c z) * (y - a) ≤ (c y - c a) * (y - z) := ih
        omega)
      have e1 : (c x - c y) * (x - a) = (c x - c y) * (x - y) + (c x - c y) * (y - a) := by grind
      have e2 : (c x - c a) * (x - y) = (c x - c y) * (x - y) + (c y - c a) * (x - y) := by grind
      omega

/-- Where s is no corner of the stack, it lies between two, not above their line. -/
theorem Chain.gap {c : Int → Int} : ∀ {x : Int} {r : List Int}, Chain c (x :: r) → ∀ s, 0 ≤ s → s ≤ x → s ∉ x :: r → ∃ a b, 0 ≤ a ∧ a < s ∧ s < b ∧ b ≤ x ∧ cross c a s b ≤ 0
  | x, [], h, s, h0, h1, hn => by
    have hx : x = 0 := h
    exfalso
    apply hn
    have : s = x := by omega
    subst this
    simp
  | x, y :: r, h, s, h0, h1, hn => by
    have hl := h.lt
    have hx : s ≠ x := fun e => hn (by subst e; simp)
    have hy : s ≠ y := fun e => hn (by subst e; simp)
    rcases Int.le_total s y with hs | hs
    · obtain ⟨a, b, h1, h2, h3, h4, h5⟩ := Chain.gap h.tail s h0 hs (fun hm => hn (List.mem_cons_of_mem _ hm))
      exact ⟨a, b, h1, h2, h3, by omega, h5⟩
    · exact ⟨y, x, h.tail.nonneg, by omega, by omega, by omega, h.seg s hs h1⟩

/-- To the right of a corner no point lies above the line of it and the next: said at the stack behind it.
 Each corner is strictly above each line of a point ahead of it and one behind it. -/
theorem Chain.corner {c : Int → Int} : ∀ {x : Int} {r : List Int}, Chain c (x :: r) → ∀ s ∈ x :: r, ∀ a b, 0 ≤ a → a < s → s < b → b ≤ x → 0 < cross c a s b := by
  -- the claim that carries: at a corner s with the next one n ahead of the top, all points b behind have (b-s)-slope at most (n-s)-slope
  have key : ∀ (r : List Int) (x : Int), Chain c (x :: r) → ∀ s ∈ r, ∃ n, s < n ∧ n ≤ x ∧ (∀ b, s ≤ b → b ≤ x → (c b - c s) * (n - s) ≤ (c n - c s) * (b - s)) ∧ (∀ a, 0 ≤ a → a < s → (c n - c s) * (s - a) < (c s - c a) * (n - s)) := by
    intro r
    induction r with
    | nil => intro x _ s hs; simp at hs
    | cons y r ih =>
      intro x h s hs
      have hl := h.lt
      rcases List.mem_cons.1 hs with rfl | hs
      · refine ⟨x, hl, by omega, ?_, ?_⟩
        · intro b h0 h1
          have := h.seg b h0 h1
          unfold cross at this
          omega
        · intro a ha0 ha1
          cases r with
          | nil =>
            have e : s = 0 := h.2.2
            omega
          | cons z r =>
            have hleft := Chain.left h.tail a ha0 (by omega)
            have hl2 := h.tail.lt
            have hc : 0 < cross c z s x := h.2.2.1
            rw [cross_mid] at hc
            -- slope(s,x) < slope(z,s) ≤ slope(a,s)
            have k1 : (c x - c s) * (s - z) < (c s - c z) * (x - s) := by omega
            -- multiply
            have m1 : (c x - c s) * (s - z) * (s - a) < (c s - c z) * (x - s) * (s - a) := Int.mul_lt_mul_of_pos_right k1 (by omega)
            have m2 : (c s - c z) * (s - a) * (x - s) ≤ (c s - c a) * (s - z) * (x - s) := Int.mul_le_mul_of_nonneg_right hleft (by omega)
            have a1 : (c s - c z) * (x - s) * (s - a) = (c s - c z) * (s - a) * (x - s) := by grind
            have a2 : (c x - c s) * (s - z) * (s - a) = (c x - c s) * (s - a) * (s - z) := by grind
            have a3 : (c s - c a) * (s - z) * (x - s) = (c s - c a) * (x - s) * (s - z) := by grind
            have m3 : (c x - c s) * (s - a) * (s - z) < (c s - c a) * (x - s) * (s - z) := by omega
            exact Int.lt_of_mul_lt_mul_right m3 (by omega)
      · obtain ⟨n, hn1, hn2, hn3, hn4⟩ := ih y h.tail s hs
        refine ⟨n, hn1, by omega, ?_, hn4⟩
        intro b h0 h1
        rcases Int.le_total b y with hb | hb
        · exact hn3 b h0 hb
        · -- b lies between y and x: below the line s..n continued, since slope(y,x) < .. ≤ slope(s,n)
          have hsy := (Chain.all h.tail s (List.mem_cons_of_mem _ hs))
          have hseg := h.seg b hb h1
          unfold cross at hseg
          have hy3 := hn3 y hsy.2 (Int.le_refl _)
          cases r with
          | nil => simp at hs
          | cons z r =>
            have hl2 := h.tail.lt
            have hc : 0 < cross c z y x := h.2.2.1
            have hz := (Chain.all h.tail.tail s hs)
            have hleft := Chain.left h.tail s (by omega) hsy.2
            rw [cross_mid] at hc
            have hys : s < y := by omega
            -- slope(y,b) ≤ slope(y,x) < slope(z,y) ≤ slope(s,y) ≤ slope(s,n)
            have k1 : (c b - c y) * (x - y) ≤ (c x - c y) * (b - y) := by omega
            have k2 : (c x - c y) * (y - z) ≤ (c y - c z) * (x - y) := by omega
            have k3 : (c b - c y) * (y - z) ≤ (c y - c z) * (b - y) := le_chain (p := c b - c y) (q := c x - c y) (r := c y - c z) (S := b - y) (Y := x - y) (B := y - z) (by omega) (by omega) (by omega) k1 k2
            have k4 : (c b - c y) * (y - s) ≤ (c y - c s) * (b - y) := le_chain (p := c b - c y) (q := c y - c z) (r := c y - c s) (S := b - y) (Y := y - z) (B := y - s) (by omega) (by omega) (by omega) k3 hleft
            have k5 : (c b - c y) * (n - s) ≤ (c n - c s) * (b - y) := le_chain (p := c b - c y) (q := c y - c s) (r := c n - c s) (S := b - y) (Y := y - s) (B := n - s) (by omega) (by omega) (by omega) k4 hy3
            have e1 : (c b - c s) * (n - s) = (c b - c y) * (n - s) + (c y - c s) * (n - s) := by grind
            have e2 : (c n - c s) * (b - s) = (c n - c s) * (b - y) + (c n - c s) * (y - s) := by grind
            omega
  intro x r h s hs a b h0 h1 h2 h3
  rcases List.mem_cons.1 hs with rfl | hs
  · omega
  · obtain ⟨n, hn1, hn2, hn3, hn4⟩ := key r x h s hs
    have k1 := hn3 b (by omega) h3
    have k2 := hn4 a h0 h1
    have k3 := lt_chain (p := c b - c s) (q := c n - c s) (r := c s - c a) (S := b - s) (Y := n - s) (B := s - a) (by omega) (by omega) (by omega) k1 k2
    rw [cross_mid]
    omega

/-- Rising to the left: the list as it was built up. -/
theorem Chain.sorted {c : Int → Int} : ∀ {x : Int} {r : List Int}, Chain c (x :: r) → (x :: r).Pairwise (fun a b => b < a)
  | x, [], _ => by simp
  | x, y :: r, h => by
    rw [List.pairwise_cons]
    refine ⟨fun s hs => ?_, Chain.sorted h.tail⟩
    have := Chain.all h.tail s hs
    have := h.lt
    omega

end Go.Proofs.Ytlgikpfjonnhmaa.CP
