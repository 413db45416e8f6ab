/- Where gains fall each size is a corner; where all are one, the ends alone: said of numbers and lists alone. -/
import Derived.Test.YtlgikpfjonnhmaaQLawCurveSteep
import Derived.Test.YtlgikpfjonnhmaaCurveFns
namespace Go.Proofs.Ytlgikpfjonnhmaa.Pure
open Go.RowKit Go.Proofs.Ytlgikpfjonnhmaa.Q Go.Proofs.YtlgikpfjonnhmaaW.PrintWords Go.Proofs.YtlgikpfjonnhmaaW.PrintLast Go.Proofs.Ytlgikpfjonnhmaa.CP Go.Proofs.Ytlgikpfjonnhmaa.FQ

/-- Sums of falling gains: i times 1000, less three times the sum of the numbers below i. -/
def tri : Nat → Int
  | 0 => 0
  | n + 1 => tri n + n
def fall (i : Nat) : Int := 1000 * i - 3 * tri i
theorem tri_bound : ∀ n : Nat, n ≤ 101 → 0 ≤ tri n ∧ tri n ≤ 101 * n
  | 0, _ => by simp [tri]
  | n + 1, h => by
    have := tri_bound n (by omega)
    simp only [tri]
    omega
theorem fall_succ (i : Nat) : fall (i + 1) = fall i + 1000 - 3 * i := by unfold fall; simp only [tri]; omega
def falling (i : Nat) : List Int := (List.range (i + 1)).map fall
def evens (g : Int) (i : Nat) : List Int := (List.range (i + 1)).map fun (j : Nat) => g * (j : Int)
theorem falling_length (i : Nat) : (falling i).length = i + 1 := by simp [falling]
theorem evens_length (g : Int) (i : Nat) : (evens g i).length = i + 1 := by simp [evens]
theorem falling_get (i j : Nat) (h : j ≤ i) : (falling i).getD j 0 = fall j := by
  unfold falling
  rw [List.getD_eq_getElem?_getD, List.getElem?_map, List.getElem?_range (by omega)]
  rfl
theorem evens_get (g : Int) (i j : Nat) (h : j ≤ i) : (evens g i).getD j 0 = g * j := by
  unfold evens
  rw [List.getD_eq_getElem?_getD, List.getElem?_map, List.getElem?_range (by omega)]
  rfl
theorem falling_succ (i : Nat) : falling (i + 1) = falling i ++ [fall (i + 1)] := by
  unfold falling; rw [List.range_succ (n := i + 1), List.map_append]; rfl
theorem evens_succ (g : Int) (i : Nat) : evens g (i + 1) = evens g i ++ [g * ((i + 1 : Nat) : Int)] := by
  unfold evens; rw [List.range_succ (n := i + 1), List.map_append]; rfl
theorem fall_bound (i : Nat) (h : i ≤ 101) : 0 ≤ fall i ∧ fall i ≤ 101000 := by
  have := tri_bound i h
  unfold fall; omega
theorem even_bound {g : Int} (g0 : 0 ≤ g) (g1 : g ≤ 65535) (i : Nat) (h : i ≤ 101) : 0 ≤ g * i ∧ g * i ≤ 6619035 := by
  have h1 := Int.mul_nonneg g0 (Int.natCast_nonneg i)
  have h2 := Int.mul_le_mul g1 (show (i : Int) ≤ 101 by omega) (Int.natCast_nonneg i) (by omega)
  omega

/-- Where each point lies strictly above the line of its neighbours, the stack holds every size. -/
theorem full {c : Int → Int} : ∀ (t : List Int) (x : Int), Chain c (x :: t) → (∀ y z : Int, 0 ≤ y → y + 1 < z → z ≤ x → 0 < cross c y (y + 1) z) → ∀ i : Nat, (i : Int) ≤ x → (x :: t).reverse.getD i 0 = i ∧ (t.length : Int) = x
  | [], x, h, hc, i, hi => by
    have : x = 0 := h
    subst this
    obtain rfl : i = 0 := by omega
    simp
  | y :: t, x, h, hc, i, hi => by
    have hl := h.lt
    have hy := h.tail.nonneg
    have ex : x = y + 1 := by
      rcases Int.lt_or_le (y + 1) x with h1 | h1
      · have a := h.seg (y + 1) (by omega) (by omega)
        have b := hc y x hy h1 (Int.le_refl _)
        omega
      · omega
    have hlen := (full t y h.tail (fun a b h1 h2 h3 => hc a b h1 h2 (by omega)) y.toNat (by omega)).2
    refine ⟨?_, by simp only [List.length_cons]; omega⟩
    rw [List.reverse_cons, List.getD_eq_getElem?_getD]
    rcases Int.lt_or_le y (i : Int) with h1 | h1
    · have ei : i = (y :: t).reverse.length := by simp; omega
      rw [ei, List.getElem?_append_right (Nat.le_refl _)]
      simp
      omega
    · rw [List.getElem?_append_left (by simp; omega), ← List.getD_eq_getElem?_getD]
      exact (full t y h.tail (fun a b h1 h2 h3 => hc a b h1 h2 (by omega)) i h1).1

theorem falling_sound (i : Nat) (h : i ≤ 101) : SoundP (falling i) := by
  refine ⟨by rw [falling_length]; omega, by rw [falling_length]; omega, fun j hj => ?_, fun j hj => ?_⟩
  · rw [falling_length] at hj
    rw [falling_get _ _ (by omega)]
    have := fall_bound j (by omega)
    omega
  · rw [falling_length] at hj
    rw [falling_get _ _ (by omega), falling_get _ _ (by omega), fall_succ]
    omega
theorem evens_sound (g : Int) (g0 : 0 ≤ g) (g1 : g ≤ 65535) (i : Nat) (h : i ≤ 101) : SoundP (evens g i) := by
  refine ⟨by rw [evens_length]; omega, by rw [evens_length]; omega, fun j hj => ?_, fun j hj => ?_⟩
  · rw [evens_length] at hj
    rw [evens_get _ _ _ (by omega)]
    have := even_bound g0 g1 j (by omega)
    omega
  · rw [evens_length] at hj
    rw [evens_get _ _ _ (by omega), evens_get _ _ _ (by omega)]
    exact Int.mul_le_mul_of_nonneg_left (by omega) g0

/-- The line from y to z lies below y + 1: the gains behind y + 1 are less. -/
theorem fall_line (i : Nat) : ∀ (d y : Nat), y + 1 + d ≤ i → (fall (y + 1) - fall y) * ((d : Int)) - (fall (y + 1 + d) - fall (y + 1)) = 3 * (tri (y + 1 + d) - tri (y + 1)) - 3 * y * d := by
  intro d y _
  unfold fall
  have : tri (y + 1) = tri y + y := rfl
  rw [this]
  simp only [Int.natCast_add, Int.natCast_one]
  grind
theorem tri_up (y : Nat) : ∀ d : Nat, 1 ≤ d → (y : Int) * d < tri (y + 1 + d) - tri (y + 1)
  | 0, h => by omega
  | 1, _ => by
    have : tri (y + 1 + 1) = tri (y + 1) + (y + 1 : Nat) := rfl
    rw [this]; simp; omega
  | d + 2, _ => by
    have ih := tri_up y (d + 1) (by omega)
    have : tri (y + 1 + (d + 2)) = tri (y + 1 + (d + 1)) + ((y + 1 + (d + 1) : Nat) : Int) := rfl
    rw [this]
    have e : (y : Int) * ((d + 2 : Nat) : Int) = (y : Int) * ((d + 1 : Nat) : Int) + y := by
      rw [show ((d + 2 : Nat) : Int) = ((d + 1 : Nat) : Int) + 1 by omega, Int.mul_add]; simp
    omega
theorem fall_cross (i : Nat) (y z : Int) (h0 : 0 ≤ y) (h1 : y + 1 < z) (h2 : z ≤ i) : 0 < cross (rd (falling i)) y (y + 1) z := by
  obtain ⟨a, rfl⟩ := Int.eq_ofNat_of_zero_le h0
  obtain ⟨d, hd⟩ := Int.eq_ofNat_of_zero_le (show 0 ≤ z - (a + 1) by omega)
  obtain rfl : z = ((a + 1 + d : Nat) : Int) := by omega
  rw [cross_mid]
  rw [show ((a : Int) + 1) = ((a + 1 : Nat) : Int) by omega, rd_nat, rd_nat, rd_nat, falling_get _ _ (by omega), falling_get _ _ (by omega), falling_get _ _ (by omega)]
  have h3 := fall_line i d a (by omega)
  have h4 := tri_up a d (by omega)
  rw [show (((a + 1 + d : Nat) : Int) - ((a + 1 : Nat) : Int)) = (d : Int) by omega, show (((a + 1 : Nat) : Int) - (a : Int)) = 1 by omega, Int.mul_one]
  have e : 3 * (a : Int) * d = 3 * ((a : Int) * d) := by grind
  omega

theorem flat {g : Int} (i : Nat) (hi : 1 ≤ i) (t : List Int) (h : Chain (rd (evens g i)) ((i : Int) :: t)) : ((i : Int) :: t).reverse = [0, (i : Int)] := by
  cases t with
  | nil => have : (i : Int) = 0 := h; omega
  | cons y t =>
    cases t with
    | nil => have : y = 0 := h.2.2; simp [this]
    | cons z t =>
      exfalso
      have h1 : 0 < cross (rd (evens g i)) z y i := h.2.2.1
      have h2 := h.lt
      have h3 := h.tail.lt
      have h4 := h.tail.tail.nonneg
      obtain ⟨a, rfl⟩ := Int.eq_ofNat_of_zero_le h4
      obtain ⟨b, rfl⟩ := Int.eq_ofNat_of_zero_le (show 0 ≤ y by omega)
      unfold cross at h1
      rw [rd_nat, rd_nat, rd_nat, evens_get _ _ _ (by omega), evens_get _ _ _ (by omega), evens_get _ _ _ (by omega)] at h1
      grind

theorem steep_l1 (k : Nat) (hk : k ≤ 101) (xs : List Int) (hx : xs.length = k + 1) (hv : ∀ i : Nat, i ≤ k → xs.getD i 0 = i) : ∀ (d i n : Nat), i + d = k + 1 → d < n → stowagelaw11_CurveSteep.l1 n (k : Int) xs (i : Int) = some true
  | 0, i, n, hi, hn => by
    obtain ⟨n, rfl⟩ : ∃ m, n = m + 1 := ⟨n - 1, by omega⟩
    simp only [stowagelaw11_CurveSteep.l1]
    rw [if_neg (by omega)]
  | d + 1, i, n, hi, hn => by
    obtain ⟨n, rfl⟩ : ∃ m, n = m + 1 := ⟨n - 1, by omega⟩
    simp only [stowagelaw11_CurveSteep.l1]
    rw [if_pos (by omega), if_pos (by omega), if_pos (by omega), rd_nat, if_pos (hv i (by omega)), w64 (by omega) (by omega)]
    have := steep_l1 k hk xs hx hv d (i + 1) n (by omega) (by omega)
    exact_mod_cast this

theorem same_two (a b : Int) (n : Nat) (hn : 5 ≤ n) : stowageref01_SameInts.f n [a, b] [a, b] = some true := by
  obtain ⟨n, rfl⟩ : ∃ m, n = m + 5 := ⟨n - 5, by omega⟩
  unfold stowageref01_SameInts.f
  rw [if_pos rfl]
  simp [stowageref01_SameInts.l0, rd, wrap64]

theorem steep_end (g : Int) (g0 : 0 ≤ g) (g1 : g ≤ 65535) (k : Nat) (h1 : 1 ≤ k) (h2 : k ≤ 101) (n : Nat) (hn : 1000 ≤ n) : stowagelaw11_CurveSteep.l0 (n + 2) g (k : Int) (falling k) (evens g k) (k : Int) = some true := by
  obtain ⟨t1, c1, f1⟩ := hull_f (falling k) (falling_sound k h2)
  obtain ⟨t2, c2, f2⟩ := hull_f (evens g k) (evens_sound g g0 g1 k h2)
  rw [falling_length] at c1 f1
  rw [evens_length] at c2 f2
  have e : ((k + 1 : Nat) : Int) - 1 = (k : Int) := by omega
  rw [e] at c1 f1 c2 f2
  have hfull := full t1 (k : Int) c1 (fun y z h3 h4 h5 => fall_cross k y z h3 h4 h5)
  have hlen := (hfull 0 (by omega)).2
  rw [show n + 2 = (n + 1) + 1 from rfl, stowagelaw11_CurveSteep.l0, if_neg (by omega), f1 (n + 1) (by omega)]
  simp only [Option.bind_some]
  rw [f2 (n + 1) (by omega)]
  simp only [Option.bind_some]
  rw [awake_at (n + 1) (by omega), Option.bind_some, if_pos rfl, if_pos trivial, if_pos trivial, if_pos (by simp only [List.length_reverse, List.length_cons]; rw [w64 (by omega) (by omega)]; omega), flat k h1 t2 c2, same_two _ _ _ (by omega)]
  rw [Option.bind_some, Bool.not_true, stowagelaw11_CurveSteep.j1, if_neg (by simp)]
  exact steep_l1 k h2 ((k : Int) :: t1).reverse (by simp only [List.length_reverse, List.length_cons]; omega) (fun i hi => (hfull i (by omega)).1) (k + 1) 0 n (by omega) (by omega)

theorem steep_l0 (g : Int) (g0 : 0 ≤ g) (g1 : g ≤ 65535) (k : Nat) (h1 : 1 ≤ k) (h2 : k ≤ 101) : ∀ (d i : Nat), i + d = k → stowagelaw11_CurveSteep.l0 (1002 + d) g (k : Int) (falling i) (evens g i) (i : Int) = some true
  | 0, i, hi => by
    obtain rfl : i = k := by omega
    exact steep_end g g0 g1 i h1 h2 1000 (by omega)
  | d + 1, i, hi => by
    have ih := steep_l0 g g0 g1 k h1 h2 d (i + 1) (by omega)
    have b1 := fall_bound i (by omega)
    have b2 := fall_bound (i + 1) (by omega)
    have b3 := even_bound g0 g1 i (by omega)
    have b4 := even_bound g0 g1 (i + 1) (by omega)
    have e1 := fall_succ i
    have e2 : g * (i : Int) + g = g * ((i + 1 : Nat) : Int) := by rw [show ((i + 1 : Nat) : Int) = (i : Int) + 1 by omega, Int.mul_add]; simp
    rw [← Nat.add_assoc]
    simp only [stowagelaw11_CurveSteep.l0]
    rw [if_pos (by omega), if_pos (by omega), if_pos (by rw [falling_length]; omega), if_pos (by rw [falling_length]; omega), if_pos (by rw [evens_length]; omega), if_pos (by rw [evens_length]; omega)]
    rw [rd_nat, rd_nat, falling_get _ _ (Nat.le_refl _), evens_get _ _ _ (Nat.le_refl _)]
    rw [w64 (x := fall i + 1000) (by omega) (by omega), w64 (x := 3 * (i : Int)) (by omega) (by omega), w64 (x := fall i + 1000 - 3 * (i : Int)) (by omega) (by omega), w64 (x := g) (by omega) (by omega), w64 (x := g * (i : Int) + g) (by omega) (by omega), w64 (x := (i : Int) + 1) (by omega) (by omega)]
    rw [← fall_succ, e2, ← falling_succ, ← evens_succ]
    exact_mod_cast ih

theorem CurveSteep : stowagelaw11_CurveSteep.Pure := by
  intro n g hn hg
  have a := wf_u8 hn
  have b := wf_u16 hg
  have e : Int.tmod n 100 = n % 100 := Int.tmod_eq_emod_of_nonneg a.1
  have hk : wrap64 (wrap64 (Int.tmod n 100) + 2) = (((n % 100).toNat + 2 : Nat) : Int) := by
    rw [e, w64 (x := n % 100) (by omega) (by omega), w64 (by omega) (by omega)]
    omega
  refine ⟨1002 + ((n % 100).toNat + 2), ?_⟩
  unfold stowagelaw11_CurveSteep.f
  rw [hk]
  have h0 : falling 0 = [0] := by simp [falling, fall, tri]
  have h1 : evens g 0 = [0] := by simp [evens]
  have := steep_l0 g b.1 b.2 ((n % 100).toNat + 2) (by omega) (by omega) ((n % 100).toNat + 2) 0 (by omega)
  rw [h0, h1] at this
  exact_mod_cast this

end Go.Proofs.Ytlgikpfjonnhmaa.Pure
