/- The corners of the curve of any short histogram: first and last size, gains that fall, nothing above a line between two: said of numbers and lists alone. -/
import Derived.Test.YtlgikpfjonnhmaaQLawCurveCorners
import Derived.Test.YtlgikpfjonnhmaaCurveFns
namespace Go.Proofs.Ytlgikpfjonnhmaa.Pure
open Go.RowKit Go.Proofs.Ytlgikpfjonnhmaa.Q Go.Proofs.YtlgikpfjonnhmaaW.PrintWords Go.Proofs.YtlgikpfjonnhmaaW.PrintLast Go.Proofs.Ytlgikpfjonnhmaa.CP Go.Proofs.Ytlgikpfjonnhmaa.FQ

theorem prod_in {p q A B : Int} (p0 : -A ≤ p) (p1 : p ≤ A) (q0 : 0 ≤ q) (q1 : q ≤ B) (hA : 0 ≤ A) : -(A * B) ≤ p * q ∧ p * q ≤ A * B := by
  have e1 : p * q ≤ A * q := Int.mul_le_mul_of_nonneg_right p1 q0
  have e2 : A * q ≤ A * B := Int.mul_le_mul_of_nonneg_left q1 hA
  have e3 : -A * q ≤ p * q := Int.mul_le_mul_of_nonneg_right p0 q0
  have e4 : -A * q = -(A * q) := by grind
  omega

/-- All values of the curve lie between 0 and this. -/
def Low (c : List Int) : Prop := c.length ≤ 301 ∧ ∀ s : Int, 0 ≤ s → s < c.length → 0 ≤ rd c s ∧ rd c s ≤ 20000000

theorem rd_left (a b : List Int) (i : Nat) (h : i < a.length) : rd (a ++ b) (i : Int) = a.getD i 0 := by
  rw [rd_nat, List.getD_eq_getElem?_getD, List.getElem?_append_left h, ← List.getD_eq_getElem?_getD]

theorem rd_stack (p s : List Int) (i : Nat) (h : i < s.length) : rd (p ++ s).reverse (i : Int) = s.reverse.getD i 0 := by
  rw [List.reverse_append]
  exact rd_left _ _ _ (by simpa using h)

theorem rd_top3 (x y z : Int) (t : List Int) : rd (x :: y :: z :: t).reverse (t.length : Int) = z := by
  rw [rd_nat]; simp

theorem corners_l2 (c : List Int) (hl : Low c) (h : List Int) (i x y : Int) (y0 : 0 ≤ y) (hyx : y < x) (hx : x < c.length) (hseg : Seg (rd c) y x)
    (hnext : ∃ k, stowagelaw11_CurveCorners.l2 k c h i y x (x + 1) = some true) : ∀ (d : Nat) (s : Int), s + d = x + 1 → y ≤ s → ∃ k, stowagelaw11_CurveCorners.l2 k c h i y x s = some true
  | 0, s, hs, h0 => by
    obtain rfl : s = x + 1 := by omega
    exact hnext
  | d + 1, s, hs, h0 => by
    obtain ⟨k, hk⟩ := corners_l2 c hl h i x y y0 hyx hx hseg hnext d (s + 1) (by omega) (by omega)
    refine ⟨k + 1, ?_⟩
    have hl1 := hl.1
    have b1 := hl.2 s (by omega) (by omega)
    have b2 := hl.2 x (by omega) (by omega)
    have b3 := hl.2 y (by omega) (by omega)
    have m1 := prod_in (p := rd c s - rd c y) (q := x - y) (A := 20000000) (B := 301) (by omega) (by omega) (by omega) (by omega) (by omega)
    have m2 := prod_in (p := rd c x - rd c y) (q := s - y) (A := 20000000) (B := 301) (by omega) (by omega) (by omega) (by omega) (by omega)
    have hs := hseg s h0 (by omega)
    unfold cross at hs
    simp only [stowagelaw11_CurveCorners.l2]
    rw [if_pos (by omega), if_pos (by omega), if_pos (by omega), if_pos (by omega), if_pos (by omega), if_pos (by omega), if_pos (by omega)]
    rw [w64 (x := rd c s - rd c y) (by omega) (by omega), w64 (x := x - y) (by omega) (by omega), w64 (x := rd c x - rd c y) (by omega) (by omega), w64 (x := s - y) (by omega) (by omega), w64 (by omega) (by omega), w64 (by omega) (by omega), if_neg (by omega), w64 (by omega) (by omega)]
    exact hk

theorem corners_l1 (c : List Int) (hl : Low c) (top : Int) (t : List Int) (htop : top < c.length) : ∀ (p s : List Int), top :: t = p ++ s → s ≠ [] → Chain (rd c) (top :: t) → (top :: t).length ≤ 4096 →
    ∃ k, stowagelaw11_CurveCorners.l1 k c (top :: t).reverse (s.length : Int) = some true := by
  intro p
  induction hp : p.length generalizing p with
  | zero =>
    intro s hs hn hc hm
    obtain rfl : p = [] := List.eq_nil_of_length_eq_zero hp
    rw [List.nil_append] at hs
    refine ⟨1, ?_⟩
    simp only [stowagelaw11_CurveCorners.l1]
    rw [hs, if_neg (by rw [List.length_reverse]; omega)]
  | succ n ih =>
    intro s hs hn hc hm
    obtain ⟨p', x, rfl⟩ : ∃ p' x, p = p' ++ [x] := ⟨p.dropLast, p.getLast (by intro e; subst e; simp at hp), (List.dropLast_concat_getLast _).symm⟩
    have hp' : p'.length = n := by simpa using hp
    rw [List.append_assoc, List.singleton_append] at hs
    obtain ⟨k1, h1⟩ := ih p' hp' (x :: s) hs (by simp) hc hm
    -- the chain from x on
    have suffix : ∀ (q u : List Int), Chain (rd c) (q ++ u) → u ≠ [] → Chain (rd c) u := by
      intro q
      induction q with
      | nil => intro u h _; exact h
      | cons a q ih2 =>
        intro u h hu
        apply ih2 u _ hu
        cases hq : q ++ u with
        | nil => exact trivial
        | cons b v => rw [List.cons_append, hq] at h; exact h.tail
    have hch : Chain (rd c) (x :: s) := suffix p' (x :: s) (hs ▸ hc) (by simp)
    have hall := Chain.all hc x (by rw [hs]; simp)
    cases s with
    | nil => exact absurd rfl hn
    | cons y s =>
      have hlen : (top :: t).length = p'.length + (s.length + 2) := by rw [hs]; simp
      have hs4 : s.length ≤ 4094 := by omega
      have hyx := hch.lt
      have hy0 := hch.tail.nonneg
      have rx : rd (top :: t).reverse ((y :: s).length : Int) = x := by
        rw [hs, rd_stack p' (x :: y :: s) (y :: s).length (by simp), ← rd_nat]
        exact rd_top x (y :: s)
      have ry : rd (top :: t).reverse (((y :: s).length : Int) - 1) = y := by
        rw [hs, show (((y :: s).length : Int) - 1) = ((s.length : Nat) : Int) by simp, rd_stack p' (x :: y :: s) s.length (by simp; omega), ← rd_nat]
        exact rd_top2 x y s
      have hl1 := hl.1
      have b1 := hl.2 x (by omega) (by omega)
      have b2 := hl.2 y (by omega) (by omega)
      -- behind the points between y and x
      have hnext : ∃ k, stowagelaw11_CurveCorners.l2 k c (top :: t).reverse ((y :: s).length : Int) y x (x + 1) = some true := by
        refine ⟨k1 + 1, ?_⟩
        simp only [stowagelaw11_CurveCorners.l2]
        rw [if_neg (by omega)]
        have e1 : wrap64 (((y :: s).length : Int) + 1) = ((x :: y :: s).length : Int) := by simp only [List.length_cons] at hs4 ⊢; rw [w64 (by omega) (by omega)]; omega
        rw [e1]
        cases s with
        | nil =>
          rw [if_neg (by simp)]
          exact h1
        | cons z s =>
          have hzy := hch.tail.lt
          have hz0 := hch.tail.tail.nonneg
          have hcr : 0 < cross (rd c) z y x := hch.2.2.1
          rw [cross_mid] at hcr
          have b3 := hl.2 z (by omega) (by omega)
          have rz : rd (top :: t).reverse (wrap64 (((y :: z :: s).length : Int) - 2)) = z := by
            rw [show wrap64 (((y :: z :: s).length : Int) - 2) = ((s.length : Nat) : Int) by simp only [List.length_cons] at hs4 ⊢; rw [w64 (by omega) (by omega)]; omega]
            rw [hs, rd_stack p' (x :: y :: z :: s) s.length (by simp; omega), ← rd_nat]
            exact rd_top3 x y z s
          have m1 := prod_in (p := rd c y - rd c z) (q := x - y) (A := 20000000) (B := 301) (by omega) (by omega) (by omega) (by omega) (by omega)
          have m2 := prod_in (p := rd c x - rd c y) (q := y - z) (A := 20000000) (B := 301) (by omega) (by omega) (by omega) (by omega) (by omega)
          have e2 : wrap64 (((y :: z :: s).length : Int) - 2) = (s.length : Int) := by simp only [List.length_cons] at hs4 ⊢; rw [w64 (by omega) (by omega)]; omega
          rw [if_pos (by simp; omega), if_pos (by omega), if_pos (by omega), rz, e2, if_pos (by omega), if_pos (by rw [List.length_reverse, hlen]; simp; omega), if_pos (by omega), if_pos (by omega), if_pos (by omega), if_pos (by omega)]
          rw [w64 (x := rd c y - rd c z) (by omega) (by omega), w64 (x := x - y) (by omega) (by omega), w64 (x := rd c x - rd c y) (by omega) (by omega), w64 (x := y - z) (by omega) (by omega), w64 (by omega) (by omega), w64 (by omega) (by omega), if_neg (by omega)]
          exact h1
      obtain ⟨k2, h2⟩ := corners_l2 c hl (top :: t).reverse ((y :: s).length : Int) x y hy0 hyx (by omega) hch.seg hnext (x + 1 - y).toNat y (by omega) (Int.le_refl _)
      refine ⟨k2 + 1, ?_⟩
      simp only [stowagelaw11_CurveCorners.l1]
      have e1 : wrap64 (((y :: s).length : Int) - 1) = ((y :: s).length : Int) - 1 := by simp only [List.length_cons] at hs4 ⊢; rw [w64 (by omega) (by omega)]
      rw [e1, if_pos (by rw [List.length_reverse, hlen]; simp; omega), if_pos (by simp only [List.length_cons]; omega), if_pos (by rw [List.length_reverse, hlen]; simp; omega), if_pos (by omega), rx, ry, if_neg (by omega)]
      exact h2

theorem last_zero {c : Int → Int} : ∀ (x : Int) (t : List Int), Chain c (x :: t) → (x :: t).reverse.getD 0 0 = 0
  | x, [], h => by have : x = 0 := h; simp [this]
  | x, y :: t, h => by
    have ih := last_zero y t h.tail
    rw [List.reverse_cons, List.getD_eq_getElem?_getD, List.getElem?_append_left (by simp), ← List.getD_eq_getElem?_getD]
    exact ih

theorem chain_length {c : Int → Int} : ∀ (x : Int) (t : List Int), Chain c (x :: t) → (t.length : Int) ≤ x
  | x, [], h => by have : x = 0 := h; simp [this]
  | x, y :: t, h => by
    have := chain_length y t h.tail
    have := h.lt
    simp only [List.length_cons]
    omega

/-- Behind the copy of the counts. -/
theorem corners_j1 (L : List Int) (hL : L.length ≤ 300) (hv : ∀ i : Nat, i < L.length → 0 ≤ L.getD i 0 ∧ L.getD i 0 ≤ 65535) : ∃ k, stowagelaw11_CurveCorners.j1 k L = some true := by
  have hr : Right L 1 := ⟨by omega, by omega, by omega, fun i hi => by have := hv i hi; omega⟩
  have hsd := curve_sound L 1 hr
  have hcl : (curveTo L 1 L.length).length = L.length + 1 := curveTo_length _ _ _
  have hpre : ∀ i : Nat, i ≤ L.length → 0 ≤ pre L i ∧ pre L i ≤ 65535 * i := by
    intro i
    induction i with
    | zero => intro _; simp [pre]
    | succ i ih =>
      intro h
      have := ih (by omega)
      have := hv i (by omega)
      rw [pre_succ L i (by omega)]
      omega
  have hlow : Low (curveTo L 1 L.length) := by
    refine ⟨by omega, fun s h0 h1 => ?_⟩
    obtain ⟨i, rfl⟩ := Int.eq_ofNat_of_zero_le h0
    rw [rd_nat, curveTo_get _ _ _ _ (by omega)]
    have := hpre i (by omega)
    omega
  obtain ⟨t, hch, hf⟩ := hull_f (curveTo L 1 L.length) hsd
  generalize hc : curveTo L 1 L.length = c at *
  have htop : ((c.length : Int) - 1) = (L.length : Int) := by omega
  have hlen := chain_length _ _ hch
  rw [htop] at hch hf hlen
  -- the loop over the corners, from the second one on
  obtain ⟨k1, h1⟩ : ∃ k, stowagelaw11_CurveCorners.l1 k c ((L.length : Int) :: t).reverse 1 = some true := by
    have hd := (List.dropLast_concat_getLast (l := (L.length : Int) :: t) (by simp)).symm
    have := corners_l1 c hlow _ t (by omega) _ _ hd (by simp) hch (by simp only [List.length_cons]; omega)
    simpa using this
  have hk : ∃ k, 5000 ≤ k ∧ stowagelaw11_CurveCorners.j2 k c ((L.length : Int) :: t).reverse false = some true :=
    ⟨max 5000 (k1 + 1), Nat.le_max_left _ _, at_rounds (g := fun k => stowagelaw11_CurveCorners.j2 k c ((L.length : Int) :: t).reverse false) (fun k => (stowagelaw11_CurveCorners.mono_l k).2.1 _ _ _) (Nat.le_max_right _ _) (by simp only [stowagelaw11_CurveCorners.j2]; rw [if_neg (by simp)]; exact h1)⟩
  obtain ⟨k, hk1, hk2⟩ := hk
  refine ⟨k + 1, ?_⟩
  simp only [stowagelaw11_CurveCorners.j1]
  rw [of_f L 1 hr k (by omega), hc]
  simp only [Option.bind_some]
  rw [hf k (by omega)]
  simp only [Option.bind_some]
  rw [awake_at k (by omega)]
  simp only [Option.bind_some, if_true]
  have e1 : wrap64 ((((L.length : Int) :: t).reverse.length : Int) - 1) = (t.length : Int) := by simp only [List.length_reverse, List.length_cons]; rw [w64 (by omega) (by omega)]; omega
  have e2 : rd ((L.length : Int) :: t).reverse 0 = 0 := last_zero _ _ hch
  rw [if_neg (by simp only [List.length_reverse, List.length_cons]; omega), if_pos (by simp only [List.length_reverse, List.length_cons]; omega), if_pos e2, e1, if_pos (by omega), if_pos (by simp only [List.length_reverse, List.length_cons]; omega), rd_top]
  rw [bne_self_eq_false]
  exact hk2

theorem corners_l0 (l : List Int) (hm : l.length ≤ 9223372036854775807) (hw : ∀ i : Nat, i < l.length → 0 ≤ l.getD i 0 ∧ l.getD i 0 ≤ 65535) : ∀ (d i : Nat), i + d = min l.length 300 →
    ∃ k, stowagelaw11_CurveCorners.l0 k l (l.take i) (i : Int) = some true
  | 0, i, hi => by
    have hlen : (l.take i).length = i := by rw [List.length_take]; omega
    obtain ⟨k, hk⟩ := corners_j1 (l.take i) (by omega) (fun j hj => by
      rw [hlen] at hj
      rw [List.getD_eq_getElem?_getD, List.getElem?_take_of_lt hj, ← List.getD_eq_getElem?_getD]
      exact hw j (by omega))
    refine ⟨k + 1, ?_⟩
    simp only [stowagelaw11_CurveCorners.l0]
    by_cases h : (i : Int) < l.length
    · rw [if_pos h, if_neg (by omega)]
      exact hk
    · rw [if_neg h]
      exact hk
  | d + 1, i, hi => by
    obtain ⟨k, hk⟩ := corners_l0 l hm hw d (i + 1) (by omega)
    refine ⟨k + 1, ?_⟩
    simp only [stowagelaw11_CurveCorners.l0]
    have b := hw i (by omega)
    have e : l.take i ++ [l.getD i 0] = l.take (i + 1) := by
      rw [List.take_succ_eq_append_getElem (show i < l.length by omega), List.getD_eq_getElem?_getD, List.getElem?_eq_getElem (show i < l.length by omega)]
      rfl
    rw [if_pos (by omega), if_pos (by omega), if_pos (by omega), if_pos (by rw [List.length_take]; omega), rd_nat, w64 (x := l.getD i 0) (by omega) (by omega), w64 (x := (i : Int) + 1) (by omega) (by omega), e]
    exact_mod_cast hk

theorem CurveCorners : stowagelaw11_CurveCorners.Pure := by
  intro l hm hs hw
  have hw' : ∀ i : Nat, i < l.length → 0 ≤ l.getD i 0 ∧ l.getD i 0 ≤ 65535 := by
    intro i hi
    have h := hw (l.getD i 0) (by rw [List.getD_eq_getElem?_getD, List.getElem?_eq_getElem hi]; exact List.getElem_mem hi)
    exact wf_u16 h
  obtain ⟨k, hk⟩ := corners_l0 l (by unfold maxLen at hm; omega) hw' (min l.length 300) 0 (by omega)
  exact ⟨k, hk⟩

end Go.Proofs.Ytlgikpfjonnhmaa.Pure
