/- A curve begins with nothing, rises by each count so many times, and ends with all: said of numbers and lists alone. -/
import Derived.Test.YtlgikpfjonnhmaaQLawCurveGoes
import Derived.Test.YtlgikpfjonnhmaaCurveFns
namespace Go.Proofs.Ytlgikpfjonnhmaa.Pure
open Go.RowKit Go.Proofs.Ytlgikpfjonnhmaa.Q Go.Proofs.YtlgikpfjonnhmaaW.PrintWords Go.Proofs.YtlgikpfjonnhmaaW.PrintLast Go.Proofs.Ytlgikpfjonnhmaa.CP Go.Proofs.Ytlgikpfjonnhmaa.FQ

def Small16 (L : List Int) : Prop := L.length ≤ 300 ∧ ∀ i : Nat, i < L.length → 0 ≤ L.getD i 0 ∧ L.getD i 0 ≤ 65535
theorem pre_small {L : List Int} (h : Small16 L) : ∀ i : Nat, i ≤ L.length → 0 ≤ pre L i ∧ pre L i ≤ 65535 * i
  | 0, _ => by simp [pre]
  | i + 1, hi => by
    have := pre_small h i (by omega)
    have := h.2 i (by omega)
    rw [pre_succ L i (by omega)]
    omega
theorem times_small {t p : Int} (h0 : 0 ≤ t) (h1 : t ≤ 65535) (p0 : 0 ≤ p) (p1 : p ≤ 19660500) : 0 ≤ t * p ∧ t * p ≤ 1288450867500 := by
  refine ⟨Int.mul_nonneg h0 p0, ?_⟩
  have := Int.mul_le_mul h1 p1 p0 (by omega)
  omega

theorem goes_l1 (L : List Int) (t : Int) (h : Small16 L) (t0 : 0 ≤ t) (t1 : t ≤ 65535) : ∀ (d i k : Nat), i + d = L.length → d < k →
    stowagelaw11_CurveGoes.l1 k t L (pre L L.length) (curveTo L t L.length) (i : Int) = some true
  | 0, i, k, hi, hk => by
    obtain ⟨k, rfl⟩ : ∃ m, k = m + 1 := ⟨k - 1, by omega⟩
    obtain rfl : i = L.length := by omega
    have hl := h.1
    have b := pre_small h L.length (Nat.le_refl _)
    have c := times_small t0 t1 b.1 (by omega)
    rw [stowagelaw11_CurveGoes.l1, if_neg (by omega), curveTo_length, w64 (x := ((L.length + 1 : Nat) : Int) + 5) (by omega) (by omega), at_past _ _ (by rw [curveTo_length]; omega) (by rw [curveTo_length]; omega) (by rw [curveTo_length]; omega), curveTo_length, Option.bind_some]
    rw [show (((L.length + 1 : Nat) : Int) - 1) = ((L.length : Nat) : Int) by omega, rd_nat, curveTo_get _ _ _ _ (Nat.le_refl _), w64 (x := t) (by omega) (by omega), Int.mul_comm (pre L L.length) t, w64 (by omega) (by omega)]
    simp
  | d + 1, i, k, hi, hk => by
    obtain ⟨k, rfl⟩ : ∃ m, k = m + 1 := ⟨k - 1, by omega⟩
    have hl := h.1
    have b := pre_small h i (by omega)
    have c := times_small t0 t1 b.1 (by omega)
    have b' := pre_small h (i + 1) (by omega)
    have c' := times_small t0 t1 b'.1 (by omega)
    have hv := h.2 i (by omega)
    have cv := times_small t0 t1 hv.1 (by omega)
    have es := pre_succ L i (by omega)
    have ed : t * pre L (i + 1) = t * pre L i + t * L.getD i 0 := by rw [es, Int.mul_add]
    rw [stowagelaw11_CurveGoes.l1, if_pos (by omega), w64 (x := (i : Int) + 1) (by omega) (by omega), if_pos (by omega), curveTo_length, if_pos (by omega), if_pos (by omega), if_pos (by omega)]
    rw [show ((i : Int) + 1) = ((i + 1 : Nat) : Int) by omega, rd_nat, rd_nat, rd_nat, curveTo_get _ _ _ _ (by omega), curveTo_get _ _ _ _ (by omega)]
    rw [w64 (x := t) (by omega) (by omega), w64 (x := t * L.getD i 0) (by omega) (by omega), w64 (by omega) (by omega), if_pos (by omega)]
    rw [at_in _ _ (by omega) (by rw [curveTo_length]; omega) (by rw [curveTo_length]; omega), Option.bind_some, rd_nat, curveTo_get _ _ _ _ (by omega), if_pos rfl]
    exact goes_l1 L t h t0 t1 d (i + 1) k (by omega) (by omega)

theorem goes_j1 (L : List Int) (t : Int) (h : Small16 L) (t0 : 0 ≤ t) (t1 : t ≤ 65535) (k : Nat) (hk : 1000 ≤ k) : stowagelaw11_CurveGoes.j1 (k + 2) t L (pre L L.length) = some true := by
  have hl := h.1
  have hr : Right L t := ⟨by omega, t0, by omega, fun i hi => by have := h.2 i hi; omega⟩
  rw [show k + 2 = (k + 1) + 1 from rfl, stowagelaw11_CurveGoes.j1, w64 (x := t) (by omega) (by omega), of_f L t hr (k + 1) (by omega), Option.bind_some, awake_at (k + 1) (by omega), Option.bind_some, if_pos rfl, if_pos rfl]
  have e : rd (curveTo L t L.length) 0 = 0 := by
    have := rd_nat (curveTo L t L.length) 0
    rw [curveTo_get _ _ _ _ (by omega)] at this
    simpa [pre] using this
  simp only
  rw [curveTo_length, if_pos (by rw [w64 (by omega) (by omega)]; omega), if_pos (by omega), e, bne_self_eq_false, stowagelaw11_CurveGoes.j2, if_neg (by simp)]
  exact goes_l1 L t h t0 t1 L.length 0 k (by omega) (by omega)

theorem goes_l0 (l : List Int) (t : Int) (hm : l.length ≤ 9223372036854775807) (hw : ∀ i : Nat, i < l.length → 0 ≤ l.getD i 0 ∧ l.getD i 0 ≤ 65535) (t0 : 0 ≤ t) (t1 : t ≤ 65535) : ∀ (d i : Nat), i + d = min l.length 300 →
    stowagelaw11_CurveGoes.l0 (1003 + d) l t (l.take i) (pre l i) (i : Int) = some true
  | 0, i, hi => by
    have hlen : (l.take i).length = i := by rw [List.length_take]; omega
    have hs : Small16 (l.take i) := ⟨by omega, fun j hj => by
      rw [hlen] at hj
      rw [List.getD_eq_getElem?_getD, List.getElem?_take_of_lt hj, ← List.getD_eq_getElem?_getD]
      exact hw j (by omega)⟩
    have hj := goes_j1 (l.take i) t hs t0 t1 1000 (by omega)
    have hp : pre (l.take i) (l.take i).length = pre l i := by unfold pre; rw [List.take_of_length_le (Nat.le_refl _)]
    rw [hp] at hj
    rw [show 1003 + 0 = (1000 + 2) + 1 from rfl, stowagelaw11_CurveGoes.l0]
    by_cases h : (i : Int) < l.length
    · rw [if_pos h, if_neg (by omega)]
      exact hj
    · rw [if_neg h]
      exact hj
  | d + 1, i, hi => by
    have ih := goes_l0 l t hm hw t0 t1 d (i + 1) (by omega)
    have b := hw i (by omega)
    have e : l.take i ++ [l.getD i 0] = l.take (i + 1) := by
      rw [List.take_succ_eq_append_getElem (show i < l.length by omega), List.getD_eq_getElem?_getD, List.getElem?_eq_getElem (show i < l.length by omega)]
      rfl
    have p0 : ∀ j : Nat, j ≤ l.length → 0 ≤ pre l j ∧ pre l j ≤ 65535 * j := by
      intro j
      induction j with
      | zero => intro _; simp [pre]
      | succ j ihj =>
        intro hj
        have := ihj (by omega)
        have := hw j (by omega)
        rw [pre_succ l j (by omega)]
        omega
    have p1 := p0 i (by omega)
    rw [← Nat.add_assoc, stowagelaw11_CurveGoes.l0, if_pos (by omega), if_pos (by omega), if_pos (by omega), if_pos (by rw [List.length_take]; omega), rd_nat, w64 (x := l.getD i 0) (by omega) (by omega), w64 (x := pre l i + l.getD i 0) (by omega) (by omega), w64 (x := (i : Int) + 1) (by omega) (by omega), e, ← pre_succ l i (by omega)]
    exact ih

theorem CurveGoes : stowagelaw11_CurveGoes.Pure := by
  intro l t hm hs hw ht
  have hw' : ∀ i : Nat, i < l.length → 0 ≤ l.getD i 0 ∧ l.getD i 0 ≤ 65535 := by
    intro i hi
    exact wf_u16 (hw (l.getD i 0) (by rw [List.getD_eq_getElem?_getD, List.getElem?_eq_getElem hi]; exact List.getElem_mem hi))
  have b := wf_u16 ht
  exact ⟨_, goes_l0 l t (by unfold maxLen at hm; omega) hw' b.1 b.2 (min l.length 300) 0 (by omega)⟩

end Go.Proofs.Ytlgikpfjonnhmaa.Pure
