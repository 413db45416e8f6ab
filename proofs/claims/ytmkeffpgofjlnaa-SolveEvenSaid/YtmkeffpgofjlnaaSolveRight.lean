/- What the printed curve.Sound and solve.right come to, in numbers and lists alone. -/
import Derived.Test.YtmkeffpgofjlnaaQsolveright
import Derived.Test.YtmkeffpgofjlnaaSolveDefs
namespace Go.Proofs.Ytmkeffpgofjlnaa.SR
open Go.RowKit Go.Proofs.Ytmkeffpgofjlnaa.Q Go.Proofs.Ytmkeffpgofjlnaa.SD Go.Proofs.YtmkeffpgofjlnaaW.PrintWords Go.Proofs.YtmkeffpgofjlnaaW.PrintLast Go.Proofs.YtmkeffpgofjlnaaW.PrintMore

theorem rd_nat (l : List Int) (i : Nat) : rd l (i : Int) = l.getD i 0 := by simp [rd]
theorem rdL_nat (l : List (List Int)) (i : Nat) : rd_L1 l (i : Int) = l.getD i [] := by simp [rd_L1]
theorem w64 {x : Int} (h0 : -9223372036854775808 ≤ x) (h1 : x ≤ 9223372036854775807) : wrap64 x = x := by unfold wrap64; omega
theorem getD_at {α : Type} (l : List α) (i : Nat) (h : i < l.length) (d : α) : l.getD i d = l[i] := by
  rw [List.getD_eq_getElem?_getD, List.getElem?_eq_getElem h]; rfl
theorem getD_mem {α : Type} (l : List α) (i : Nat) (h : i < l.length) (d : α) : l.getD i d ∈ l := by
  rw [getD_at l i h]; exact List.getElem_mem _
theorem drop_at {α : Type} (l : List α) (i : Nat) (h : i < l.length) (d : α) : l.drop i = l.getD i d :: l.drop (i + 1) := by
  rw [List.drop_eq_getElem_cons h, getD_at l i h]

theorem sound_loop (l : List Int) (hm : l.length ≤ 9223372036854775807) : ∀ (d i : Nat) (x3 : Int), i + d = l.length →
    Ev (fun k => curve_Sound.l0 k l x3 l (l.length : Int) (i : Int)) (soundFrom x3 (l.drop i) && (decide (1 ≤ l.length) && decide (l.length ≤ 4096)))
  | 0, i, x3, hi => by
    refine Ev.step (f := fun _ => some _) (fun k => ?_) (Ev.now _)
    simp only [curve_Sound.l0]
    rw [if_neg (by omega), List.drop_of_length_le (by omega)]
    simp only [soundFrom, Bool.true_and]
    by_cases h : (l.length : Int) ≥ 1
    · rw [if_pos h, decide_eq_true (show 1 ≤ l.length by omega), Bool.true_and]
      congr 1
      exact decide_eq_decide.2 (by omega)
    · rw [if_neg h, decide_eq_false (show ¬ 1 ≤ l.length by omega), Bool.false_and]
  | d + 1, i, x3, hi => by
    rw [drop_at l i (by omega) 0]
    simp only [soundFrom]
    have hs : ∀ k, curve_Sound.l0 (k + 1) l x3 l (l.length : Int) (i : Int) = if l.getD i 0 < x3 then some false else if l.getD i 0 > 4503599627370496 then some false else curve_Sound.l0 k l (l.getD i 0) l (l.length : Int) ((i + 1 : Nat) : Int) := by
      intro k
      simp only [curve_Sound.l0]
      rw [if_pos (by omega), if_pos (by omega), if_pos (by omega), rd_nat, w64 (by omega) (by omega)]
      rfl
    by_cases h1 : l.getD i 0 < x3
    · refine Ev.step (f := fun _ => some _) (fun k => ?_) (Ev.now _)
      rw [hs k, if_pos h1, decide_eq_false (by omega), Bool.false_and, Bool.false_and]
    · rw [decide_eq_true (show x3 ≤ l.getD i 0 by omega), Bool.true_and]
      by_cases h2 : l.getD i 0 > 4503599627370496
      · refine Ev.step (f := fun _ => some _) (fun k => ?_) (Ev.now _)
        rw [hs k, if_neg h1, if_pos h2, decide_eq_false (by omega), Bool.false_and, Bool.false_and]
      · rw [decide_eq_true (show l.getD i 0 ≤ 4503599627370496 by omega), Bool.true_and]
        refine Ev.step (fun k => ?_) (sound_loop l hm d (i + 1) (l.getD i 0) (by omega))
        rw [hs k, if_neg h1, if_neg h2]
theorem sound_ev (l : List Int) (hm : l.length ≤ 9223372036854775807) : Ev (fun k => curve_Sound.f k l) (soundB l) := sound_loop l hm l.length 0 0 (by omega)

/-- The curves, behind the least ones. -/
def rightC (left : Int) (cs : List (List Int)) : Int × Int := if cs.any (fun c => !soundB c) then (0, 2) else if left < 0 then (0, 6) else (left, 0)
theorem right_l1 (x6 : Int) (cs : List (List Int)) (hm : cs.length ≤ 9223372036854775807) (hc : ∀ c ∈ cs, c.length ≤ 9223372036854775807) : ∀ (d i : Nat), i + d = cs.length →
    Ev (fun k => solve_right.l1 k x6 cs (cs.length : Int) (i : Int)) (rightC x6 (cs.drop i))
  | 0, i, hi => by
    refine Ev.step (f := fun _ => some _) (fun k => ?_) (Ev.now _)
    simp only [solve_right.l1]
    rw [if_neg (by omega), List.drop_of_length_le (by omega)]
    unfold rightC
    simp only [List.any_nil, Bool.false_eq_true, if_false]
    split <;> rfl
  | d + 1, i, hi => by
    have hlt : i < cs.length := by omega
    have hs : ∀ k, solve_right.l1 (k + 1) x6 cs (cs.length : Int) (i : Int) = (curve_Sound.f k (cs.getD i [])).bind fun t => if t = true then solve_right.l1 k x6 cs (cs.length : Int) ((i + 1 : Nat) : Int) else some (0, 2) := by
      intro k
      simp only [solve_right.l1]
      rw [if_pos (by omega), if_pos (by omega), if_pos (by omega), rdL_nat, w64 (by omega) (by omega)]
      rfl
    refine Ev.step hs (Ev.bind (sound_ev _ (hc _ (getD_mem cs i hlt []))) ?_)
    rw [drop_at cs i hlt []]
    unfold rightC
    by_cases h : soundB (cs.getD i []) = true
    · simp only [h, if_true, List.any_cons, Bool.not_true, Bool.false_or]
      exact right_l1 x6 cs hm hc d (i + 1) (by omega)
    · simp only [Bool.not_eq_true] at h
      simp only [h, List.any_cons, Bool.not_false, Bool.true_or, if_true, Bool.false_eq_true, if_false]
      exact Ev.now _

theorem right_l0 (x0 : Int) (ls : List Int) (cs : List (List Int)) (h0 : 0 ≤ x0) (h1 : x0 ≤ 512) (hl : ls.length ≤ 16) (hm : cs.length ≤ 9223372036854775807) (hc : ∀ c ∈ cs, c.length ≤ 9223372036854775807) : ∀ (d i : Nat) (x6 : Int), i + d = ls.length → -(512 * (i : Int)) ≤ x6 → x6 ≤ 512 →
    Ev (fun k => solve_right.l0 k x0 cs x6 ls (ls.length : Int) (i : Int)) (if (ls.drop i).any (fun n => decide (n < 0) || decide (n > x0)) then (0, 1) else rightC (x6 - (ls.drop i).sum) cs)
  | 0, i, x6, hi, hx0, hx1 => by
    refine Ev.step (f := fun k => solve_right.l1 k x6 cs (cs.length : Int) ((0 : Nat) : Int)) (fun k => ?_) ?_
    · simp only [solve_right.l0]
      rw [if_neg (by omega)]
      rfl
    · rw [List.drop_of_length_le (by omega)]
      simp only [List.any_nil, Bool.false_eq_true, if_false, List.sum_nil, Int.sub_zero]
      exact right_l1 x6 cs hm hc cs.length 0 (by omega)
  | d + 1, i, x6, hi, hx0, hx1 => by
    have hlt : i < ls.length := by omega
    rw [drop_at ls i hlt 0]
    have hs : ∀ k, solve_right.l0 (k + 1) x0 cs x6 ls (ls.length : Int) (i : Int) = if ls.getD i 0 < 0 then some (0, 1) else if ls.getD i 0 > x0 then some (0, 1) else solve_right.l0 k x0 cs (wrap64 (x6 - ls.getD i 0)) ls (ls.length : Int) ((i + 1 : Nat) : Int) := by
      intro k
      simp only [solve_right.l0]
      rw [if_pos (by omega), if_pos (by omega), if_pos (by omega), rd_nat, w64 (x := (i : Int) + 1) (by omega) (by omega)]
      rfl
    by_cases h2 : ls.getD i 0 < 0
    · refine Ev.step (f := fun _ => some _) (fun k => ?_) (Ev.now _)
      rw [hs k, if_pos h2]
      simp only [List.any_cons, decide_eq_true h2, Bool.true_or, if_true]
    · by_cases h3 : ls.getD i 0 > x0
      · refine Ev.step (f := fun _ => some _) (fun k => ?_) (Ev.now _)
        rw [hs k, if_neg h2, if_pos h3]
        simp only [List.any_cons, decide_eq_true h3, Bool.or_true, Bool.true_or, if_true]
      · have ih := right_l0 x0 ls cs h0 h1 hl hm hc d (i + 1) (x6 - ls.getD i 0) (by omega) (by omega) (by omega)
        refine Ev.step (f := fun k => solve_right.l0 k x0 cs (wrap64 (x6 - ls.getD i 0)) ls (ls.length : Int) ((i + 1 : Nat) : Int)) (fun k => by rw [hs k, if_neg h2, if_neg h3]) ?_
        rw [w64 (by omega) (by omega)]
        simp only [List.any_cons, decide_eq_false h2, decide_eq_false h3, Bool.or_false, Bool.false_or, List.sum_cons]
        rw [show x6 - (ls.getD i 0 + (ls.drop (i + 1)).sum) = x6 - ls.getD i 0 - (ls.drop (i + 1)).sum by omega]
        exact ih

theorem right_ev (a : Int) (ls : List Int) (cs : List (List Int)) (hm : cs.length ≤ 9223372036854775807) (hc : ∀ c ∈ cs, c.length ≤ 9223372036854775807) :
    Ev (fun k => solve_right.f k a ls cs) (rightE a ls cs) := by
  have bad : Ev (fun k => solve_right.j0 k a ls cs true) (0, 1) := Ev.step (f := fun _ => some _) (fun k => by simp only [solve_right.j0]; rfl) (Ev.now _)
  unfold rightE
  by_cases c1 : a < 0
  · rw [if_pos (.inl c1)]; exact bad.congr (fun k => by unfold solve_right.f; rw [if_pos c1])
  by_cases c2 : a > 512
  · rw [if_pos (.inr (.inl c2))]; exact bad.congr (fun k => by unfold solve_right.f; rw [if_neg c1, if_pos c2])
  by_cases c3 : (cs.length : Int) = 0
  · rw [if_pos (.inr (.inr (.inl (by omega))))]; exact bad.congr (fun k => by unfold solve_right.f; rw [if_neg c1, if_neg c2, if_pos c3])
  by_cases c4 : (cs.length : Int) > 16
  · rw [if_pos (.inr (.inr (.inr (.inl (by omega)))))]; exact bad.congr (fun k => by unfold solve_right.f; rw [if_neg c1, if_neg c2, if_neg c3, if_pos c4])
  have hf : ∀ k, solve_right.f k a ls cs = solve_right.j0 k a ls cs ((ls.length : Int) != (cs.length : Int)) := fun k => by unfold solve_right.f; rw [if_neg c1, if_neg c2, if_neg c3, if_neg c4]
  by_cases c5 : ls.length = cs.length
  · rw [if_neg (by omega)]
    have e : ((ls.length : Int) != (cs.length : Int)) = false := by rw [c5]; simp
    have ih := right_l0 a ls cs (by omega) (by omega) (by omega) hm hc ls.length 0 a (by omega) (by omega) (by omega)
    rw [List.drop_zero] at ih
    refine Ev.congr hf ?_
    rw [e]
    refine Ev.step (f := fun k => solve_right.l0 k a cs a ls (ls.length : Int) ((0 : Nat) : Int)) (fun k => by simp only [solve_right.j0, Bool.false_eq_true, if_false]; rfl) ih
  · rw [if_pos (.inr (.inr (.inr (.inr c5))))]
    have e : ((ls.length : Int) != (cs.length : Int)) = true := by simp; omega
    refine Ev.congr hf ?_
    rw [e]
    exact bad

theorem right_good {a : Int} {ls : List Int} {cs : List (List Int)} (h : (rightE a ls cs).2 = 0) :
    0 ≤ a ∧ a ≤ 512 ∧ cs.length ≠ 0 ∧ cs.length ≤ 16 ∧ ls.length = cs.length ∧ (∀ x ∈ ls, 0 ≤ x ∧ x ≤ a) ∧ (∀ c ∈ cs, soundB c = true) ∧ (rightE a ls cs).1 = a - ls.sum ∧ 0 ≤ a - ls.sum := by
  unfold rightE at h ⊢
  split at h
  · simp at h
  · rename_i h1
    rw [if_neg h1]
    split at h
    · simp at h
    · rename_i h2
      rw [if_neg h2]
      split at h
      · simp at h
      · rename_i h3
        rw [if_neg h3]
        split at h
        · simp at h
        · rename_i h4
          rw [if_neg h4]
          simp only [List.any_eq_true, Bool.or_eq_true, decide_eq_true_eq, not_exists, not_and] at h2
          simp only [List.any_eq_true, Bool.not_eq_true', not_exists, not_and, Bool.not_eq_false] at h3
          exact ⟨by omega, by omega, by omega, by omega, by omega, fun x hx => by have := h2 x hx; omega, h3, rfl, by omega⟩

end Go.Proofs.Ytmkeffpgofjlnaa.SR
