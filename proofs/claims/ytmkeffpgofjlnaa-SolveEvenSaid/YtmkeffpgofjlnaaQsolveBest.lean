/- The contract of solve_Best, proved by hand. -/
import Derived.Test.YtmkeffpgofjlnaaQ0
import Derived.Test.YtmkeffpgofjlnaaBestWalk
import Derived.Test.YtmkeffpgofjlnaaSolveRight
namespace Go.Proofs.Ytmkeffpgofjlnaa.Q
open Go.RowKit Go.Proofs.YtmkeffpgofjlnaaW.PrintWords Go.Proofs.YtmkeffpgofjlnaaW.PrintLast Go.Proofs.YtmkeffpgofjlnaaW.PrintMore
attribute [local go_sem] max2_int min2_int max_two min_two max_three min_three max_four min_four   -- for this text's walks alone
set_option linter.unusedVariables false
set_option linter.unusedSimpArgs false

/-! ### solve_Best: function 14 -/
def solve_Best.f (a0 : Int) (l1 : List Int) (l2 : List (List Int)) : Option (List Int × Int × Int) := some (Go.Proofs.Ytmkeffpgofjlnaa.SD.best a0 l1 l2)
theorem solve_Best.calls (a0 : Int) (A1 : Option Addr) (c1 : Nat) (l1 : List Int) (A2 : Option Addr) (c2 : Nat) (l2 : List (List Int)) (r1 : List Int) (r2 r3 : Int) (w : World) (hr1 : Kd.C (Kd.int .i64) w A1 l1.length l1) (hc1 : l1.length ≤ c1) (hr2 : Kd.C (Kd.slice 3 (Kd.int .i64)) w A2 l2.length l2) (hc2 : l2.length ≤ c2) (h : solve_Best.f a0 l1 l2 = some (r1, r2, r3)) :
    Calls Try.prog 14 #[.int .i64 a0, .slice A1 l1.length c1, .slice A2 l2.length c2] w fun e w' => ∃ v0_ : Value, e = .returned (.tuple #[v0_, .int .i64 r2, .int .i64 r3]) ∧ Kd.R (Kd.int .i64) 3 w' w.heap.size (fun _ => True) v0_ r1 ∧ Below w.heap.size w w' := by
  unfold solve_Best.f at h
  have hb1 : l2.length ≤ 9223372036854775807 := hr2.2.1
  have hb2 : ∀ c ∈ l2, c.length ≤ 9223372036854775807 := by
    intro c hc
    obtain ⟨i, hi, rfl⟩ := List.getElem_of_mem hc
    obtain ⟨ad, cs, _, _, ⟨A, c', _, _, hC⟩, _⟩ := Kd.C_get hr2 [] (i : Int) (by omega) (by omega)
    rw [Int.toNat_natCast, List.getD_eq_getElem?_getD, List.getElem?_eq_getElem hi] at hC
    exact hC.2.1
  · obtain ⟨k, hk⟩ := (SR.right_ev a0 l1 l2 hb1 hb2).rounds
    injection h with h
    unfold SD.best at h
    by_cases he : (SD.rightE a0 l1 l2).2 = 0
    · obtain ⟨g1, g2, g3, g4, g5, g6, g7, g8, g9⟩ := SR.right_good he
      rw [if_pos he] at h
      simp only [Prod.mk.injEq] at h
      obtain ⟨rfl, rfl, rfl⟩ := h
      obtain ⟨n, hn⟩ := Int.eq_ofNat_of_zero_le g9
      rw [g8, hn, Int.toNat_natCast]
      have hle : ∀ (l : List Int), (∀ x ∈ l, 0 ≤ x ∧ x ≤ a0) → 0 ≤ l.sum := by
        intro l
        induction l with
        | nil => intro _; simp
        | cons x t ih => intro h; rw [List.sum_cons]; have := ih (fun y hy => h y (List.mem_cons_of_mem _ hy)); have := h x List.mem_cons_self; omega
      have h0 := hle l1 g6
      refine (BW.best_good k a0 A1 c1 l1 A2 c2 l2 w hr1 hc1 hr2 hc2 n ?_ (by omega) g5 g4 g7 (fun x hx => by have := g6 x hx; omega)).mono ?_
      · have e : SD.rightE a0 l1 l2 = ((n : Int), 0) := Prod.ext (by rw [g8, hn]) he
        rw [← e]; exact hk
      · rintro e w' ⟨v, h1, h2, h3⟩
        exact ⟨v, h1, h2, h3⟩
    · rw [if_neg he] at h
      simp only [Prod.mk.injEq] at h
      obtain ⟨rfl, rfl, rfl⟩ := h
      refine (BW.best_bad k a0 A1 c1 l1 A2 c2 l2 w hr1 hc1 hr2 hc2 (SD.rightE a0 l1 l2).1 (SD.rightE a0 l1 l2).2 hk he).mono ?_
      rintro e w' ⟨h1, h2⟩
      exact ⟨_, h1, Kd.R_nil _ _ _ _ _, h2⟩

end Go.Proofs.Ytmkeffpgofjlnaa.Q
