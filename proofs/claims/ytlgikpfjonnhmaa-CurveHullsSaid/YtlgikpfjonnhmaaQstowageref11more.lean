/- The contract of stowageref11_more. (The kit's print tool wrote these lines; they are laid out in texts of this claim's own.) -/
import Derived.Test.YtlgikpfjonnhmaaQ0
namespace Go.Proofs.Ytlgikpfjonnhmaa.Q
open Go.RowKit Go.Proofs.YtlgikpfjonnhmaaW.PrintWords Go.Proofs.YtlgikpfjonnhmaaW.PrintLast Go.Proofs.YtlgikpfjonnhmaaW.PrintMore
attribute [local go_sem] max2_int min2_int max_two min_two max_three min_three max_four min_four   -- for this text's walks alone
set_option linter.unusedVariables false
set_option linter.unusedSimpArgs false

/-! ### stowageref11_more: function 27 -/
def stowageref11_more.f (a0 : Int) (a1 : Int) (a2 : Int) (a3 : Int) : Option (Bool) := if (wrap64 ((wrap64 ((wrap64 (Int.tdiv a0 65536)) * a1)) + (wrap64 (Int.tdiv (wrap64 ((Int.tmod a0 65536) * a1)) 65536)))) > (wrap64 ((wrap64 ((wrap64 (Int.tdiv a2 65536)) * a3)) + (wrap64 (Int.tdiv (wrap64 ((Int.tmod a2 65536) * a3)) 65536)))) then (some true) else (if (wrap64 ((wrap64 ((wrap64 (Int.tdiv a0 65536)) * a1)) + (wrap64 (Int.tdiv (wrap64 ((Int.tmod a0 65536) * a1)) 65536)))) = (wrap64 ((wrap64 ((wrap64 (Int.tdiv a2 65536)) * a3)) + (wrap64 (Int.tdiv (wrap64 ((Int.tmod a2 65536) * a3)) 65536)))) then (some (decide ((Int.tmod (wrap64 ((Int.tmod a0 65536) * a1)) 65536) > (Int.tmod (wrap64 ((Int.tmod a2 65536) * a3)) 65536)))) else (some false))
set_option maxHeartbeats 8000000 in
set_option maxRecDepth 100000 in
theorem stowageref11_more.calls (a0 : Int) (a1 : Int) (a2 : Int) (a3 : Int) (r : Bool) (w : World) (h : stowageref11_more.f a0 a1 a2 a3 = some r) :
    Calls Try.prog 27 #[.int .i64 a0, .int .i64 a1, .int .i64 a2, .int .i64 a3] w fun e w' => e = .returned (.bool r) ∧ Drawn0 w w' := by
  have H : (if (wrap64 ((wrap64 ((wrap64 (Int.tdiv a0 65536)) * a1)) + (wrap64 (Int.tdiv (wrap64 ((Int.tmod a0 65536) * a1)) 65536)))) > (wrap64 ((wrap64 ((wrap64 (Int.tdiv a2 65536)) * a3)) + (wrap64 (Int.tdiv (wrap64 ((Int.tmod a2 65536) * a3)) 65536)))) then (some true) else (if (wrap64 ((wrap64 ((wrap64 (Int.tdiv a0 65536)) * a1)) + (wrap64 (Int.tdiv (wrap64 ((Int.tmod a0 65536) * a1)) 65536)))) = (wrap64 ((wrap64 ((wrap64 (Int.tdiv a2 65536)) * a3)) + (wrap64 (Int.tdiv (wrap64 ((Int.tmod a2 65536) * a3)) 65536)))) then (some (decide ((Int.tmod (wrap64 ((Int.tmod a0 65536) * a1)) 65536) > (Int.tmod (wrap64 ((Int.tmod a2 65536) * a3)) 65536)))) else (some false))) = some r := h
  clear h
  by_cases c5 : (wrap64 ((wrap64 ((wrap64 (Int.tdiv a0 65536)) * a1)) + (wrap64 (Int.tdiv (wrap64 ((Int.tmod a0 65536) * a1)) 65536)))) > (wrap64 ((wrap64 ((wrap64 (Int.tdiv a2 65536)) * a3)) + (wrap64 (Int.tdiv (wrap64 ((Int.tmod a2 65536) * a3)) 65536))))
  · rw [if_pos c5] at H
    have c5b0 : decide ((wrap64 ((wrap64 ((wrap64 (Int.tdiv a2 65536)) * a3)) + (wrap64 (Int.tdiv (wrap64 ((Int.tmod a2 65536) * a3)) 65536)))) < (wrap64 ((wrap64 ((wrap64 (Int.tdiv a0 65536)) * a1)) + (wrap64 (Int.tdiv (wrap64 ((Int.tmod a0 65536) * a1)) 65536))))) = true := decide_eq_true c5
    clear c5
    obtain rfl := Option.some.inj H
    go_enter Try.func27, Try.ntmps27
    go_wp2
    go_ret
    exact ⟨by first | rfl | (simp; done) | (simp [*]; done), by repeat (first | exact Drawn0.refl _ | apply Drawn0.step)⟩
  · rw [if_neg c5] at H
    have c5b0 : decide ((wrap64 ((wrap64 ((wrap64 (Int.tdiv a2 65536)) * a3)) + (wrap64 (Int.tdiv (wrap64 ((Int.tmod a2 65536) * a3)) 65536)))) < (wrap64 ((wrap64 ((wrap64 (Int.tdiv a0 65536)) * a1)) + (wrap64 (Int.tdiv (wrap64 ((Int.tmod a0 65536) * a1)) 65536))))) = false := decide_eq_false c5
    clear c5
    by_cases c6 : (wrap64 ((wrap64 ((wrap64 (Int.tdiv a0 65536)) * a1)) + (wrap64 (Int.tdiv (wrap64 ((Int.tmod a0 65536) * a1)) 65536)))) = (wrap64 ((wrap64 ((wrap64 (Int.tdiv a2 65536)) * a3)) + (wrap64 (Int.tdiv (wrap64 ((Int.tmod a2 65536) * a3)) 65536))))
    · rw [if_pos c6] at H
      have c6b0 : ((wrap64 ((wrap64 ((wrap64 (Int.tdiv a0 65536)) * a1)) + (wrap64 (Int.tdiv (wrap64 ((Int.tmod a0 65536) * a1)) 65536)))) == (wrap64 ((wrap64 ((wrap64 (Int.tdiv a2 65536)) * a3)) + (wrap64 (Int.tdiv (wrap64 ((Int.tmod a2 65536) * a3)) 65536))))) = true := beq_iff_eq.mpr c6
      have c6b1 : ((wrap64 ((wrap64 ((wrap64 (Int.tdiv a0 65536)) * a1)) + (wrap64 (Int.tdiv (wrap64 ((Int.tmod a0 65536) * a1)) 65536)))) != (wrap64 ((wrap64 ((wrap64 (Int.tdiv a2 65536)) * a3)) + (wrap64 (Int.tdiv (wrap64 ((Int.tmod a2 65536) * a3)) 65536))))) = false := bne_eq_false_iff_eq.mpr c6
      clear c6
      obtain rfl := Option.some.inj H
      go_enter Try.func27, Try.ntmps27
      go_wp2
      go_ret
      exact ⟨by first | rfl | (simp; done) | (simp [*]; done), by repeat (first | exact Drawn0.refl _ | apply Drawn0.step)⟩
    · rw [if_neg c6] at H
      have c6b0 : ((wrap64 ((wrap64 ((wrap64 (Int.tdiv a0 65536)) * a1)) + (wrap64 (Int.tdiv (wrap64 ((Int.tmod a0 65536) * a1)) 65536)))) == (wrap64 ((wrap64 ((wrap64 (Int.tdiv a2 65536)) * a3)) + (wrap64 (Int.tdiv (wrap64 ((Int.tmod a2 65536) * a3)) 65536))))) = false := beq_eq_false_iff_ne.mpr c6
      have c6b1 : ((wrap64 ((wrap64 ((wrap64 (Int.tdiv a0 65536)) * a1)) + (wrap64 (Int.tdiv (wrap64 ((Int.tmod a0 65536) * a1)) 65536)))) != (wrap64 ((wrap64 ((wrap64 (Int.tdiv a2 65536)) * a3)) + (wrap64 (Int.tdiv (wrap64 ((Int.tmod a2 65536) * a3)) 65536))))) = true := bne_iff_ne.mpr c6
      obtain rfl := Option.some.inj H
      go_enter Try.func27, Try.ntmps27
      go_wp2
      go_ret
      exact ⟨by first | rfl | (simp; done) | (simp [*]; done), by repeat (first | exact Drawn0.refl _ | apply Drawn0.step)⟩

end Go.Proofs.Ytlgikpfjonnhmaa.Q
