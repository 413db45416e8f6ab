/- So many taken at one moment may be taken in two parts: for any numbers. -/
import Derived.Test.YtbmnkfpodkdpeaaQLawRateOne
import Derived.Test.YtbmnkfpodkdpeaaRateFns
namespace Go.Proofs.Ytbmnkfpodkdpeaa.Pure
open Go.RowKit Go.Proofs.Ytbmnkfpodkdpeaa.Q Go.Proofs.YtbmnkfpodkdpeaaW.PrintWords Go.Proofs.YtbmnkfpodkdpeaaW.PrintLast Go.Proofs.Ytbmnkfpodkdpeaa.RF

theorem one_j0 (r bu lv a x y t : Int) (x0 : 0 ≤ x) (y0 : 0 ≤ y) (hs : Sound r bu lv a) (h1 : a ≤ t) (h2 : t ≤ 1099511627776) (hn : x + y ≤ bu) (hl : 65536 * (x + y) ≤ lev r bu lv (t - a)) :
    stowagelaw09_RateOne.j0 2 t x y false r bu lv a r bu (lev r bu lv (t - a) - 65536 * (x + y)) t = some true := by
  have hb := lev_bound (d := t - a) hs.r0 hs.l1 (by omega)
  rw [stowagelaw09_RateOne.j0, if_neg (by simp), take_ok 0 r bu lv a x t hs h1 h2 x0 (by omega) (by omega), Option.bind_some]
  dsimp only
  have hs' : Sound r bu (lev r bu lv (t - a) - 65536 * x) t := ⟨hs.r0, hs.r1, hs.b0, hs.b1, by omega, by omega, by have := hs.a0; omega, h2⟩
  have e : lev r bu (lev r bu lv (t - a) - 65536 * x) (t - t) = lev r bu lv (t - a) - 65536 * x := by
    generalize lev r bu lv (t - a) = L at *
    unfold lev
    rw [Int.sub_self, Int.mul_zero, Int.add_zero, if_pos (by omega)]
  rw [take_ok 0 r bu _ t y t hs' (by omega) h2 y0 (by omega) (by omega), Option.bind_some, e]
  have e2 : lev r bu lv (t - a) - 65536 * x - 65536 * y = lev r bu lv (t - a) - 65536 * (x + y) := by omega
  rw [e2]
  simp

theorem RateOne (r bu lv a n m t : Int) (hn : 0 ≤ n ∧ n ≤ 255) (hm : 0 ≤ m ∧ m ≤ 255) : stowagelaw09_RateOne.f 2 r bu lv a n m t = some true := by
  unfold stowagelaw09_RateOne.f
  rw [Int.tmod_eq_emod_of_nonneg hn.1, Int.tmod_eq_emod_of_nonneg hm.1, w64 (x := n % 40) (by omega) (by omega), w64 (x := m % 40) (by omega) (by omega), w64 (x := n % 40 + m % 40) (by omega) (by omega)]
  have x0 : 0 ≤ n % 40 := by omega
  have y0 : 0 ≤ m % 40 := by omega
  generalize n % 40 = x at *
  generalize m % 40 = y at *
  have bad : ∀ p q u v z, stowagelaw09_RateOne.j0 2 t x y true r bu lv a p q u v = some z → z = true := by
    intro p q u v z h
    rw [stowagelaw09_RateOne.j0, if_pos rfl, awake_eq] at h
    exact (Option.some.inj h).symm
  have bad' : ∀ p q u v, stowagelaw09_RateOne.j0 2 t x y true r bu lv a p q u v = some true := by
    intro p q u v
    rw [stowagelaw09_RateOne.j0, if_pos rfl, awake_eq]; rfl
  rcases take_cases 1 r bu lv a (x + y) t with h | h | h | h | h
  · rw [h.2, Option.bind_some, awake_eq, Option.bind_some, if_pos rfl]; exact bad' _ _ _ _
  · rw [h.2.2, Option.bind_some, awake_eq, Option.bind_some, if_pos rfl]; exact bad' _ _ _ _
  · rw [h.2.2.2.2, Option.bind_some, awake_eq, Option.bind_some, if_pos rfl]; exact bad' _ _ _ _
  · rw [h.2.2.2.2.2.2, Option.bind_some, awake_eq, Option.bind_some, if_pos rfl]; exact bad' _ _ _ _
  · obtain ⟨hs, h1, h2, n0, n1, hl, he⟩ := h
    rw [he, Option.bind_some, awake_eq, Option.bind_some, if_pos rfl]
    exact one_j0 r bu lv a x y t x0 y0 hs h1 h2 n1 hl

theorem one_walk (r bu lv a n m t : Int) (w : World) (hn : (Lit.int .u8 n).wf = true) (hm : (Lit.int .u8 m).wf = true) :
    Calls Try.prog 10 #[.agg #[.int .i64 r, .int .i64 bu, .int .i64 lv, .int .i64 a], .int .u8 n, .int .u8 m, .int .i64 t] w fun e w' => e = .returned (.bool true) ∧ Below w.heap.size w w' :=
  stowagelaw09_RateOne.calls 2 r bu lv a n m t true w (RateOne r bu lv a n m t (wf_u8 hn) (wf_u8 hm))

end Go.Proofs.Ytbmnkfpodkdpeaa.Pure
