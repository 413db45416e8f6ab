/- What the printed functions of package solve and of its reference come to, in numbers and lists alone. -/
import Derived.Test.YtmkeffpgofjlnaaQsolveGreedy
import Derived.Test.YtmkeffpgofjlnaaQstowageref12Check
import Derived.Test.YtmkeffpgofjlnaaQstowageref12Greedy
import Derived.Test.YtmkeffpgofjlnaaQstowageref12Sum
import Derived.Test.YtmkeffpgofjlnaaQstowageref12Best
import Derived.Test.YtmkeffpgofjlnaaQstowageref12Slower
import Derived.Test.YtmkeffpgofjlnaaQstowageref01SameInts
import Derived.Test.YtmkeffpgofjlnaaSolveRight
namespace Go.Proofs.Ytmkeffpgofjlnaa.SF
open Go.RowKit Go.Proofs.Ytmkeffpgofjlnaa.Q Go.Proofs.Ytmkeffpgofjlnaa.SD Go.Proofs.Ytmkeffpgofjlnaa.SR Go.Proofs.YtmkeffpgofjlnaaW.PrintWords Go.Proofs.YtmkeffpgofjlnaaW.PrintLast Go.Proofs.YtmkeffpgofjlnaaW.PrintMore

/-! ### Sound, Check -/
theorem soundFrom_iff : ∀ (l : List Int) (last : Int), soundFrom last l = true ↔ (∀ i : Nat, i < l.length → last ≤ l.getD i 0 ∧ l.getD i 0 ≤ 4503599627370496) ∧ ∀ i : Nat, i + 1 < l.length → l.getD i 0 ≤ l.getD (i + 1) 0
  | [], last => by simp [soundFrom]
  | h :: t, last => by
    simp only [soundFrom, Bool.and_eq_true, decide_eq_true_eq]
    rw [soundFrom_iff t h]
    constructor
    · rintro ⟨h1, h2, h3, h4⟩
      refine ⟨fun i hi => ?_, fun i hi => ?_⟩
      · cases i with
        | zero => simpa using ⟨h1, h2⟩
        | succ i => have := h3 i (by simpa using hi); simp only [List.getD_cons_succ]; omega
      · cases i with
        | zero => have := h3 0 (by simpa using hi); simpa using this.1
        | succ i => have := h4 i (by simpa using hi); simpa using this
    · rintro ⟨h1, h2⟩
      have h0 := h1 0 (by simp)
      simp only [List.getD_cons_zero] at h0
      refine ⟨h0.1, h0.2, fun i hi => ?_, fun i hi => ?_⟩
      · have a := h1 (i + 1) (by simpa using hi)
        refine ⟨?_, by simpa using a.2⟩
        clear a
        induction i with
        | zero => have := h2 0 (by simpa using hi); simpa using this
        | succ i ih => have b := ih (by omega); have := h2 (i + 1) (by simpa using hi); simp only [List.getD_cons_succ] at this; omega
      · have := h2 (i + 1) (by simpa using hi)
        simpa using this
theorem soundB_iff (l : List Int) : soundB l = true ↔ 1 ≤ l.length ∧ l.length ≤ 4096 ∧ (∀ i : Nat, i < l.length → 0 ≤ l.getD i 0 ∧ l.getD i 0 ≤ 4503599627370496) ∧ ∀ i : Nat, i + 1 < l.length → l.getD i 0 ≤ l.getD (i + 1) 0 := by
  unfold soundB
  simp only [Bool.and_eq_true, decide_eq_true_eq]
  rw [soundFrom_iff]
  constructor
  · rintro ⟨⟨a, b⟩, c, d⟩; exact ⟨c, d, a, b⟩
  · rintro ⟨c, d, a, b⟩; exact ⟨⟨a, b⟩, c, d⟩

theorem rsound_loop (l : List Int) (hm : l.length ≤ 4096) (h1 : 1 ≤ l.length) (h0 : 0 ≤ l.getD 0 0) : ∀ (d i : Nat), i + d = l.length → (∀ j : Nat, j < i → 0 ≤ l.getD j 0 ∧ l.getD j 0 ≤ 4503599627370496) → (∀ j : Nat, j + 1 < i → l.getD j 0 ≤ l.getD (j + 1) 0) →
    Ev (fun k => stowageref11_Sound.l0 k l (i : Int)) (soundB l)
  | 0, i, hi, ha, hb => by
    have e : soundB l = true := (soundB_iff l).2 ⟨h1, hm, fun j hj => ha j (by omega), fun j hj => hb j (by omega)⟩
    rw [e]
    refine Ev.step (f := fun _ => some _) (fun k => ?_) (Ev.now _)
    simp only [stowageref11_Sound.l0]
    rw [if_neg (by omega)]
  | d + 1, i, hi, ha, hb => by
    have hs : ∀ k, stowageref11_Sound.l0 (k + 1) l (i : Int) = if l.getD i 0 > 4503599627370496 then some false else if (i : Int) > 0 then if l.getD i 0 < l.getD (i - 1) 0 then some false else stowageref11_Sound.l0 k l ((i + 1 : Nat) : Int) else stowageref11_Sound.l0 k l ((i + 1 : Nat) : Int) := by
      intro k
      simp only [stowageref11_Sound.l0]
      rw [if_pos (by omega), if_pos (by omega), rd_nat, w64 (x := (i : Int) + 1) (by omega) (by omega)]
      by_cases c1 : l.getD i 0 > 4503599627370496
      · rw [if_pos c1, if_pos c1]
      · rw [if_neg c1, if_neg c1]
        by_cases hi0 : (i : Int) > 0
        · rw [if_pos hi0, if_pos hi0, w64 (x := (i : Int) - 1) (by omega) (by omega), if_pos (by omega), if_pos (by omega), show (i : Int) - 1 = ((i - 1 : Nat) : Int) by omega, rd_nat]
          rfl
        · rw [if_neg hi0, if_neg hi0]
          rfl
    by_cases c1 : l.getD i 0 > 4503599627370496
    · have e : soundB l = false := by
        rw [Bool.eq_false_iff]; intro h
        have := ((soundB_iff l).1 h).2.2.1 i (by omega)
        omega
      rw [e]
      exact Ev.step (f := fun _ => some _) (fun k => by rw [hs k, if_pos c1]) (Ev.now _)
    · by_cases hi0 : (i : Int) > 0
      · by_cases c2 : l.getD i 0 < l.getD (i - 1) 0
        · have e : soundB l = false := by
            rw [Bool.eq_false_iff]; intro h
            have := ((soundB_iff l).1 h).2.2.2 (i - 1) (by omega)
            rw [show i - 1 + 1 = i by omega] at this
            omega
          rw [e]
          exact Ev.step (f := fun _ => some _) (fun k => by rw [hs k, if_neg c1, if_pos hi0, if_pos c2]) (Ev.now _)
        · refine Ev.step (f := fun k => stowageref11_Sound.l0 k l ((i + 1 : Nat) : Int)) (fun k => by rw [hs k, if_neg c1, if_pos hi0, if_neg c2]) (rsound_loop l hm h1 h0 d (i + 1) (by omega) (fun j hj => ?_) (fun j hj => ?_))
          · rcases Nat.lt_or_ge j i with h | h
            · exact ha j h
            · obtain rfl : j = i := by omega
              have := ha (j - 1) (by omega)
              omega
          · rcases Nat.lt_or_ge (j + 1) i with h | h
            · exact hb j h
            · have : j = i - 1 := by omega
              subst this
              rw [show i - 1 + 1 = i by omega]
              omega
      · obtain rfl : i = 0 := by omega
        refine Ev.step (f := fun k => stowageref11_Sound.l0 k l ((0 + 1 : Nat) : Int)) (fun k => by rw [hs k, if_neg c1, if_neg hi0]) (rsound_loop l hm h1 h0 d 1 (by omega) (fun j hj => ?_) (fun j hj => by omega))
        obtain rfl : j = 0 := by omega
        omega
theorem rsound_ev (l : List Int) : Ev (fun k => stowageref11_Sound.f k l) (soundB l) := by
  have no : soundB l = false → Ev (fun k => stowageref11_Sound.j0 k l true) (soundB l) := fun h => by
    rw [h]; exact Ev.step (f := fun _ => some _) (fun k => by simp only [stowageref11_Sound.j0, if_true]) (Ev.now _)
  by_cases c1 : (l.length : Int) < 1
  · refine Ev.congr (fun k => by unfold stowageref11_Sound.f; rw [if_pos c1]) (no ?_)
    rw [Bool.eq_false_iff]; intro h; have := ((soundB_iff l).1 h).1; omega
  by_cases c2 : (l.length : Int) > 4096
  · refine Ev.congr (fun k => by unfold stowageref11_Sound.f; rw [if_neg c1, if_pos c2]) (no ?_)
    rw [Bool.eq_false_iff]; intro h; have := ((soundB_iff l).1 h).2.1; omega
  by_cases c3 : rd l 0 < 0
  · refine Ev.congr (fun k => by unfold stowageref11_Sound.f; rw [if_neg c1, if_neg c2, if_pos (by omega), decide_eq_true c3]) (no ?_)
    rw [Bool.eq_false_iff]; intro h; have := ((soundB_iff l).1 h).2.2.1 0 (by omega)
    have e := rd_nat l 0
    rw [Int.natCast_zero] at e
    omega
  · have e := rd_nat l 0
    rw [Int.natCast_zero] at e
    refine Ev.congr (fun k => by unfold stowageref11_Sound.f; rw [if_neg c1, if_neg c2, if_pos (by omega), decide_eq_false c3]) ?_
    refine Ev.step (f := fun k => stowageref11_Sound.l0 k l ((0 : Nat) : Int)) (fun k => by simp only [stowageref11_Sound.j0, Bool.false_eq_true, if_false]; rfl) ?_
    exact rsound_loop l (by omega) (by omega) (by omega) l.length 0 (by omega) (fun j hj => by omega) (fun j hj => by omega)

theorem check_l1 (x0 x7 : Int) (cs : List (List Int)) (hm : cs.length ≤ 9223372036854775807) : ∀ (d i : Nat), i + d = cs.length →
    Ev (fun k => stowageref12_Check.l1 k x0 cs x7 (i : Int)) (rightC (x0 - x7) (cs.drop i)).2
  | 0, i, hi => by
    refine Ev.step (f := fun _ => some _) (fun k => ?_) (Ev.now _)
    simp only [stowageref12_Check.l1]
    rw [if_neg (by omega), List.drop_of_length_le (by omega)]
    unfold rightC
    simp only [List.any_nil, Bool.false_eq_true, if_false]
    by_cases h : x7 > x0
    · rw [if_pos h, if_pos (by omega)]
    · rw [if_neg h, if_neg (by omega)]
  | d + 1, i, hi => by
    have hlt : i < cs.length := by omega
    have hs : ∀ k, stowageref12_Check.l1 (k + 1) x0 cs x7 (i : Int) = (stowageref11_Sound.f k (cs.getD i [])).bind fun t => if t = true then stowageref12_Check.l1 k x0 cs x7 ((i + 1 : Nat) : Int) else some 2 := by
      intro k
      simp only [stowageref12_Check.l1]
      rw [if_pos (by omega), if_pos (by omega), rdL_nat, w64 (by omega) (by omega)]
      rfl
    refine Ev.step hs (Ev.bind (rsound_ev _) ?_)
    rw [drop_at cs i hlt []]
    unfold rightC
    by_cases h : soundB (cs.getD i []) = true
    · simp only [h, if_true, List.any_cons, Bool.not_true, Bool.false_or]
      exact check_l1 x0 x7 cs hm d (i + 1) (by omega)
    · simp only [Bool.not_eq_true] at h
      simp only [h, List.any_cons, Bool.not_false, Bool.true_or, if_true, Bool.false_eq_true, if_false]
      exact Ev.now _
theorem check_l0 (x0 : Int) (ls : List Int) (cs : List (List Int)) (h0 : 0 ≤ x0) (h1 : x0 ≤ 512) (hl : ls.length ≤ 16) (hm : cs.length ≤ 9223372036854775807) : ∀ (d i : Nat) (x7 : Int), i + d = ls.length → 0 ≤ x7 → x7 ≤ 512 * (i : Int) →
    Ev (fun k => stowageref12_Check.l0 k x0 ls cs x7 (i : Int)) (if (ls.drop i).any (fun n => decide (n < 0) || decide (n > x0)) then (0, 1) else rightC (x0 - x7 - (ls.drop i).sum) cs).2
  | 0, i, x7, hi, hx0, hx1 => by
    refine Ev.step (f := fun k => stowageref12_Check.l1 k x0 cs x7 ((0 : Nat) : Int)) (fun k => ?_) ?_
    · simp only [stowageref12_Check.l0]
      rw [if_neg (by omega)]
      rfl
    · rw [List.drop_of_length_le (by omega)]
      simp only [List.any_nil, Bool.false_eq_true, if_false, List.sum_nil, Int.sub_zero]
      exact check_l1 x0 x7 cs hm cs.length 0 (by omega)
  | d + 1, i, x7, hi, hx0, hx1 => by
    have hlt : i < ls.length := by omega
    rw [drop_at ls i hlt 0]
    have hs : ∀ k, stowageref12_Check.l0 (k + 1) x0 ls cs x7 (i : Int) = if ls.getD i 0 < 0 then some 1 else if ls.getD i 0 > x0 then some 1 else stowageref12_Check.l0 k x0 ls cs (wrap64 (x7 + ls.getD i 0)) ((i + 1 : Nat) : Int) := by
      intro k
      simp only [stowageref12_Check.l0]
      rw [if_pos (by omega), if_pos (by omega), rd_nat, w64 (x := (i : Int) + 1) (by omega) (by omega)]
      rfl
    by_cases h2 : ls.getD i 0 < 0
    · refine Ev.step (f := fun _ => some _) (fun k => ?_) (Ev.now _)
      rw [hs k, if_pos h2]
      simp only [List.any_cons, decide_eq_true h2, Bool.true_or, if_true]
    · by_cases h3 : ls.getD i 0 > x0
      · refine Ev.step (f := fun _ => some _) (fun k => ?_) (Ev.now _)
        rw [hs k, if_neg h2, if_pos h3]
        simp only [List.any_cons, decide_eq_true h3, Bool.or_true, Bool.true_or, if_true]
      · have ih := check_l0 x0 ls cs h0 h1 hl hm d (i + 1) (x7 + ls.getD i 0) (by omega) (by omega) (by omega)
        refine Ev.step (f := fun k => stowageref12_Check.l0 k x0 ls cs (wrap64 (x7 + ls.getD i 0)) ((i + 1 : Nat) : Int)) (fun k => by rw [hs k, if_neg h2, if_neg h3]) ?_
        rw [w64 (by omega) (by omega)]
        simp only [List.any_cons, decide_eq_false h2, decide_eq_false h3, Bool.or_false, Bool.false_or, List.sum_cons]
        rw [show x0 - x7 - (ls.getD i 0 + (ls.drop (i + 1)).sum) = x0 - (x7 + ls.getD i 0) - (ls.drop (i + 1)).sum by omega]
        exact ih
theorem check_ev (a : Int) (ls : List Int) (cs : List (List Int)) (hm : cs.length ≤ 9223372036854775807) : Ev (fun k => stowageref12_Check.f k a ls cs) (rightE a ls cs).2 := by
  have bad : Ev (fun k => stowageref12_Check.j0 k a ls cs true) 1 := Ev.step (f := fun _ => some _) (fun k => by simp only [stowageref12_Check.j0]; rfl) (Ev.now _)
  unfold rightE
  by_cases c1 : a < 0
  · rw [if_pos (.inl c1)]; exact bad.congr (fun k => by unfold stowageref12_Check.f; rw [if_pos c1])
  by_cases c2 : a > 512
  · rw [if_pos (.inr (.inl c2))]; exact bad.congr (fun k => by unfold stowageref12_Check.f; rw [if_neg c1, if_pos c2])
  by_cases c3 : (cs.length : Int) = 0
  · rw [if_pos (.inr (.inr (.inl (by omega))))]; exact bad.congr (fun k => by unfold stowageref12_Check.f; rw [if_neg c1, if_neg c2, if_pos c3])
  by_cases c4 : (cs.length : Int) > 16
  · rw [if_pos (.inr (.inr (.inr (.inl (by omega)))))]; exact bad.congr (fun k => by unfold stowageref12_Check.f; rw [if_neg c1, if_neg c2, if_neg c3, if_pos c4])
  have hf : ∀ k, stowageref12_Check.f k a ls cs = stowageref12_Check.j0 k a ls cs ((ls.length : Int) != (cs.length : Int)) := fun k => by unfold stowageref12_Check.f; rw [if_neg c1, if_neg c2, if_neg c3, if_neg c4]
  by_cases c5 : ls.length = cs.length
  · rw [if_neg (by omega)]
    have e : ((ls.length : Int) != (cs.length : Int)) = false := by rw [c5]; simp
    have ih := check_l0 a ls cs (by omega) (by omega) (by omega) hm ls.length 0 0 (by omega) (by omega) (by omega)
    rw [List.drop_zero, Int.sub_zero] at ih
    refine Ev.congr hf ?_
    rw [e]
    exact Ev.step (f := fun k => stowageref12_Check.l0 k a ls cs 0 ((0 : Nat) : Int)) (fun k => by simp only [stowageref12_Check.j0, Bool.false_eq_true, if_false]; rfl) ih
  · rw [if_pos (.inr (.inr (.inr (.inr c5))))]
    have e : ((ls.length : Int) != (cs.length : Int)) = true := by simp; omega
    refine Ev.congr hf ?_
    rw [e]
    exact bad

/-! ### At, gain, Sum -/
theorem mn_eq (a b : Int) : mn a b = min a b := by unfold mn; omega
theorem at_f (c : List Int) (s : Int) (hm : c.length ≤ 9223372036854775807) : curve_At.f c s = some (at_ c s) := by
  unfold curve_At.f at_
  by_cases h1 : c.length = 0
  · rw [if_pos (by omega), if_pos h1]
  · rw [if_neg (by omega), if_neg h1]
    by_cases h2 : s < 0
    · rw [if_pos h2, if_pos h2]
    · rw [if_neg h2, if_neg h2, w64 (by omega) (by omega), mn_eq, if_pos (by omega), if_pos (by omega)]
      rfl
theorem rat_ev (c : List Int) (s : Int) (hm : c.length ≤ 9223372036854775807) : Ev (fun k => stowageref11_At.f k c s) (at_ c s) := by
  by_cases h1 : c.length = 0
  · refine Ev.congr (fun k => by unfold stowageref11_At.f; rw [if_pos (by omega)]) ?_
    have e : at_ c s = 0 := by unfold at_; rw [if_pos h1]
    rw [e]
    exact Ev.step (f := fun _ => some _) (fun k => by simp only [stowageref11_At.j0, if_true]) (Ev.now _)
  · refine Ev.congr (fun k => by unfold stowageref11_At.f; rw [if_neg (by omega)]) ?_
    by_cases h2 : s < 0
    · have e : at_ c s = 0 := by unfold at_; rw [if_neg h1, if_pos h2]
      rw [e, decide_eq_true h2]
      exact Ev.step (f := fun _ => some _) (fun k => by simp only [stowageref11_At.j0, if_true]) (Ev.now _)
    · rw [decide_eq_false h2]
      refine Ev.step (f := fun _ => some _) (fun k => ?_) (Ev.now _)
      simp only [stowageref11_At.j0, Bool.false_eq_true, if_false]
      rw [w64 (by omega) (by omega)]
      unfold at_
      rw [if_neg h1, if_neg h2]
      by_cases h3 : s ≥ (c.length : Int)
      · rw [if_pos h3, if_pos (by omega), if_pos (by omega), Int.min_eq_right (by omega)]
        rfl
      · rw [if_neg h3, if_pos (by omega), if_pos (by omega), Int.min_eq_left (by omega)]
        rfl
def gn (c : List Int) (s : Int) : Int := at_ c (s + 1) - at_ c s
theorem sound_len {c : List Int} (h : soundB c = true) : c.length ≤ 4096 := ((soundB_iff c).1 h).2.1
theorem gain_ev (c : List Int) (s : Int) (hc : soundB c = true) (h0 : 0 ≤ s) (h1 : s ≤ 65536) : Ev (fun k => stowageref12_gain.f k c s) (gn c s) := by
  have hl := sound_len hc
  have b1 := at_bounds hc (s + 1)
  have b2 := at_bounds hc s
  unfold stowageref12_gain.f
  rw [w64 (by omega) (by omega)]
  refine Ev.bind (rat_ev c (s + 1) (by omega)) (Ev.bind (rat_ev c s (by omega)) ?_)
  unfold gn
  rw [w64 (by omega) (by omega)]
  exact Ev.now _
/-- What shares bring. -/
def sumOf : List Int → List (List Int) → Int
  | s :: ss, c :: cs => at_ c s + sumOf ss cs
  | _, _ => 0
theorem sumOf_bounds : ∀ (ss : List Int) (cs : List (List Int)), (∀ c ∈ cs, soundB c = true) → 0 ≤ sumOf ss cs ∧ sumOf ss cs ≤ 4503599627370496 * cs.length
  | [], cs, h => by simp [sumOf]; omega
  | s :: ss, [], h => by simp [sumOf]
  | s :: ss, c :: cs, h => by
    have ih := sumOf_bounds ss cs (fun c hc => h c (List.mem_cons_of_mem _ hc))
    have := at_bounds (h c List.mem_cons_self) s
    simp only [sumOf, List.length_cons]
    omega
theorem sum_loop (ss : List Int) (cs : List (List Int)) (hs : ss.length ≤ 9223372036854775807) (hl : cs.length ≤ 16) (hc : ∀ c ∈ cs, soundB c = true) : ∀ (d i : Nat) (x : Int), i + d = cs.length → 0 ≤ x → x ≤ 4503599627370496 * (i : Int) →
    Ev (fun k => stowageref12_Sum.l0 k ss cs x (i : Int)) (x + sumOf (ss.drop i) (cs.drop i))
  | 0, i, x, hi, h0, h1 => by
    have e : sumOf (ss.drop i) (cs.drop i) = 0 := by
      rw [List.drop_of_length_le (l := cs) (by omega)]
      cases ss.drop i <;> rfl
    rw [e, Int.add_zero]
    refine Ev.step (f := fun _ => some _) (fun k => ?_) (Ev.now _)
    simp only [stowageref12_Sum.l0]
    split
    · rw [if_neg (by omega)]
    · rfl
  | d + 1, i, x, hi, h0, h1 => by
    by_cases hi2 : i < ss.length
    · have hlt : i < cs.length := by omega
      have hcs := hc _ (getD_mem cs i hlt [])
      have hb := at_bounds hcs (ss.getD i 0)
      have hlen := sound_len hcs
      rw [drop_at cs i hlt [], drop_at ss i hi2 0]
      simp only [sumOf]
      refine Ev.step (f := fun k => (stowageref11_At.f k (cs.getD i []) (ss.getD i 0)).bind fun t => stowageref12_Sum.l0 k ss cs (wrap64 (x + t)) ((i + 1 : Nat) : Int)) (fun k => ?_) ?_
      · simp only [stowageref12_Sum.l0]
        rw [if_pos (by omega), if_pos (by omega), if_pos (by omega), rd_nat, rdL_nat, w64 (x := (i : Int) + 1) (by omega) (by omega)]
        rfl
      · refine Ev.bind (rat_ev _ _ (by omega)) ?_
        rw [w64 (by omega) (by omega), ← Int.add_assoc]
        exact sum_loop ss cs hs hl hc d (i + 1) _ (by omega) (by omega) (by omega)
    · have e : sumOf (ss.drop i) (cs.drop i) = 0 := by
        rw [List.drop_of_length_le (l := ss) (by omega)]; rfl
      rw [e, Int.add_zero]
      refine Ev.step (f := fun _ => some _) (fun k => ?_) (Ev.now _)
      simp only [stowageref12_Sum.l0]
      rw [if_neg (by omega)]
theorem sum_ev (ss : List Int) (cs : List (List Int)) (hs : ss.length ≤ 9223372036854775807) (hl : cs.length ≤ 16) (hc : ∀ c ∈ cs, soundB c = true) : Ev (fun k => stowageref12_Sum.f k ss cs) (sumOf ss cs) := by
  have := sum_loop ss cs hs hl hc cs.length 0 0 (by omega) (by omega) (by omega)
  rw [List.drop_zero, List.drop_zero, Int.zero_add] at this
  exact this

/-! ### SameInts -/
theorem same_loop (a b : List Int) (hl : a.length = b.length) (hm : a.length ≤ 9223372036854775807) : ∀ (d i : Nat), i + d = a.length → Ev (fun k => stowageref01_SameInts.l0 k a b (i : Int)) (decide (a.drop i = b.drop i))
  | 0, i, hi => by
    rw [List.drop_of_length_le (by omega), List.drop_of_length_le (by omega)]
    refine Ev.step (f := fun _ => some _) (fun k => ?_) (Ev.now _)
    simp only [stowageref01_SameInts.l0]
    rw [if_neg (by omega)]
    rfl
  | d + 1, i, hi => by
    rw [drop_at a i (by omega) 0, drop_at b i (by omega) 0]
    by_cases h : a.getD i 0 = b.getD i 0
    · refine Ev.step (f := fun k => stowageref01_SameInts.l0 k a b ((i + 1 : Nat) : Int)) (fun k => ?_) ?_
      · simp only [stowageref01_SameInts.l0]
        rw [if_pos (by omega), if_pos (by omega), if_pos (by omega), rd_nat, rd_nat, if_pos h, w64 (by omega) (by omega)]
        rfl
      · have ih := same_loop a b hl hm d (i + 1) (by omega)
        rw [show decide (a.getD i 0 :: a.drop (i + 1) = b.getD i 0 :: b.drop (i + 1)) = decide (a.drop (i + 1) = b.drop (i + 1)) from decide_eq_decide.2 (by simp only [List.cons.injEq, h, true_and])]
        exact ih
    · rw [decide_eq_false (by simp only [List.cons.injEq, h, false_and, not_false_iff])]
      refine Ev.step (f := fun _ => some _) (fun k => ?_) (Ev.now _)
      simp only [stowageref01_SameInts.l0]
      rw [if_pos (by omega), if_pos (by omega), if_pos (by omega), rd_nat, rd_nat, if_neg h]
theorem same_ev (a b : List Int) (hm : a.length ≤ 9223372036854775807) : Ev (fun k => stowageref01_SameInts.f k a b) (decide (a = b)) := by
  by_cases h : a.length = b.length
  · refine Ev.congr (fun k => by unfold stowageref01_SameInts.f; rw [if_pos (by omega)]) ?_
    have := same_loop a b h hm a.length 0 (by omega)
    rw [List.drop_zero, List.drop_zero] at this
    exact this
  · refine Ev.congr (fun k => by unfold stowageref01_SameInts.f; rw [if_neg (by omega)]) ?_
    rw [decide_eq_false (fun e => h (by rw [e]))]
    exact Ev.now _

/-! ### Greedy -/
/-- The first of the first j curves (at least one) whose gain is greatest. -/
def pick (cs : List (List Int)) (out : List Int) : Nat → Nat
  | 0 => 0
  | j + 1 => if gn (cs.getD j []) (out.getD j 0) > gn (cs.getD (pick cs out j) []) (out.getD (pick cs out j) 0) then j else pick cs out j
theorem pick_lt (cs : List (List Int)) (out : List Int) (n : Nat) (hn : 0 < n) : ∀ j, j ≤ n → pick cs out j < n
  | 0, _ => hn
  | j + 1, h => by
    unfold pick
    split
    · omega
    · exact pick_lt cs out n hn j (by omega)
/-- Slot by slot. -/
def greedy (cs : List (List Int)) : List Int → Nat → List Int
  | out, 0 => out
  | out, t + 1 => greedy cs (out.set (pick cs out cs.length) (out.getD (pick cs out cs.length) 0 + 1)) t
/-- Shares that fit. -/
def Fit (out : List Int) (n : Nat) (B : Int) : Prop := out.length = n ∧ ∀ i : Nat, i < n → 0 ≤ out.getD i 0 ∧ out.getD i 0 ≤ B
theorem Fit.step {out : List Int} {n : Nat} {B : Int} (h : Fit out n B) (p : Nat) : Fit (out.set p (out.getD p 0 + 1)) n (B + 1) := by
  refine ⟨by rw [List.length_set]; exact h.1, fun i hi => ?_⟩
  have := h.2 i hi
  by_cases e : p = i
  · subst e
    rw [List.getD_eq_getElem?_getD, List.getElem?_set_self (by have := h.1; omega), Option.getD_some]
    omega
  · rw [List.getD_eq_getElem?_getD, List.getElem?_set_ne e, ← List.getD_eq_getElem?_getD]
    omega
theorem at_mono {c : List Int} (hc : soundB c = true) {s t : Int} (h : s ≤ t) : at_ c s ≤ at_ c t := by
  obtain ⟨h1, h2, h3, h4⟩ := (soundB_iff c).1 hc
  have up : ∀ d i : Nat, i + d < c.length → c.getD i 0 ≤ c.getD (i + d) 0 := by
    intro d
    induction d with
    | zero => intro i _; exact Int.le_refl _
    | succ d ih => intro i hi; have := ih i (by omega); have := h4 (i + d) (by omega); rw [← Nat.add_assoc]; omega
  unfold at_
  rw [if_neg (show ¬ c.length = 0 by omega), if_neg (show ¬ c.length = 0 by omega)]
  by_cases hs : s < 0
  · rw [if_pos hs]
    split
    · omega
    · exact (h3 _ (by omega)).1
  · rw [if_neg hs, if_neg (by omega)]
    have := up ((min t ((c.length : Int) - 1)).toNat - (min s ((c.length : Int) - 1)).toNat) (min s ((c.length : Int) - 1)).toNat (by omega)
    rwa [show (min s ((c.length : Int) - 1)).toNat + ((min t ((c.length : Int) - 1)).toNat - (min s ((c.length : Int) - 1)).toNat) = (min t ((c.length : Int) - 1)).toNat by omega] at this
theorem gn_nonneg {c : List Int} (hc : soundB c = true) (s : Int) : 0 ≤ gn c s := by
  have := at_mono hc (show s ≤ s + 1 by omega)
  unfold gn
  omega
theorem gn_le {c : List Int} (hc : soundB c = true) (s : Int) : gn c s ≤ 4503599627370496 := by
  have := at_bounds hc s
  have := at_bounds hc (s + 1)
  unfold gn
  omega

theorem greedy_l1 (cs : List (List Int)) (hl : cs.length ≤ 16) (h0 : cs.length ≠ 0) (hc : ∀ c ∈ cs, soundB c = true) (out : List Int) (B : Int) (hB : B ≤ 60000) (hf : Fit out cs.length B) (T t : Int) (r : List Int × Int)
    (next : Ev (fun k => solve_Greedy.l0 k cs (out.set (pick cs out cs.length) (out.getD (pick cs out cs.length) 0 + 1)) T (wrap64 (t + 1))) r) : ∀ (d i : Nat), i + d = cs.length →
    Ev (fun k => solve_Greedy.l1 k cs out (pick cs out i : Nat) (if i = 0 then -1 else gn (cs.getD (pick cs out i) []) (out.getD (pick cs out i) 0)) T t cs (cs.length : Int) (i : Int)) r
  | 0, i, hi => by
    obtain rfl : i = cs.length := by omega
    have hp := pick_lt cs out cs.length (by omega) cs.length (Nat.le_refl _)
    have hfp := hf.2 _ hp
    have hfl := hf.1
    refine Ev.step (fun k => ?_) next
    simp only [solve_Greedy.l1]
    rw [if_neg (by omega), if_pos (by omega), if_pos (by omega), rd_nat, w64 (x := out.getD (pick cs out cs.length) 0 + 1) (by omega) (by omega), Int.toNat_natCast]
  | d + 1, i, hi => by
    have hlt : i < cs.length := by omega
    have hci := hc _ (getD_mem cs i hlt [])
    have hlen := sound_len hci
    have hfi := hf.2 i hlt
    have hfl := hf.1
    have b1 := at_bounds hci (out.getD i 0 + 1)
    have b2 := at_bounds hci (out.getD i 0)
    have hg := gn_nonneg hci (out.getD i 0)
    have hg' : gn (cs.getD i []) (out.getD i 0) = at_ (cs.getD i []) (out.getD i 0 + 1) - at_ (cs.getD i []) (out.getD i 0) := rfl
    refine Ev.step (fun k => ?_) (greedy_l1 cs hl h0 hc out B hB hf T t r next d (i + 1) (by omega))
    simp only [solve_Greedy.l1]
    rw [if_pos (by omega), if_pos (by omega), if_pos (by omega), if_pos (by omega), rd_nat, rdL_nat, w64 (x := out.getD i 0 + 1) (by omega) (by omega), at_f _ _ (by omega), Option.bind_some, at_f _ _ (by omega), Option.bind_some, w64 (x := at_ (cs.getD i []) (out.getD i 0 + 1) - at_ (cs.getD i []) (out.getD i 0)) (by omega) (by omega), ← hg', w64 (x := (i : Int) + 1) (by omega) (by omega), if_neg (show ¬ i + 1 = 0 by omega)]
    by_cases hi0 : i = 0
    · subst hi0
      have e : pick cs out (0 + 1) = 0 := by simp [pick]
      rw [if_pos rfl, if_pos (by omega), e]
      rfl
    · rw [if_neg hi0]
      simp only [pick]
      by_cases hgt : gn (cs.getD i []) (out.getD i 0) > gn (cs.getD (pick cs out i) []) (out.getD (pick cs out i) 0)
      · rw [if_pos hgt, if_pos hgt]; rfl
      · rw [if_neg hgt, if_neg hgt]; rfl
theorem greedy_l0 (cs : List (List Int)) (hl : cs.length ≤ 16) (h0 : cs.length ≠ 0) (hc : ∀ c ∈ cs, soundB c = true) (T : Nat) (hT : T ≤ 512) : ∀ (d t : Nat) (out : List Int), t + d = T → Fit out cs.length (512 + t) →
    Ev (fun k => solve_Greedy.l0 k cs out (T : Int) (t : Int)) (greedy cs out d, 0)
  | 0, t, out, ht, hf => by
    refine Ev.step (f := fun _ => some _) (fun k => ?_) (Ev.now _)
    simp only [solve_Greedy.l0]
    rw [if_neg (by omega)]
    rfl
  | d + 1, t, out, ht, hf => by
    have ih := greedy_l0 cs hl h0 hc T hT d (t + 1) _ (by omega) (by have := hf.step (pick cs out cs.length); rw [show (512 : Int) + ((t + 1 : Nat) : Int) = 512 + (t : Int) + 1 by omega]; exact this)
    have l1 := greedy_l1 cs hl h0 hc out (512 + t) (by omega) hf (T : Int) (t : Int) (greedy cs out (d + 1), 0) (by rw [w64 (by omega) (by omega)]; exact ih) cs.length 0 (by omega)
    refine Ev.step (fun k => ?_) l1
    simp only [solve_Greedy.l0]
    rw [if_pos (by omega)]
    rfl
/-- What both greedy ones answer. -/
def greedyE (a : Int) (ls : List Int) (cs : List (List Int)) : List Int × Int := if (rightE a ls cs).2 = 0 then (greedy cs ls (rightE a ls cs).1.toNat, 0) else ([], (rightE a ls cs).2)
theorem greedy_ev (a : Int) (ls : List Int) (cs : List (List Int)) (hm : cs.length ≤ 9223372036854775807) (hc : ∀ c ∈ cs, c.length ≤ 9223372036854775807) : Ev (fun k => solve_Greedy.f k a ls cs) (greedyE a ls cs) := by
  unfold solve_Greedy.f greedyE
  refine Ev.bind (right_ev a ls cs hm hc) ?_
  by_cases he : (rightE a ls cs).2 = 0
  · obtain ⟨g1, g2, g3, g4, g5, g6, g7, g8, g9⟩ := right_good he
    rw [if_pos he]
    refine Ev.congr (f := fun k => solve_Greedy.l0 k cs ls (rightE a ls cs).1 0) (fun k => by rw [if_pos he, if_pos (by simp; omega), List.nil_append]) ?_
    have hsum : ∀ (l : List Int), (∀ x ∈ l, 0 ≤ x ∧ x ≤ a) → 0 ≤ l.sum := by
      intro l
      induction l with
      | nil => intro _; simp
      | cons x t ih => intro h; rw [List.sum_cons]; have := ih (fun y hy => h y (List.mem_cons_of_mem _ hy)); have := h x List.mem_cons_self; omega
    have h0 := hsum ls g6
    have h := greedy_l0 cs g4 g3 g7 (rightE a ls cs).1.toNat (by omega) (rightE a ls cs).1.toNat 0 ls (by omega) ⟨g5, fun i hi => by have := g6 _ (getD_mem ls i (by omega) 0); omega⟩
    rw [Int.toNat_of_nonneg (by omega)] at h
    exact h
  · rw [if_neg he]
    exact Ev.congr (fun k => by rw [if_neg he]) (Ev.now _)

theorem rgreedy_l1 (cs : List (List Int)) (hl : cs.length ≤ 16) (h0 : cs.length ≠ 0) (hc : ∀ c ∈ cs, soundB c = true) (out : List Int) (B : Int) (hB : B ≤ 60000) (hf : Fit out cs.length B) (t : Int) (r : List Int)
    (next : Ev (fun k => stowageref12_Greedy.l0 k cs (out.set (pick cs out cs.length) (out.getD (pick cs out cs.length) 0 + 1)) (wrap64 (t - 1))) r) : ∀ (d i : Nat), i + d = cs.length → 0 < i →
    Ev (fun k => stowageref12_Greedy.l1 k cs out t (pick cs out i : Nat) (i : Int)) r
  | 0, i, hi, hi0 => by
    obtain rfl : i = cs.length := by omega
    have hp := pick_lt cs out cs.length (by omega) cs.length (Nat.le_refl _)
    have hfp := hf.2 _ hp
    have hfl := hf.1
    refine Ev.step (fun k => ?_) next
    simp only [stowageref12_Greedy.l1]
    rw [if_neg (by omega), if_pos (by omega), if_pos (by omega), rd_nat, w64 (x := out.getD (pick cs out cs.length) 0 + 1) (by omega) (by omega), Int.toNat_natCast]
  | d + 1, i, hi, hi0 => by
    have hlt : i < cs.length := by omega
    have hp := pick_lt cs out cs.length (by omega) i (by omega)
    have hfi := hf.2 i hlt
    have hfp := hf.2 _ hp
    have hfl := hf.1
    have ih := rgreedy_l1 cs hl h0 hc out B hB hf t r next d (i + 1) (by omega) (by omega)
    refine Ev.step (f := fun k => (stowageref12_gain.f k (cs.getD i []) (out.getD i 0)).bind fun t145 => (stowageref12_gain.f k (cs.getD (pick cs out i) []) (out.getD (pick cs out i) 0)).bind fun t148 => if t145 > t148 then stowageref12_Greedy.l1 k cs out t (i : Int) ((i + 1 : Nat) : Int) else stowageref12_Greedy.l1 k cs out t (pick cs out i : Nat) ((i + 1 : Nat) : Int)) (fun k => ?_) ?_
    · simp only [stowageref12_Greedy.l1]
      rw [if_pos (by omega), if_pos (by omega), if_pos (by omega), rd_nat, rdL_nat, w64 (x := (i : Int) + 1) (by omega) (by omega)]
      congr 1
      funext t145
      rw [if_pos (by omega), if_pos (by omega), if_pos (by omega), rd_nat, rdL_nat]
      rfl
    · refine Ev.bind (gain_ev _ _ (hc _ (getD_mem cs i hlt [])) (by omega) (by omega)) (Ev.bind (gain_ev _ _ (hc _ (getD_mem cs _ hp [])) (by omega) (by omega)) ?_)
      simp only [pick] at ih
      by_cases hgt : gn (cs.getD i []) (out.getD i 0) > gn (cs.getD (pick cs out i) []) (out.getD (pick cs out i) 0)
      · rw [if_pos hgt] at ih; exact Ev.congr (fun k => by rw [if_pos hgt]) ih
      · rw [if_neg hgt] at ih; exact Ev.congr (fun k => by rw [if_neg hgt]) ih
theorem rgreedy_l0 (cs : List (List Int)) (hl : cs.length ≤ 16) (h0 : cs.length ≠ 0) (hc : ∀ c ∈ cs, soundB c = true) : ∀ (d : Nat) (out : List Int) (B : Nat), B + d ≤ 60000 → Fit out cs.length B →
    Ev (fun k => stowageref12_Greedy.l0 k cs out (d : Int)) (greedy cs out d)
  | 0, out, B, hB, hf => by
    refine Ev.step (f := fun _ => some _) (fun k => ?_) (Ev.now _)
    simp only [stowageref12_Greedy.l0]
    rw [if_neg (by omega)]
    rfl
  | d + 1, out, B, hB, hf => by
    have ih := rgreedy_l0 cs hl h0 hc d _ (B + 1) (by omega) (by have := hf.step (pick cs out cs.length); exact_mod_cast this)
    have e1 : pick cs out 1 = 0 := by simp [pick]
    have l1 := rgreedy_l1 cs hl h0 hc out B (by omega) hf ((d + 1 : Nat) : Int) (greedy cs out (d + 1)) (by rw [w64 (by omega) (by omega), show ((d + 1 : Nat) : Int) - 1 = (d : Int) by omega]; exact ih) (cs.length - 1) 1 (by omega) (by omega)
    rw [e1] at l1
    refine Ev.step (fun k => ?_) l1
    simp only [stowageref12_Greedy.l0]
    rw [if_pos (by omega)]
    rfl
theorem all_loop (ls : List Int) (a : Int) (ha : a ≤ 512) (hl : ls.length ≤ 16) (h : ∀ x ∈ ls, 0 ≤ x ∧ x ≤ a) : ∀ (d i : Nat) (x : Int), i + d = ls.length → 0 ≤ x → x ≤ 512 * (i : Int) → Ev (fun k => stowageref12_all.l0 k ls x (i : Int)) (x + (ls.drop i).sum)
  | 0, i, x, hi, h0, h1 => by
    rw [List.drop_of_length_le (by omega), List.sum_nil, Int.add_zero]
    refine Ev.step (f := fun _ => some _) (fun k => ?_) (Ev.now _)
    simp only [stowageref12_all.l0]
    rw [if_neg (by omega)]
  | d + 1, i, x, hi, h0, h1 => by
    have hx := h _ (getD_mem ls i (by omega) 0)
    rw [drop_at ls i (by omega) 0, List.sum_cons, ← Int.add_assoc]
    refine Ev.step (fun k => ?_) (all_loop ls a ha hl h d (i + 1) (x + ls.getD i 0) (by omega) (by omega) (by omega))
    simp only [stowageref12_all.l0]
    rw [if_pos (by omega), if_pos (by omega), rd_nat, w64 (x := x + ls.getD i 0) (by omega) (by omega), w64 (x := (i : Int) + 1) (by omega) (by omega)]
    rfl
theorem all_ev (ls : List Int) (a : Int) (ha : a ≤ 512) (hl : ls.length ≤ 16) (h : ∀ x ∈ ls, 0 ≤ x ∧ x ≤ a) : Ev (fun k => stowageref12_all.f k ls) ls.sum := by
  have := all_loop ls a ha hl h ls.length 0 0 (by omega) (by omega) (by omega)
  rw [List.drop_zero, Int.zero_add] at this
  exact this
theorem rgreedy_ev (a : Int) (ls : List Int) (cs : List (List Int)) (he : (rightE a ls cs).2 = 0) : Ev (fun k => stowageref12_Greedy.f k a ls cs) (greedy cs ls (rightE a ls cs).1.toNat) := by
  obtain ⟨g1, g2, g3, g4, g5, g6, g7, g8, g9⟩ := right_good he
  have e : ∀ k, stowageref12_Greedy.f k a ls cs = (stowageref12_all.f k ls).bind fun t140 => stowageref12_Greedy.l0 k cs ls (wrap64 (a - t140)) := fun k => by
    unfold stowageref12_Greedy.f
    rw [Option.bind_some, if_pos (by simp; omega), List.nil_append]
  have hsum : ∀ (l : List Int), (∀ x ∈ l, 0 ≤ x ∧ x ≤ a) → 0 ≤ l.sum := by
    intro l
    induction l with
    | nil => intro _; simp
    | cons x t ih => intro h; rw [List.sum_cons]; have := ih (fun y hy => h y (List.mem_cons_of_mem _ hy)); have := h x List.mem_cons_self; omega
  have h0 := hsum ls g6
  refine Ev.congr e (Ev.bind (all_ev ls a g2 (by omega) g6) ?_)
  rw [w64 (by omega) (by omega), ← g8]
  have h := rgreedy_l0 cs g4 g3 g7 (rightE a ls cs).1.toNat ls 512 (by omega) ⟨g5, fun i hi => by have := g6 _ (getD_mem ls i (by omega) 0); omega⟩
  rw [Int.toNat_of_nonneg (by omega)] at h
  exact h
theorem greedy_length (cs : List (List Int)) : ∀ (t : Nat) (out : List Int), (greedy cs out t).length = out.length
  | 0, out => rfl
  | t + 1, out => by rw [greedy, greedy_length cs t, List.length_set]

end Go.Proofs.Ytmkeffpgofjlnaa.SF
