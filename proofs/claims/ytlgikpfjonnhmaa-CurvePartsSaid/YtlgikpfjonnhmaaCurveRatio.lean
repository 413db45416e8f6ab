/- The part of references that a size would miss, as the program and as the reference give it: one word, of the hits and the references. -/
import Derived.Test.YtlgikpfjonnhmaaQcurveAt
import Derived.Test.YtlgikpfjonnhmaaQstowageref11At
import Derived.Test.YtlgikpfjonnhmaaCurveFns
import Derived.Test.YtlgikpfjonnhmaaFloatQuot
import Derived.WalkLawsBesides
import Derived.Laws.Externs
import Derived.Lib.Hide
import Derived.Outline
namespace Go.Proofs.Ytlgikpfjonnhmaa.CR
open Go.RowKit Go.Proofs.Ytlgikpfjonnhmaa.CP Go.Proofs.Ytlgikpfjonnhmaa.Q Go.Proofs.YtlgikpfjonnhmaaW.PrintWords Go.Proofs.YtlgikpfjonnhmaaW.PrintLast Go.Proofs.YtlgikpfjonnhmaaW.PrintMore Go.Proofs.Ytlgikpfjonnhmaa.FP

theorem run_bits (b : Nat) (w : World) : (callFunc 22 #[.float .f64 b]).run Try.prog w = .ok (.value (.int .u64 b)) w := by
  rw [run_callFunc_extern (fn := Try.f22) (e := Extern.MathFloatBits.float64bits) Try.func22 (by decide) (by rfl) (by rfl) (by rfl)]
  rfl
theorem run_from (n : Int) (w : World) : (callFunc 20 #[.int .u64 n]).run Try.prog w = .ok (.value (.float .f64 n.toNat)) w := by
  rw [run_callFunc_extern (fn := Try.f20) (e := Extern.MathFloatBits.float64frombits) Try.func20 (by decide) (by rfl) (by rfl) (by rfl)]
  rfl
theorem NaN_calls (w : World) : Calls Try.prog 28 #[] w fun e w' => e = .returned (.float .f64 9221120237041090561) ∧ w' = w := by
  have h := run_from
  go_enter Try.func28, Try.ntmps28
  go_wp2
  go_ret
  exact ⟨rfl, rfl⟩

/-- How many hits a size brings. -/
def hits (l : List Int) (s : Int) : Int := if l.length = 0 then 0 else if s < 0 then 0 else rd l (min s ((l.length : Int) - 1))
theorem at_f (l : List Int) (s : Int) (hm : l.length ≤ 9223372036854775807) : curve_At.f l s = some (hits l s) := by
  unfold curve_At.f hits mn
  by_cases h1 : l.length = 0
  · rw [if_pos (by omega), if_pos h1]
  · rw [if_neg (by omega), if_neg h1, w64 (by omega) (by omega)]
    by_cases h2 : s < 0
    · rw [if_pos h2, if_pos h2]
    · rw [if_neg h2, if_neg h2]
      have e : (if (l.length : Int) - 1 < s then (l.length : Int) - 1 else s) = min s ((l.length : Int) - 1) := by
        by_cases h3 : (l.length : Int) - 1 < s
        · rw [if_pos h3]; omega
        · rw [if_neg h3]; omega
      rw [e, if_pos (by omega), if_pos (by omega)]
theorem refat_f (l : List Int) (s : Int) (hm : l.length ≤ 9223372036854775807) : stowageref11_At.f 3 l s = some (hits l s) := by
  unfold stowageref11_At.f hits
  by_cases h1 : l.length = 0
  · rw [if_pos (by omega), if_pos h1, stowageref11_At.j0, if_pos rfl]
  · rw [if_neg (by omega), if_neg h1]
    by_cases h2 : s < 0
    · rw [decide_eq_true h2, stowageref11_At.j0, if_pos rfl, if_pos h2]
    · rw [decide_eq_false h2, stowageref11_At.j0, if_neg (by simp), if_neg h2, w64 (by omega) (by omega)]
      by_cases h3 : s ≥ (l.length : Int)
      · rw [if_pos h3, if_pos (by omega), if_pos (by omega), show min s ((l.length : Int) - 1) = (l.length : Int) - 1 by omega]
      · rw [if_neg h3, if_pos (by omega), if_pos (by omega), show min s ((l.length : Int) - 1) = s by omega]

/-- The part that is missed, as a word. -/
def missed (h refs : Int) : Nat :=
  if refs ≤ 0 then 9221120237041090561 else if h ≥ refs then 0 else if h ≤ 0 then 4607182418800017408 else (Ieee.double.div (nw (refs - h).toNat) (nw refs.toNat)).getD 0

theorem missed_div (h refs : Int) (h0 : 0 < h) (h1 : h < refs) (h2 : refs ≤ 9223372036854775807) : floatBits .quo .f64 (floatOfInt .f64 (refs - h)) (floatOfInt .f64 refs) = some (missed h refs) := by
  obtain ⟨m, hm⟩ := Int.eq_ofNat_of_zero_le (show 0 ≤ refs - h by omega)
  obtain ⟨n, hn⟩ := Int.eq_ofNat_of_zero_le (show 0 ≤ refs by omega)
  obtain ⟨d, hd, _⟩ := FP.part m n (by omega) (by omega) (by omega)
  unfold missed
  rw [if_neg (by omega), if_neg (by omega), if_neg (by omega), hm, hn, of_nat, of_nat, Int.toNat_natCast, Int.toNat_natCast, hd]
  exact hd

theorem at_read (A : Option Addr) (c : Nat) (l : List Int) (s : Int) (w : World) (hr : Kd.C (Kd.int .i64) w A l.length l) (hc : l.length ≤ c) (hm : l.length ≤ 9223372036854775807) :
    Calls Try.prog 18 #[.slice A l.length c, .int .i64 s] w fun e w' => e = .returned (.int .i64 (hits l s)) ∧ Below w.heap.size w w' :=
  curve_At.calls A c l s _ w hr hc (at_f l s hm)
theorem refat_read (A : Option Addr) (c : Nat) (l : List Int) (s : Int) (w : World) (hr : Kd.C (Kd.int .i64) w A l.length l) (hc : l.length ≤ c) (hm : l.length ≤ 9223372036854775807) :
    Calls Try.prog 23 #[.slice A l.length c, .int .i64 s] w fun e w' => e = .returned (.int .i64 (hits l s)) ∧ Below w.heap.size w w' :=
  (stowageref11_At.calls 3 A c l s _ w hr hc (refat_f l s hm)).mono fun _ _ h => ⟨h.1, h.2.below⟩

theorem ratio_calls (A : Option Addr) (c : Nat) (l : List Int) (s refs : Int) (w : World) (hr : Kd.C (Kd.int .i64) w A l.length l) (hc : l.length ≤ c) (hm : l.length ≤ 9223372036854775807) (hb : refs ≤ 9223372036854775807) :
    Calls Try.prog 19 #[.slice A l.length c, .int .i64 s, .int .i64 refs] w fun e w' => e = .returned (.float .f64 (missed (hits l s) refs)) ∧ Below w.heap.size w w' := by
  have HA := Lib.hid (at_read A c l s w hr hc hm)
  clear hr hc hm
  generalize hits l s = h at *
  by_cases c1 : refs ≤ 0
  · have e : missed h refs = 9221120237041090561 := by unfold missed; rw [if_pos c1]
    rw [e]
    clear e
    go_enter Try.func19, Try.ntmps19
    go_wp2_with fail
    refine HA.out.mono ?_
    rintro e w1 ⟨rfl, hb1⟩
    have HB1 := Lib.hid hb1
    clear hb1
    go_wp2_with fail
    refine (NaN_calls _).mono ?_
    rintro e w2 ⟨rfl, rfl⟩
    go_wp2_with fail
    go_ret
    exact ⟨rfl, HB1.out⟩
  · by_cases c2 : h ≥ refs
    · have e : missed h refs = 0 := by unfold missed; rw [if_neg c1, if_pos c2]
      rw [e]
      clear e
      go_enter Try.func19, Try.ntmps19
      go_wp2_with fail
      refine HA.out.mono ?_
      rintro e w1 ⟨rfl, hb1⟩
      have HB1 := Lib.hid hb1
      clear hb1
      go_wp2_with fail
      go_ret
      exact ⟨rfl, HB1.out⟩
    · by_cases c3 : h ≤ 0
      · have e : missed h refs = 4607182418800017408 := by unfold missed; rw [if_neg c1, if_neg c2, if_pos c3]
        rw [e]
        clear e
        go_enter Try.func19, Try.ntmps19
        go_wp2_with fail
        refine HA.out.mono ?_
        rintro e w1 ⟨rfl, hb1⟩
        have HB1 := Lib.hid hb1
        clear hb1
        go_wp2_with fail
        go_ret
        exact ⟨rfl, HB1.out⟩
      · have hd := missed_div h refs (by omega) (by omega) hb
        have hrun := fun w t => run_float_arith (P := Try.prog) w .quo t .f64 _ _ _ hd
        have hw : wrap64 (refs - h) = refs - h := w64 (by omega) (by omega)
        clear hd
        generalize missed h refs = d at *
        go_enter Try.func19, Try.ntmps19
        go_wp2_with fail
        refine HA.out.mono ?_
        rintro e w1 ⟨rfl, hb1⟩
        have HB1 := Lib.hid hb1
        clear hb1
        go_wp2_with fail
        go_ret
        exact ⟨rfl, HB1.out⟩

theorem refratio_calls (A : Option Addr) (c : Nat) (l : List Int) (s refs : Int) (w : World) (hr : Kd.C (Kd.int .i64) w A l.length l) (hc : l.length ≤ c) (hm : l.length ≤ 9223372036854775807) (hb : refs ≤ 9223372036854775807) :
    Calls Try.prog 21 #[.slice A l.length c, .int .i64 s, .int .i64 refs] w fun e w' => e = .returned (.int .u64 (missed (hits l s) refs : Nat)) ∧ Below w.heap.size w w' := by
  have HA := Lib.hid (refat_read A c l s w hr hc hm)
  have hbits := run_bits
  clear hr hc hm
  generalize hits l s = h at *
  by_cases c1 : refs ≤ 0
  · have e : missed h refs = 9221120237041090561 := by unfold missed; rw [if_pos c1]
    rw [e]
    clear e
    go_enter Try.func21, Try.ntmps21
    go_wp2_with fail
    refine HA.out.mono ?_
    rintro e w1 ⟨rfl, hb1⟩
    have HB1 := Lib.hid hb1
    clear hb1
    go_wp2_with fail
    refine (NaN_calls _).mono ?_
    rintro e w2 ⟨rfl, rfl⟩
    go_wp2_with fail
    go_ret
    exact ⟨rfl, HB1.out⟩
  · by_cases c2 : h ≥ refs
    · have e : missed h refs = 0 := by unfold missed; rw [if_neg c1, if_pos c2]
      rw [e]
      clear e
      go_enter Try.func21, Try.ntmps21
      go_wp2_with fail
      refine HA.out.mono ?_
      rintro e w1 ⟨rfl, hb1⟩
      have HB1 := Lib.hid hb1
      clear hb1
      go_wp2_with fail
      go_ret
      exact ⟨rfl, HB1.out⟩
    · by_cases c3 : h ≤ 0
      · have e : missed h refs = 4607182418800017408 := by unfold missed; rw [if_neg c1, if_neg c2, if_pos c3]
        rw [e]
        clear e
        go_enter Try.func21, Try.ntmps21
        go_wp2_with fail
        refine HA.out.mono ?_
        rintro e w1 ⟨rfl, hb1⟩
        have HB1 := Lib.hid hb1
        clear hb1
        go_wp2_with fail
        go_ret
        exact ⟨rfl, HB1.out⟩
      · have hd := missed_div h refs (by omega) (by omega) hb
        have hrun := fun w t => run_float_arith (P := Try.prog) w .quo t .f64 _ _ _ hd
        have hw : wrap64 (refs - h) = refs - h := w64 (by omega) (by omega)
        clear hd
        generalize missed h refs = d at *
        go_enter Try.func21, Try.ntmps21
        go_wp2_with fail
        refine HA.out.mono ?_
        rintro e w1 ⟨rfl, hb1⟩
        have HB1 := Lib.hid hb1
        clear hb1
        go_wp2_with fail
        go_ret
        exact ⟨rfl, HB1.out⟩

set_option maxHeartbeats 1000000 in
theorem tells_calls (A : Option Addr) (c : Nat) (l : List Int) (s refs : Int) (w : World) (hr : Kd.C (Kd.int .i64) w A l.length l) (hc : l.length ≤ c) (hm : l.length ≤ 9223372036854775807) (hb : refs ≤ 9223372036854775807) :
    Calls Try.prog 8 #[.slice A l.length c, .int .i64 s, .int .i64 refs] w fun e w' => e = .returned (.bool true) ∧ Below w.heap.size w w' := by
  have HR := Lib.hid hr
  have HC := Lib.hid hc
  have H1 := Lib.hid (fun w' (h : Kd.C (Kd.int .i64) w' A l.length l) => ratio_calls A c l s refs w' h hc hm hb)
  have H2 := Lib.hid (fun w' (h : Kd.C (Kd.int .i64) w' A l.length l) => refratio_calls A c l s refs w' h hc hm hb)
  have H3 := Lib.hid (fun w' (h : Kd.C (Kd.int .i64) w' A l.length l) => at_read A c l s w' h hc hm)
  have H4 := Lib.hid (fun w' (h : Kd.C (Kd.int .i64) w' A l.length l) => refat_read A c l s w' h hc hm)
  have hbits := run_bits
  have hfrom := run_from
  clear hr hc hm hb
  generalize missed (hits l s) refs = d at *
  generalize hits l s = h at *
  go_enter Try.func8, Try.ntmps8
  go_wp2_with fail
  refine (H1.out _ HR.out).mono ?_
  rintro e w1 ⟨rfl, hb1⟩
  have HB1 := Lib.hid hb1
  have HR1 := Lib.hid (Kd.C_below HR.out hb1)
  clear hb1
  go_wp2_with fail
  refine (H2.out _ HR1.out).mono ?_
  rintro e w2 ⟨rfl, hb2⟩
  have HB2 := Lib.hid hb2
  have HR2 := Lib.hid (Kd.C_below HR1.out hb2)
  clear hb2
  go_wp2_with fail
  refine (stowagelaw11_awake.calls 30 true _ FQ.awake_f).mono ?_
  rintro e w3 ⟨rfl, hb3⟩
  have HB3 := Lib.hid hb3
  have HR3 := Lib.hid (Kd.C_below HR2.out hb3)
  clear hb3
  go_wp2_with fail
  refine (H3.out _ HR3.out).mono ?_
  rintro e w4 ⟨rfl, hb4⟩
  have HB4 := Lib.hid hb4
  have HR4 := Lib.hid (Kd.C_below HR3.out hb4)
  clear hb4
  go_wp2_with fail
  refine (H4.out _ HR4.out).mono ?_
  rintro e w5 ⟨rfl, hb5⟩
  have HB5 := Lib.hid hb5
  clear hb5
  go_wp2_with fail
  go_ret
  have t2 := HB1.out.trans (HB2.out.mono HB1.out.size)
  have t3 := t2.trans (HB3.out.mono t2.size)
  have t4 := t3.trans (HB4.out.mono t3.size)
  exact ⟨rfl, t4.trans (HB5.out.mono t4.size)⟩

end Go.Proofs.Ytlgikpfjonnhmaa.CR
