/- A part that is missed is a number from 0 to 1 and no more for a greater size: the walk of the law CurveParts, and the plain facts of it. -/
import Derived.Test.YtlgikpfjonnhmaaCurveRatio
import Derived.Test.YtlgikpfjonnhmaaQcurveOf
namespace Go.Proofs.Ytlgikpfjonnhmaa.CR
open Go.RowKit Go.Proofs.Ytlgikpfjonnhmaa.CP Go.Proofs.Ytlgikpfjonnhmaa.Q Go.Proofs.YtlgikpfjonnhmaaW.PrintWords Go.Proofs.YtlgikpfjonnhmaaW.PrintLast Go.Proofs.YtlgikpfjonnhmaaW.PrintMore Go.Proofs.Ytlgikpfjonnhmaa.FP Go.Proofs.Ytlgikpfjonnhmaa.FQ

theorem copysign_calls (w : World) : Calls Try.prog 24 #[.float .f64 0, .float .f64 13830554455654793216] w fun e w' => e = .returned (.float .f64 9223372036854775808) ∧ w' = w := by
  have h1 := run_bits
  have h2 := run_from
  have g1 : Go.bits .andNot .u64 ((0 : Nat) : Int) 9223372036854775808 = 0 := by decide +kernel
  have g2 : Go.bits .and .u64 ((13830554455654793216 : Nat) : Int) 9223372036854775808 = 9223372036854775808 := by decide +kernel
  have g3 : Go.bits .or .u64 0 9223372036854775808 = 9223372036854775808 := by decide +kernel
  go_enter Try.func24, Try.ntmps24
  go_wp2
  go_ret
  exact ⟨rfl, rfl⟩

theorem missed_le (h refs : Int) (h2 : 0 < refs) (hb : refs ≤ 9223372036854775807) : missed h refs ≤ 4607182418800017408 := by
  unfold missed
  rw [if_neg (by omega)]
  by_cases c2 : h ≥ refs
  · rw [if_pos c2]; omega
  · rw [if_neg c2]
    by_cases c3 : h ≤ 0
    · rw [if_pos c3]; omega
    · rw [if_neg c3]
      obtain ⟨d, hd, hl, _⟩ := FP.part (refs - h).toNat refs.toNat (by omega) (by omega) (by omega)
      rw [hd]; exact hl
theorem missed_mono (h1 h2 refs : Int) (h : h1 ≤ h2) (h0 : 0 < refs) (hb : refs ≤ 9223372036854775807) : missed h2 refs ≤ missed h1 refs := by
  by_cases c1 : h1 ≤ 0
  · by_cases c2 : h1 ≥ refs
    · omega
    · have e : missed h1 refs = 4607182418800017408 := by unfold missed; rw [if_neg (by omega), if_neg c2, if_pos c1]
      rw [e]
      exact missed_le h2 refs h0 hb
  · by_cases c2 : h2 ≥ refs
    · have e : missed h2 refs = 0 := by unfold missed; rw [if_neg (by omega), if_pos c2]
      rw [e]; exact Nat.zero_le _
    · obtain ⟨d1, g1, _, _⟩ := FP.part (refs - h1).toNat refs.toNat (by omega) (by omega) (by omega)
      obtain ⟨d2, g2, _, _⟩ := FP.part (refs - h2).toNat refs.toNat (by omega) (by omega) (by omega)
      unfold missed
      rw [if_neg (by omega), if_neg (by omega), if_neg (by omega), if_neg (by omega), if_neg (by omega), if_neg (by omega), g1, g2]
      exact part_mono (by omega) (by omega) (by omega) (by omega) g2 g1

theorem hits_mono (l : List Int) (hl : SoundP l) (x y : Int) (h0 : 0 ≤ x) (h : x ≤ y) : hits l x ≤ hits l y := by
  have := hl.1
  unfold hits
  rw [if_neg (by omega), if_neg (by omega), if_neg (by omega), if_neg (by omega)]
  exact (sound_le hl (by omega) (by omega) (by omega)).2.1

theorem ge_zero (p : Nat) (h : p ≤ 9218868437227405312) : (FloatKind.f64.format.order p 0 == some .gt || FloatKind.f64.format.order p 0 == some .eq) = true := by
  have e : FloatKind.f64.format.order p 0 = some (compare p 0) := order_pos h (by omega)
  rw [e]
  rcases Nat.eq_zero_or_pos p with h1 | h1
  · subst h1; rfl
  · rw [Nat.compare_eq_gt.2 h1]; rfl
theorem le_word (p q : Nat) (h : p ≤ q) (hq : q ≤ 9218868437227405312) : (FloatKind.f64.format.order p q == some .lt || FloatKind.f64.format.order p q == some .eq) = true := by
  have e : FloatKind.f64.format.order p q = some (compare p q) := order_pos (by omega) hq
  rw [e]
  rcases Nat.lt_or_ge p q with h1 | h1
  · rw [Nat.compare_eq_lt.2 h1]; rfl
  · obtain rfl : p = q := by omega
    rw [Nat.compare_eq_eq.2 rfl]; rfl

theorem of_read (k : Nat) (A0 : Option Addr) (c0 : Nat) (l0 : List Int) (r1 : List Int) (r2 : Int) (w : World) (hr0 : Kd.C (Kd.int .i64) w A0 l0.length l0) (hc0 : l0.length ≤ c0) (h : curve_Of.f k l0 3 = some (r1, r2)) :
    Calls Try.prog 10 #[.slice A0 l0.length c0, .int .i64 3] w fun e w' => ∃ (A : Option Addr) (c : Nat), e = .returned (.tuple #[.slice A r1.length c, .int .i64 r2]) ∧ r1.length ≤ c ∧ Kd.C (Kd.int .i64) w' A r1.length r1 ∧ Below w.heap.size w w' :=
  (curve_Of.calls k A0 c0 l0 3 r1 r2 w hr0 hc0 h).mono fun e w' ⟨v, he, hR, hb⟩ => by
    obtain ⟨A, c, hv, hl, hC⟩ := Kd.R_reads hR
    exact ⟨A, c, by rw [he, hv], hl, hC, hb⟩

set_option maxHeartbeats 1000000 in
/-- Where the histogram or the references are none. -/
theorem parts_none (A : Option Addr) (c : Nat) (l : List Int) (a b refs : Int) (w : World) (hr : Kd.C (Kd.int .i64) w A l.length l) (hc : l.length ≤ c) (k : Nat) (r : List Int) (r2 : Int) (hof : curve_Of.f k l 3 = some (r, r2)) (hbad : r2 ≠ 0 ∨ (r2 = 0 ∧ refs ≤ 0)) :
    Calls Try.prog 9 #[.slice A l.length c, .int .u16 a, .int .u16 b, .int .i64 refs] w fun e w' => e = .returned (.bool true) ∧ Below w.heap.size w w' := by
  have HO := Lib.hid (of_read k A c l r r2 w hr hc hof)
  clear hr hc hof
  rcases hbad with hb | ⟨hb, hb2⟩
  · have hb1 : (r2 != 0) = true := bne_iff_ne.2 hb
    have hb2 : (r2 == 0) = false := beq_eq_false_iff_ne.2 hb
    clear hb
    go_enter Try.func9, Try.ntmps9
    go_wp2_with fail
    refine HO.out.mono ?_
    rintro e w1 ⟨A1, c1, rfl, hc1, hC1, hb1⟩
    have HB1 := Lib.hid hb1
    clear hb1 hC1 hc1
    go_wp2_with fail
    refine (stowagelaw11_awake.calls 30 true _ FQ.awake_f).mono ?_
    rintro e w3 ⟨rfl, hb3⟩
    have HB3 := Lib.hid hb3
    clear hb3
    go_wp2_with fail
    refine (stowagelaw11_awake.calls 30 true _ FQ.awake_f).mono ?_
    rintro e w4 ⟨rfl, hb4⟩
    have HB4 := Lib.hid hb4
    clear hb4
    go_wp2_with fail
    go_ret
    have t2 := HB1.out.trans (HB3.out.mono HB1.out.size)
    exact ⟨rfl, t2.trans (HB4.out.mono t2.size)⟩
  · subst hb
    go_enter Try.func9, Try.ntmps9
    go_wp2_with fail
    refine HO.out.mono ?_
    rintro e w1 ⟨A1, c1, rfl, hc1, hC1, hb1⟩
    have HB1 := Lib.hid hb1
    clear hb1 hC1 hc1
    go_wp2_with fail
    refine (stowagelaw11_awake.calls 30 true _ FQ.awake_f).mono ?_
    rintro e w3 ⟨rfl, hb3⟩
    have HB3 := Lib.hid hb3
    clear hb3
    go_wp2_with fail
    refine (stowagelaw11_awake.calls 30 true _ FQ.awake_f).mono ?_
    rintro e w4 ⟨rfl, hb4⟩
    have HB4 := Lib.hid hb4
    clear hb4
    go_wp2_with fail
    go_ret
    have t2 := HB1.out.trans (HB3.out.mono HB1.out.size)
    exact ⟨rfl, t2.trans (HB4.out.mono t2.size)⟩

set_option maxHeartbeats 2000000 in
/-- Where both are. -/
theorem parts_some (A : Option Addr) (c : Nat) (l : List Int) (a b refs : Int) (w : World) (hr : Kd.C (Kd.int .i64) w A l.length l) (hc : l.length ≤ c) (k : Nat) (r : List Int) (hof : curve_Of.f k l 3 = some (r, 0)) (hs : SoundP r) (h0 : 0 < refs) (hb : refs ≤ 9223372036854775807) (ha0 : 0 ≤ a) (ha1 : a ≤ 65535) (hb0 : 0 ≤ b) (hb1 : b ≤ 65535) :
    Calls Try.prog 9 #[.slice A l.length c, .int .u16 a, .int .u16 b, .int .i64 refs] w fun e w' => e = .returned (.bool true) ∧ Below w.heap.size w w' := by
  have HO := Lib.hid (of_read k A c l r 0 w hr hc hof)
  have hrl : r.length ≤ 9223372036854775807 := by have := hs.2.1; omega
  have HRA := Lib.hid (fun s c' A' w' h1 h2 => ratio_calls A' c' r s refs w' h1 h2 hrl hb)
  have hma := hits_mono r hs a b ha0
  have hmb := hits_mono r hs b a hb0
  have hbits := run_bits
  have hwa : wrap64 a = a := w64 (by omega) (by omega)
  have hwb : wrap64 b = b := w64 (by omega) (by omega)
  clear hr hc hof
  by_cases hab : a > b
  · have hle := missed_mono _ _ refs (hmb (by omega)) h0 hb
    have hl1 := missed_le (hits r b) refs h0 hb
    have f1 := ge_zero (missed (hits r b) refs) (by omega)
    have f2 := le_word (missed (hits r b) refs) 4607182418800017408 hl1 (by omega)
    have f3 := ge_zero (missed (hits r a) refs) (by omega)
    have f4 := le_word _ _ hle (by omega)
    have f5 : (((missed (hits r a) refs : Nat) : Int) == 9223372036854775808) = false := beq_eq_false_iff_ne.2 (by omega)
    have f6 : (((missed (hits r a) refs : Nat) : Int) != 9223372036854775808) = true := bne_iff_ne.2 (by omega)
    have HX := Lib.hid (HRA.out b)
    have HY := Lib.hid (HRA.out a)
    have hab2 : decide (a > b) = true := decide_eq_true hab
    clear hma hmb hl1 hle hs hrl HRA
    generalize missed (hits r a) refs = q at *
    generalize missed (hits r b) refs = p at *
    go_enter Try.func9, Try.ntmps9
    go_wp2_with fail
    refine HO.out.mono ?_
    rintro e w1 ⟨A1, c1, rfl, hc1, hC1, hb1⟩
    have HB1 := Lib.hid hb1
    have HR1 := Lib.hid hC1
    have HC1 := Lib.hid hc1
    clear hb1 hC1 hc1
    go_wp2_with fail
    refine (stowagelaw11_awake.calls 30 true _ FQ.awake_f).mono ?_
    rintro e w3 ⟨rfl, hb3⟩
    have HB3 := Lib.hid hb3
    have HR3 := Lib.hid (Kd.C_below HR1.out hb3)
    clear hb3
    go_wp2_with fail
    refine (HX.out _ _ _ HR3.out HC1.out).mono ?_
    rintro e w4 ⟨rfl, hb4⟩
    have HB4 := Lib.hid hb4
    have HR4 := Lib.hid (Kd.C_below HR3.out hb4)
    clear hb4
    go_wp2_with fail
    refine (HY.out _ _ _ HR4.out HC1.out).mono ?_
    rintro e w5 ⟨rfl, hb5⟩
    have HB5 := Lib.hid hb5
    clear hb5
    go_wp2_with fail
    refine (copysign_calls _).mono ?_
    rintro e w6 ⟨rfl, rfl⟩
    go_wp2_with fail
    go_ret
    have t2 := HB1.out.trans (HB3.out.mono HB1.out.size)
    have t3 := t2.trans (HB4.out.mono t2.size)
    exact ⟨rfl, t3.trans (HB5.out.mono t3.size)⟩
  · have hle := missed_mono _ _ refs (hma (by omega)) h0 hb
    have hl1 := missed_le (hits r a) refs h0 hb
    have f1 := ge_zero (missed (hits r a) refs) (by omega)
    have f2 := le_word (missed (hits r a) refs) 4607182418800017408 hl1 (by omega)
    have f3 := ge_zero (missed (hits r b) refs) (by omega)
    have f4 := le_word _ _ hle (by omega)
    have f5 : (((missed (hits r b) refs : Nat) : Int) == 9223372036854775808) = false := beq_eq_false_iff_ne.2 (by omega)
    have f6 : (((missed (hits r b) refs : Nat) : Int) != 9223372036854775808) = true := bne_iff_ne.2 (by omega)
    have HX := Lib.hid (HRA.out a)
    have HY := Lib.hid (HRA.out b)
    have hab2 : decide (a > b) = false := decide_eq_false hab
    clear hma hmb hl1 hle hs hrl HRA
    generalize missed (hits r b) refs = q at *
    generalize missed (hits r a) refs = p at *
    go_enter Try.func9, Try.ntmps9
    go_wp2_with fail
    refine HO.out.mono ?_
    rintro e w1 ⟨A1, c1, rfl, hc1, hC1, hb1⟩
    have HB1 := Lib.hid hb1
    have HR1 := Lib.hid hC1
    have HC1 := Lib.hid hc1
    clear hb1 hC1 hc1
    go_wp2_with fail
    refine (stowagelaw11_awake.calls 30 true _ FQ.awake_f).mono ?_
    rintro e w3 ⟨rfl, hb3⟩
    have HB3 := Lib.hid hb3
    have HR3 := Lib.hid (Kd.C_below HR1.out hb3)
    clear hb3
    go_wp2_with fail
    refine (HX.out _ _ _ HR3.out HC1.out).mono ?_
    rintro e w4 ⟨rfl, hb4⟩
    have HB4 := Lib.hid hb4
    have HR4 := Lib.hid (Kd.C_below HR3.out hb4)
    clear hb4
    go_wp2_with fail
    refine (HY.out _ _ _ HR4.out HC1.out).mono ?_
    rintro e w5 ⟨rfl, hb5⟩
    have HB5 := Lib.hid hb5
    clear hb5
    go_wp2_with fail
    refine (copysign_calls _).mono ?_
    rintro e w6 ⟨rfl, rfl⟩
    go_wp2_with fail
    go_ret
    have t2 := HB1.out.trans (HB3.out.mono HB1.out.size)
    have t3 := t2.trans (HB4.out.mono t2.size)
    exact ⟨rfl, t3.trans (HB5.out.mono t3.size)⟩

/-- The law's walk. -/
theorem parts_calls (A : Option Addr) (c : Nat) (l : List Int) (a b refs : Int) (w : World) (hr : Kd.C (Kd.int .i64) w A l.length l) (hc : l.length ≤ c) (hb : refs ≤ 9223372036854775807) (ha : (Lit.int .u16 a).wf = true) (hbb : (Lit.int .u16 b).wf = true) :
    Calls Try.prog 9 #[.slice A l.length c, .int .u16 a, .int .u16 b, .int .i64 refs] w fun e w' => e = .returned (.bool true) ∧ Below w.heap.size w w' := by
  by_cases hR : Right l 3
  · by_cases h0 : 0 < refs
    · exact parts_some A c l a b refs w hr hc (l.length + 2) _ (of_f l 3 hR _ (by omega)) (curve_sound l 3 hR) h0 hb (wf_u16 ha).1 (wf_u16 ha).2 (wf_u16 hbb).1 (wf_u16 hbb).2
    · exact parts_none A c l a b refs w hr hc (l.length + 2) _ _ (of_f l 3 hR _ (by omega)) (.inr ⟨rfl, by omega⟩)
  · exact parts_none A c l a b refs w hr hc 4099 _ _ (of_f_bad l 3 hR _ (by omega)) (.inl (by omega))

end Go.Proofs.Ytlgikpfjonnhmaa.CR
