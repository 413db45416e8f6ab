/- The walk of the law CurveHulls: at an input where the pure facts hold, it returns true and writes nothing that was there. -/
import Derived.Test.YtlgikpfjonnhmaaQcurveHull
import Derived.Test.YtlgikpfjonnhmaaQstowagelaw11awake
import Derived.Test.YtlgikpfjonnhmaaQstowageref01SameInts
import Derived.Test.YtlgikpfjonnhmaaQstowageref11Sound
import Derived.Test.YtlgikpfjonnhmaaQstowageref11Hull
import Derived.Outline
import Derived.Lib.Hide
namespace Go.Proofs.Ytlgikpfjonnhmaa.H
open Go.RowKit Go.Proofs.Ytlgikpfjonnhmaa.Q Go.Proofs.YtlgikpfjonnhmaaW.PrintWords Go.Proofs.YtlgikpfjonnhmaaW.PrintLast Go.Proofs.YtlgikpfjonnhmaaW.PrintMore

theorem small_read (A : Option Addr) (c : Nat) (l : List Int) (n : Nat) (hn : n = min 60 l.length) (w : World) (hc : l.length ≤ c) :
    Calls Try.prog 14 #[.slice A l.length c, .int .i64 60] w fun e w' => e = .returned (.slice A n c) ∧ w' = w := by
  by_cases h : (60 : Int) < (l.length : Int)
  · obtain rfl : n = 60 := by omega
    have hd : decide ((60 : Int) < (l.length : Int)) = true := decide_eq_true h
    have q7 : (60 : Int) ≤ (l.length : Int) := by omega
    obtain ⟨i07, hi07, _, hsz7, _⟩ := info_parts info3
    have hcut7 := cut_to (P := Try.prog) 23 3 .i64 Try.underlying23 hi07 A l.length c 60 (by omega) q7 hc
    clear hi07 hsz7 hn
    replace q7 := eq_true q7
    go_enter Try.func14, Try.ntmps14
    go_wp2
    go_ret
    exact ⟨rfl, rfl⟩
  · obtain rfl : n = l.length := by omega
    clear hn
    go_enter Try.func14, Try.ntmps14
    go_wp2
    go_ret
    exact ⟨rfl, rfl⟩

theorem hull_read (k : Nat) (A0 : Option Addr) (c0 : Nat) (l0 : List Int) (r1 : List Int) (r2 : Int) (w : World) (hr0 : Kd.C (Kd.int .i64) w A0 l0.length l0) (hc0 : l0.length ≤ c0) (h : curve_Hull.f k l0 = some (r1, r2)) :
    Calls Try.prog 15 #[.slice A0 l0.length c0] w fun e w' => ∃ (A : Option Addr) (c : Nat), e = .returned (.tuple #[.slice A r1.length c, .int .i64 r2]) ∧ r1.length ≤ c ∧ Kd.C (Kd.int .i64) w' A r1.length r1 ∧ Below w.heap.size w w' :=
  (curve_Hull.calls k A0 c0 l0 r1 r2 w hr0 hc0 h).mono fun e w' ⟨v, he, hR, hb⟩ => by
    obtain ⟨A, c, hv, hl, hC⟩ := Kd.R_reads hR
    exact ⟨A, c, by rw [he, hv], hl, hC, hb⟩
theorem refhull_read (k : Nat) (A0 : Option Addr) (c0 : Nat) (l0 : List Int) (r1 : List Int) (w : World) (hr0 : Kd.C (Kd.int .i64) w A0 l0.length l0) (hc0 : l0.length ≤ c0) (h : stowageref11_Hull.f k l0 = some r1) :
    Calls Try.prog 17 #[.slice A0 l0.length c0] w fun e w' => ∃ (A : Option Addr) (c : Nat), e = .returned (.slice A r1.length c) ∧ r1.length ≤ c ∧ Kd.C (Kd.int .i64) w' A r1.length r1 ∧ Below w.heap.size w w' :=
  (stowageref11_Hull.calls k A0 c0 l0 r1 w hr0 hc0 h).mono fun e w' ⟨v, he, hR, hb⟩ => by
    obtain ⟨A, c, hv, hl, hC⟩ := Kd.R_reads hR
    exact ⟨A, c, by rw [he, hv], hl, hC, hb⟩

/-- What the law asks of numbers and lists. -/
def Good (l : List Int) : Prop := ∃ k, stowagelaw11_awake.f k = some true ∧
  ((stowageref11_Sound.f k (l.take 60) = some false ∧ curve_Hull.f k (l.take 60) = some ([], 2)) ∨
   (stowageref11_Sound.f k (l.take 60) = some true ∧ ∃ h, curve_Hull.f k (l.take 60) = some (h, 0) ∧ stowageref11_Hull.f k (l.take 60) = some h ∧ stowageref01_SameInts.f k h h = some true))

set_option maxHeartbeats 1000000 in
theorem hulls_calls (A : Option Addr) (c : Nat) (l : List Int) (w : World) (hr : Kd.C (Kd.int .i64) w A l.length l) (hc : l.length ≤ c) (hg : Good l) :
    Calls Try.prog 4 #[.slice A l.length c] w fun e w' => e = .returned (.bool true) ∧ Below w.heap.size w w' := by
  obtain ⟨k, ha, hk⟩ := hg
  have hsm := small_read A c l (l.take 60).length (by rw [List.length_take]) w hc
  have hr6 : Kd.C (Kd.int .i64) w A (l.take 60).length (l.take 60) := by
    by_cases h : 60 ≤ l.length
    · exact Kd.C_take hr h
    · rw [List.take_of_length_le (by omega)]; exact hr
  have hc6 : (l.take 60).length ≤ c := by rw [List.length_take]; omega
  generalize hq : l.take 60 = q at *
  have HA := Lib.hid ha
  clear ha hq
  rcases hk with ⟨h1, h2⟩ | ⟨h1, h, h2, h3, h4⟩
  · have H1 := Lib.hid h1
    have H2 := Lib.hid h2
    have HR := Lib.hid hr6
    have HC := Lib.hid hc6
    have HS := Lib.hid hsm
    clear h1 h2 hr6 hr hc6 hsm
    go_enter Try.func4, Try.ntmps4
    go_wp2_with fail
    refine HS.out.mono ?_
    rintro e w1 ⟨rfl, rfl⟩
    go_wp2_with fail
    refine (hull_read k _ _ q [] 2 _ HR.out HC.out H2.out).mono ?_
    rintro e w2 ⟨A2, c2, rfl, hc2, hC2, hb2⟩
    have HB2 := Lib.hid hb2
    have HR2 := Lib.hid (Kd.C_below HR.out hb2)
    clear hb2 hC2
    go_wp2_with fail
    refine (stowageref11_Sound.calls k _ _ q false _ HR2.out HC.out H1.out).mono ?_
    rintro e w3 ⟨rfl, hd⟩
    have HD := Lib.hid hd.below
    clear hd
    go_wp2_with fail
    refine (stowagelaw11_awake.calls k true _ HA.out).mono ?_
    rintro e w4 ⟨rfl, hb4⟩
    have HB4 := Lib.hid hb4
    clear hb4
    go_wp2_with fail
    go_ret
    exact ⟨by simp, (HB2.out.trans (HD.out.mono HB2.out.size)).trans (HB4.out.mono (Nat.le_trans HB2.out.size HD.out.size))⟩
  · have H1 := Lib.hid h1
    have H2 := Lib.hid h2
    have H3 := Lib.hid h3
    have H4 := Lib.hid h4
    have HR := Lib.hid hr6
    have HC := Lib.hid hc6
    have HS := Lib.hid hsm
    clear h1 h2 h3 h4 hr6 hr hc6 hsm
    go_enter Try.func4, Try.ntmps4
    go_wp2_with fail
    refine HS.out.mono ?_
    rintro e w1 ⟨rfl, rfl⟩
    go_wp2_with fail
    refine (hull_read k _ _ q h 0 _ HR.out HC.out H2.out).mono ?_
    rintro e w2 ⟨A2, c2, rfl, hc2, hC2, hb2⟩
    have HB2 := Lib.hid hb2
    have HR2 := Lib.hid (Kd.C_below HR.out hb2)
    have HH2 := Lib.hid hC2
    have HC2 := Lib.hid hc2
    clear hb2 hC2 hc2
    go_wp2_with fail
    refine (stowageref11_Sound.calls k _ _ q true _ HR2.out HC.out H1.out).mono ?_
    rintro e w3 ⟨rfl, hd⟩
    have HD := Lib.hid hd.below
    clear hd
    go_wp2_with fail
    refine (stowagelaw11_awake.calls k true _ HA.out).mono ?_
    rintro e w4 ⟨rfl, hb4⟩
    have HB4 := Lib.hid hb4
    have HR4 := Lib.hid (Kd.C_below (Kd.C_below HR2.out HD.out) hb4)
    have HH4 := Lib.hid (Kd.C_below (Kd.C_below HH2.out HD.out) hb4)
    clear hb4
    go_wp2_with fail
    refine (refhull_read k _ _ q h _ HR4.out HC.out H3.out).mono ?_
    rintro e w5 ⟨A5, c5, rfl, hc5, hC5, hb5⟩
    have HB5 := Lib.hid hb5
    have HH5 := Lib.hid (Kd.C_below HH4.out hb5)
    have HG5 := Lib.hid hC5
    have HC5 := Lib.hid hc5
    clear hb5 hC5 hc5
    go_wp2_with fail
    refine (stowageref01_SameInts.calls k _ _ h _ _ h true _ HH5.out HC2.out HG5.out HC5.out H4.out).mono ?_
    rintro e w6 ⟨rfl, hd6⟩
    have HD6 := Lib.hid hd6.below
    clear hd6
    go_wp2_with fail
    go_ret
    exact ⟨rfl, (((HB2.out.trans (HD.out.mono HB2.out.size)).trans (HB4.out.mono (Nat.le_trans HB2.out.size HD.out.size))).trans (HB5.out.mono (Nat.le_trans HB2.out.size (Nat.le_trans HD.out.size HB4.out.size)))).trans (HD6.out.mono (Nat.le_trans HB2.out.size (Nat.le_trans HD.out.size (Nat.le_trans HB4.out.size HB5.out.size))))⟩

end Go.Proofs.Ytlgikpfjonnhmaa.H
