/- The contract of stowagelaw09_awake, proved by hand. -/
import Derived.Test.YtbmnkfpodkdpeaaQ0
import Derived.Test.YtbmnkfpodkdpeaaQrateNew
import Derived.Test.YtbmnkfpodkdpeaaQrateTake
import Derived.Test.YtbmnkfpodkdpeaaRateMath
import Derived.Lib.Hide
import Derived.Outline
namespace Go.Proofs.Ytbmnkfpodkdpeaa.Q
open Go.RowKit Go.Proofs.YtbmnkfpodkdpeaaW.PrintWords Go.Proofs.YtbmnkfpodkdpeaaW.PrintLast Go.Proofs.YtbmnkfpodkdpeaaW.PrintMore
attribute [local go_sem] max2_int min2_int max_two min_two max_three min_three max_four min_four   -- for this text's walks alone
set_option linter.unusedVariables false
set_option linter.unusedSimpArgs false

/-! ### stowagelaw09_awake: function 15 -/
def stowagelaw09_awake.f : Option (Bool) := some true
theorem awake_pure : ∃ k, rate_New.f 65536 2 0 = some (65536, 2, 131072, 0, 0) ∧ rate_Take.f k 65536 2 131072 0 2 0 = some (65536, 2, 0, 0, 0) ∧ rate_Take.f k 65536 2 0 0 1 0 = some (0, 0, 0, 0, 12) := ⟨5, by decide +kernel⟩
theorem fixed_one : Go.Proofs.Ytbmnkfpodkdpeaa.RM.fixed 4607182418800017408 = 65536 := by decide +kernel
set_option maxHeartbeats 1000000 in
theorem stowagelaw09_awake.calls (r : Bool) (w : World) (h : stowagelaw09_awake.f = some r) :
    Calls Try.prog 15 #[] w fun e w' => e = .returned (.bool r) ∧ Below w.heap.size w w' := by
  have hu29 := Try.underlying29
  obtain rfl : true = r := Option.some.inj h
  clear h
  obtain ⟨k, h1, h2, h3⟩ := awake_pure
  have H1 := Lib.hid h1
  have H2 := Lib.hid h2
  have H3 := Lib.hid h3
  have H4 := Lib.hid fixed_one
  clear h1 h2 h3
  go_enter Try.func15, Try.ntmps15
  go_wp2_with fail
  refine (rate_New.calls _ _ _ _ _ _ _ _ _ H1.out).mono ?_
  rintro e w1 ⟨rfl, hb1⟩
  have hz1 := hb1.size
  have HB1 := Lib.hid hb1
  clear hb1
  go_wp2_with fail
  refine (rate_Take.calls k _ _ _ _ _ _ _ _ _ _ _ _ H2.out).mono ?_
  rintro e w2 ⟨rfl, hb2⟩
  have HB2 := Lib.hid hb2
  clear hb2
  go_wp2_with fail
  refine (rate_Take.calls k _ _ _ _ _ _ _ _ _ _ _ _ H3.out).mono ?_
  rintro e w3 ⟨rfl, hb3⟩
  have HB3 := Lib.hid hb3
  clear hb3
  go_wp2_with fail
  refine (Go.Proofs.Ytbmnkfpodkdpeaa.RM.fixed_calls 4607182418800017408 (by omega) _).mono ?_
  rw [H4.out]
  rintro e w4 ⟨rfl, n, rfl⟩
  go_wp2_with fail
  go_ret
  refine ⟨rfl, pw_below_drewN ?_ n⟩
  have s1 := HB1.out.size
  have s2 := HB2.out.size
  have s3 := HB3.out.size
  simp at s2 s3
  have b1 : Below w.heap.size w (w1.alloc (.cells #[.int .i64 65536, .int .i64 2, .int .i64 131072, .int .i64 0] 29)) := HB1.out.alloc s1 _
  have b2 := b1.trans (HB2.out.mono (by simp; omega))
  have b3 := b2.alloc (by omega) (.cells #[.int .i64 65536, .int .i64 2, .int .i64 0, .int .i64 0] 29)
  have b4 := b3.trans (HB3.out.mono (by simp; omega))
  exact b4.alloc (by omega) _

end Go.Proofs.Ytbmnkfpodkdpeaa.Q
