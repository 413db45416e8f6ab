/- The law DiskNone, walked: no disk answers that it is none. -/
import Derived.Test.YtghodkjpjjbcnaaDiskAt
namespace Go.Proofs.Ytghodkjpjjbcnaa.DO
open Go.RowKit Go.Proofs.Ytghodkjpjjbcnaa.DM Go.Proofs.YtghodkjpjjbcnaaW.PrintWords Go.Proofs.YtghodkjpjjbcnaaW.PrintLast Go.Proofs.YtghodkjpjjbcnaaW.PrintMore

theorem flush_none (w : World) : Calls Try.prog 13 #[.pointer none] w fun e w' => e = .returned (.int .i64 11) ∧ w' = w := by
  go_enter Try.func13, Try.ntmps13
  go_wp2_with (go_at_call 23; refine (ready_none _).mono ?_; rintro e w' ⟨rfl, rfl⟩)
  go_ret
  exact ⟨rfl, rfl⟩
theorem crash_none (A : Option Addr) (l c : Nat) (w : World) : Calls Try.prog 14 #[.pointer none, .slice A l c] w fun e w' => e = .returned (.tuple #[]) ∧ w' = w := by
  go_enter Try.func14, Try.ntmps14
  go_wp2
  exact bodyPost_ret (results_none rfl _ _ _) rfl ⟨rfl, rfl⟩
set_option maxHeartbeats 1000000 in
theorem none_walk (n : Int) (A : Option Addr) (l c : Nat) (A2 : Option Addr) (l2 c2 : Nat) (w : World) :
    Calls Try.prog 8 #[.int .i64 n, .slice A l c, .slice A2 l2 c2] w fun e w' => e = .returned (.bool true) ∧ Below w.heap.size w w' := by
  go_enter Try.func8, Try.ntmps8
  go_wp2_with (first
    | (go_at_call 21; refine (limit_none _ _).mono ?_; rintro e w' ⟨rfl, rfl⟩)
    | (go_at_call 14; refine (crash_none _ _ _ _).mono ?_; rintro e w' ⟨rfl, rfl⟩)
    | (go_at_call 12; refine (read_none _ _).mono ?_; rintro e w' ⟨rfl, rfl⟩)
    | (go_at_call 16; refine (lasting_none _ _).mono ?_; rintro e w' ⟨rfl, rfl⟩)
    | (go_at_call 10; refine (awake_calls _).mono ?_; rintro e w1 ⟨rfl, hb⟩; have QB := Lib.hid hb; clear hb)
    | (go_at_call 11; refine (write_none _ _ _).mono ?_; rintro e w' ⟨rfl, rfl⟩)
    | (go_at_call 13; refine (flush_none _).mono ?_; rintro e w' ⟨rfl, rfl⟩)
    | (go_at_call 15; refine (pending_none _).mono ?_; rintro e w' ⟨rfl, rfl⟩))
  go_ret
  exact ⟨rfl, QB.out⟩
end Go.Proofs.Ytghodkjpjjbcnaa.DO
