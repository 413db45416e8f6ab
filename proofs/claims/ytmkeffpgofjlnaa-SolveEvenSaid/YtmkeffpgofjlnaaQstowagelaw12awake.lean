/- The contract of stowagelaw12_awake, proved by hand. -/
import Derived.Test.YtmkeffpgofjlnaaQ0
import Derived.Test.YtmkeffpgofjlnaaQsolveGreedy
import Derived.Test.YtmkeffpgofjlnaaQsolveBest
import Derived.Test.YtmkeffpgofjlnaaSolveMem
import Derived.Lib.Hide
namespace Go.Proofs.Ytmkeffpgofjlnaa.Q
open Go.RowKit Go.Proofs.YtmkeffpgofjlnaaW.PrintWords Go.Proofs.YtmkeffpgofjlnaaW.PrintLast Go.Proofs.YtmkeffpgofjlnaaW.PrintMore
attribute [local go_sem] max2_int min2_int max_two min_two max_three min_three max_four min_four   -- for this text's walks alone
set_option linter.unusedVariables false
set_option linter.unusedSimpArgs false

/-! ### stowagelaw12_awake: function 11 -/
open Go.Proofs.Ytmkeffpgofjlnaa.SM in
theorem awake_pair {W : World} {gc gd g : Nat} (hc : Holds W gc 3 (ints [0, 5, 6])) (hd : Holds W gd 3 (ints [0, 4, 8])) (h : Holds W g 40 #[.slice (some ⟨gc, 0, none⟩) 3 3, .slice (some ⟨gd, 0, none⟩) 3 3]) :
    Kd.C (Kd.slice 3 (Kd.int .i64)) W (some ⟨g, 0, none⟩) 2 [[0, 5, 6], [0, 4, 8]] := by
  refine C_rows (ls := [[0, 5, 6], [0, 4, 8]]) (vs := [.slice (some ⟨gc, 0, none⟩) 3 3, .slice (some ⟨gd, 0, none⟩) 3 3]) (by decide) h rfl (fun j hj => ?_)
  match j, hj with
  | 0, _ => exact ⟨_, _, rfl, by decide, C_ints (by decide) hc⟩
  | 1, _ => exact ⟨_, _, rfl, by decide, C_ints (by decide) hd⟩
theorem awake_two {W : World} {b : Nat} {v : Value} {x y : Int} (h : Kd.R (Kd.int .i64) 3 W b (fun _ => True) v [x, y]) : ∃ g c, v = .slice (some ⟨g, 0, none⟩) 2 c ∧ W.cell? ⟨g, 0, none⟩ = some (.int .i64 x) ∧ W.cell? ⟨g, 1, none⟩ = some (.int .i64 y) := by
  obtain ⟨g, c, e, _, _⟩ := (Kd.own_of_R h).form (by simp)
  subst e
  have h0 := (Kd.R_cell 0 h 0 (by decide) (by simp)).1
  have h1 := (Kd.R_cell 0 h 1 (by decide) (by simp)).1
  exact ⟨g, c, rfl, h0, h1⟩
def stowagelaw12_awake.f : Option (Bool) := some true
set_option maxRecDepth 100000 in
set_option maxHeartbeats 2000000 in
open Go.Proofs.Ytmkeffpgofjlnaa.SM in
theorem stowagelaw12_awake.calls (r : Bool) (w : World) (h : stowagelaw12_awake.f = some r) :
    Calls Try.prog 11 #[] w fun e w' => e = .returned (.bool r) ∧ Below w.heap.size w w' := by
  injection h with h
  subst h
  have G9 := Lib.hid (show solve_Greedy.f 60 3 [0, 0] [[0, 5, 6], [0, 4, 8]] = some ([1, 2], 0) by decide +kernel)
  have G14 := Lib.hid (show solve_Best.f 3 [0, 0] [[0, 5, 6], [0, 4, 8]] = some ([1, 2], 13, 0) by decide +kernel)
  go_enter Try.func11, Try.ntmps11
  go_upto_region 3 with fail
  have hs0 : ∀ (W : World) (o : Obj), (W.alloc o).heap.size = W.heap.size + 1 := fun W o => by show (W.heap.push o).size = _; rw [Array.size_push]
  have K1 := Lib.hid ((Holds.new w 3 (ints [0, 5, 6])).alloc (.cells (ints [0, 4, 8]) 3))
  have K2 := Lib.hid (Holds.new (w.alloc (.cells (ints [0, 5, 6]) 3)) 3 (ints [0, 4, 8]))
  rw [hs0] at K2
  have KB := Lib.hid ((((Below.refl w.heap.size w).alloc (Nat.le_refl _) (.cells (ints [0, 5, 6]) 3))).alloc (by rw [hs0]; exact Nat.le_succ _) (.cells (ints [0, 4, 8]) 3))
  have HS := Lib.hid hs0
  clear hs0
  go_cut [3, 4] (fun v3 v4 wc => ∃ g c, v3 = .slice (some ⟨g, 0, none⟩) 2 c ∧ v4 = .int .i64 0 ∧ Hid (wc.cell? ⟨g, 0, none⟩ = some (.int .i64 1) ∧ wc.cell? ⟨g, 1, none⟩ = some (.int .i64 2)) ∧ Hid (Below w.heap.size w wc) ∧ Hid (Holds wc w.heap.size 3 (ints [0, 5, 6])) ∧ Hid (Holds wc (w.heap.size + 1) 3 (ints [0, 4, 8])))
  case first =>
    have hb2 : ∀ (W : World) (x y : Obj), Below W.heap.size W ((W.alloc x).alloc y) := fun W x y => ((Below.refl _ W).alloc (Nat.le_refl _) x).alloc (by rw [HS.out]; exact Nat.le_succ _) y
    have HB2 := Lib.hid hb2
    clear hb2
    go_wp2_with (go_at_call 9; refine (solve_Greedy.calls 60 3 _ 2 [0, 0] _ 2 [[0, 5, 6], [0, 4, 8]] [1, 2] 0 _ (C_ints (by decide) (Holds.alloc (by have h := Holds.new ((w.alloc (.cells (ints [0, 5, 6]) 3)).alloc (.cells (ints [0, 4, 8]) 3)) 3 (ints [0, 0]); rw [HS.out, HS.out] at h; exact h) _)) (by decide) (awake_pair ((K1.out.alloc _).alloc _) ((K2.out.alloc _).alloc _) (by have h := Holds.new (((w.alloc (.cells (ints [0, 5, 6]) 3)).alloc (.cells (ints [0, 4, 8]) 3)).alloc (.cells (ints [0, 0]) 3)) 40 #[.slice (some ⟨w.heap.size, 0, none⟩) 3 3, .slice (some ⟨w.heap.size + 1, 0, none⟩) 3 3]; rw [HS.out, HS.out, HS.out] at h; exact h)) (by decide) G9.out).mono ?_; rintro e w1 ⟨v, rfl, hR, hB⟩; have QR := Lib.hid hR; have QB := Lib.hid hB; clear hR hB)
    go_meet
    case rel =>
      obtain ⟨g, c, e1, e2, e3⟩ := awake_two QR.out
      have b1 := QB.out
      have b2 := (HB2.out _ _ _).trans (b1.mono (by simp only [HS.out]; omega))
      exact ⟨g, c, e1, rfl, Lib.hid ⟨e2, e3⟩, Lib.hid (KB.out.trans (b2.mono KB.out.size)), Lib.hid (K1.out.below b2 K1.out.lt), Lib.hid (K2.out.below b2 K2.out.lt)⟩
  case rest =>
    clear K1 K2 KB
    obtain ⟨g1, c, rfl, rfl, HG, KB, K1, K2⟩ := hcut
    have hb2 : ∀ (W : World) (x y : Obj), Below W.heap.size W ((W.alloc x).alloc y) := fun W x y => ((Below.refl _ W).alloc (Nat.le_refl _) x).alloc (by rw [HS.out]; exact Nat.le_succ _) y
    have HB2 := Lib.hid hb2
    clear hb2
    go_upto_region 4 with fail
    go_cut [5, 6, 7] (fun v5 v6 v7 wd => ∃ g c, v5 = .slice (some ⟨g, 0, none⟩) 2 c ∧ v6 = .int .i64 13 ∧ v7 = .int .i64 0 ∧ Hid (wd.cell? ⟨g, 0, none⟩ = some (.int .i64 1) ∧ wd.cell? ⟨g, 1, none⟩ = some (.int .i64 2)) ∧ Hid (Below wc.heap.size wc wd))
    case first =>
      go_wp2_with (go_at_call 14; refine (solve_Best.calls 3 _ 2 [0, 0] _ 2 [[0, 5, 6], [0, 4, 8]] [1, 2] 13 0 _ (C_ints (by decide) (Holds.alloc (Holds.new wc 3 (ints [0, 0])) _)) (by decide) (awake_pair ((K1.out.alloc _).alloc _) ((K2.out.alloc _).alloc _) (by have h := Holds.new (wc.alloc (.cells (ints [0, 0]) 3)) 40 #[.slice (some ⟨w.heap.size, 0, none⟩) 3 3, .slice (some ⟨w.heap.size + 1, 0, none⟩) 3 3]; rw [HS.out] at h; exact h)) (by decide) G14.out).mono ?_; rintro e w1 ⟨v, rfl, hR, hB⟩; have QR := Lib.hid hR; have QB := Lib.hid hB; clear hR hB)
      go_meet
      case rel =>
        obtain ⟨g, c', e1, e2, e3⟩ := awake_two QR.out
        have b1 := QB.out
        have b2 := (HB2.out _ _ _).trans (b1.mono (by simp only [HS.out]; omega))
        exact ⟨g, c', e1, rfl, rfl, Lib.hid ⟨e2, e3⟩, Lib.hid b2⟩
    case rest =>
      obtain ⟨g2, c', rfl, rfl, rfl, HG2, KB2⟩ := hcut
      obtain ⟨x1, x2⟩ := HG.out
      have l1 := World.block_lt_of_cell? _ _ x1
      obtain ⟨x3, x4⟩ := HG2.out
      have y1 := (KB2.out.cell (p := ⟨g1, 0, none⟩) l1).trans x1
      have y2 := (KB2.out.cell (p := ⟨g1, 1, none⟩) l1).trans x2
      clear x1 x2 l1
      have KE := Lib.hid (KB.out.trans (KB2.out.mono KB.out.size))
      clear HG HG2 KB KB2 HB2 HS K1 K2
      go_wp2
      go_ret
      exact ⟨rfl, KE.out⟩

end Go.Proofs.Ytmkeffpgofjlnaa.Q
