/- The law SolveAlone, walked: one curve alone gets all. -/
import Derived.Test.YtmkeffpgofjlnaaQsolveGreedy
import Derived.Test.YtmkeffpgofjlnaaQsolveBest
import Derived.Test.YtmkeffpgofjlnaaQstowagelaw12awake
import Derived.Test.YtmkeffpgofjlnaaQstowageref01SameInts
import Derived.Test.YtmkeffpgofjlnaaQstowageref11At
import Derived.Test.YtmkeffpgofjlnaaSolveOpt
import Derived.Test.YtmkeffpgofjlnaaSolveMem
import Derived.Lib.Hide
import Derived.RegionTactic
import Derived.Deep.DeepCutAuto
namespace Go.Proofs.Ytmkeffpgofjlnaa.AW
open Go.RowKit Go.Proofs.Ytmkeffpgofjlnaa.Q Go.Proofs.Ytmkeffpgofjlnaa.SD Go.Proofs.Ytmkeffpgofjlnaa.SR Go.Proofs.Ytmkeffpgofjlnaa.SF Go.Proofs.Ytmkeffpgofjlnaa.SO Go.Proofs.Ytmkeffpgofjlnaa.SM Go.Proofs.YtmkeffpgofjlnaaW.PrintWords Go.Proofs.YtmkeffpgofjlnaaW.PrintLast Go.Proofs.YtmkeffpgofjlnaaW.PrintMore
attribute [local go_sem] max2_int min2_int max_two min_two

theorem alone_greedy (c : List Int) : ∀ (t : Nat) (L : Int), greedy [c] [L] t = [L + t]
  | 0, L => by simp [greedy]
  | t + 1, L => by
    have e : pick [c] [L] [c].length = 0 := by show pick [c] [L] 1 = 0; simp [pick]
    rw [greedy, e]
    simp only [List.getD_cons_zero, List.set_cons_zero]
    rw [alone_greedy c t (L + 1)]
    congr 1
    omega
theorem alone_e (K L : Int) (hK : 0 ≤ K ∧ K ≤ 512) (hL : 0 ≤ L) (c : List Int) : rightE K [L] [c] = if L > K then (0, 1) else if soundB c = true then (K - L, 0) else (0, 2) := by
  unfold rightE
  rw [if_neg (by simp; omega)]
  by_cases h1 : L > K
  · rw [if_pos h1, if_pos (by simp; omega)]
  · rw [if_neg h1, if_neg (by simp; omega)]
    by_cases h2 : soundB c = true
    · rw [if_pos h2, if_neg (by simp [h2]), if_neg (by simp; omega)]
      simp
    · rw [if_neg h2, if_pos (by simpa using h2)]

theorem holds_new' {W : World} {n : Nat} {t : TypeId} {l : List Int} (h : W.heap.size = n) : Holds (W.alloc (.cells (ints l) t)) n t (ints l) := h ▸ Holds.new W t (ints l)
/-- What both calls answer. -/
theorem alone_ans (K L : Int) (hK : 0 ≤ K ∧ K ≤ 512) (hL : 0 ≤ L) (c : List Int) (hc : c.length ≤ 9223372036854775807) : ∃ (k : Nat) (E : Int) (G : List Int) (nn : Int),
    solve_Greedy.f k K [L] [c] = some (G, E) ∧ solve_Best.f K [L] [c] = some (G, nn, E) ∧
    ((E = 0 ∧ G = [K] ∧ nn = at_ c K) ∨ (E = 1 ∧ K < L ∧ G = []) ∨ (E = 2 ∧ L ≤ K ∧ G = [])) := by
  obtain ⟨k, hk⟩ := (greedy_ev K [L] [c] (by simp) (by simpa using hc)).rounds
  have he := alone_e K L hK hL c
  unfold greedyE at hk
  refine ⟨k, (rightE K [L] [c]).2, if (rightE K [L] [c]).2 = 0 then [K] else [], if (rightE K [L] [c]).2 = 0 then at_ c K else 0, ?_, ?_, ?_⟩
  · rw [hk, he]
    split
    · simp
    · split
      · rw [if_pos rfl, if_pos rfl, alone_greedy, Int.toNat_of_nonneg (by omega)]
        congr 3
        omega
      · simp
  · unfold solve_Best.f best
    rw [he]
    split
    · simp
    · rename_i h1
      split
      · rename_i hs
        rw [if_pos rfl, if_pos rfl, if_pos rfl]
        obtain ⟨n, hn⟩ := Int.eq_ofNat_of_zero_le (show 0 ≤ K - L by omega)
        dsimp only
        rw [hn, Int.toNat_natCast]
        have hs' : ∀ x ∈ [c], soundB x = true := fun x hx => by rw [List.mem_singleton.1 hx]; exact hs
        have hV := V_nonneg n [L] [c] rfl (by simp) hs' n (Nat.le_refl _)
        obtain ⟨o1, o2, _, o4⟩ := (opt n [L] [c] rfl hs' n (Nat.le_refl _)).1 hV
        have e1 : SD.follow [L] (tab [L] [c] n) n = [K] := by
          generalize SD.follow [L] (tab [L] [c] n) n = f at o1 o2
          cases f with
          | nil => simp at o1
          | cons x t =>
            cases t with
            | nil =>
              simp at o2
              rw [o2]
              congr 1
              omega
            | cons y t => simp at o1
        have e2 : (((tab [L] [c] n).headD []).getD n (0, 0)).1 = at_ c K := by
          have := o4
          rw [e1] at this
          unfold V at this
          rw [← this]
          simp [sumOf]
        rw [e1, e2]
      · simp
  · rw [he]
    split
    · rename_i h1
      exact .inr (.inl ⟨rfl, h1, by simp⟩)
    · rename_i h1
      split
      · exact .inl ⟨rfl, by simp, by simp⟩
      · exact .inr (.inr ⟨rfl, by omega, by simp⟩)

set_option maxRecDepth 100000 in
set_option maxHeartbeats 2000000 in
theorem alone_walk (a0 a1 : Int) (h0 : 0 ≤ a0 ∧ a0 ≤ 65535) (h1 : 0 ≤ a1 ∧ a1 ≤ 255) (A : Option Addr) (c : Nat) (l : List Int) (w : World) (hr : Kd.C (Kd.int .i64) w A l.length l) (hc : l.length ≤ c) :
    Calls Try.prog 7 #[.int .u16 a0, .int .u8 a1, .slice A l.length c] w fun e w' => e = .returned (.bool true) ∧ Below w.heap.size w w' := by
  obtain ⟨a00, a01⟩ := h0
  obtain ⟨a10, a11⟩ := h1
  obtain ⟨k, E, G, nn, hg, hb, hE⟩ := alone_ans (a0 % 513) a1 (by omega) a10 l hr.2.1
  obtain ⟨K, hK⟩ : ∃ K, K = a0 % 513 := ⟨_, rfl⟩
  rw [← hK] at hg hb hE
  have HG := Lib.hid hg
  have HB := Lib.hid hb
  have HE := Lib.hid hE
  have HR := Lib.hid hr
  have HC := Lib.hid hc
  have HK := Lib.hid hK
  have k0 : 0 ≤ K := by omega
  have k1 : K ≤ 512 := by omega
  clear hg hb hE hr hc hK
  go_enter Try.func7, Try.ntmps7
  go_upto_region 1 with fail
  go_cut [7, 8] (fun v7 v8 w' => v7 = .int .i64 K ∧ v8 = .int .i64 a1 ∧ w' = w)
  case first =>
    go_wp2_with fail
    go_meet
    case rel =>
      exact ⟨by rw [HK.out], by first | rfl | (simp; done), rfl⟩
  case rest =>
    obtain ⟨rfl, rfl, rfl⟩ := hcut
    rename World => w0
    clear a00 a01 HK
    have hs0 : ∀ (W : World) (o : Obj), (W.alloc o).heap.size = W.heap.size + 1 := fun W o => by show (W.heap.push o).size = _; rw [Array.size_push]
    have hb2 : ∀ (W : World) (x y : Obj), Below W.heap.size W ((W.alloc x).alloc y) := fun W x y => ((Below.refl _ W).alloc (Nat.le_refl _) x).alloc (by rw [hs0]; exact Nat.le_succ _) y
    have HS := Lib.hid hs0
    have HB2 := Lib.hid hb2
    have HP : Hid (∀ W : World, Below w0.heap.size w0 W → Kd.C (Kd.slice 3 (Kd.int .i64)) ((W.alloc (.cells (ints [a1]) 3)).alloc (.cells #[.slice A l.length c] 40)) (some ⟨W.heap.size + 1, 0, none⟩) 1 [l]) := Lib.hid (fun W hW => by
      have hC := Kd.C_below (Kd.C_below HR.out hW) (hb2 W (.cells (ints [a1]) 3) (.cells #[.slice A l.length c] 40))
      have hH := Holds.new (W.alloc (.cells (ints [a1]) 3)) 40 #[.slice A l.length c]
      rw [hs0] at hH
      refine C_rows (ls := [l]) (vs := [.slice A l.length c]) (by simp) hH rfl (fun j hj => ?_)
      obtain rfl : j = 0 := by simpa using hj
      exact ⟨A, c, rfl, HC.out, hC⟩)
    clear hs0 hb2
    go_upto_region 2 with fail
    go_cut [9, 10] (fun v9 v10 wd => ∃ A' c', v9 = .slice A' G.length c' ∧ v10 = .int .i64 E ∧ Hid (G.length ≤ c') ∧ Hid (Kd.C (Kd.int .i64) wd A' G.length G) ∧ Hid (Below w0.heap.size w0 wd))
    case first =>
      go_wp2_with (go_at_call 9; refine (solve_Greedy.calls k K _ 1 [a1] _ 1 [l] G E _ (C_ints (by simp) ((Holds.new w0 3 (ints [a1])).alloc _)) (by simp) (HP.out w0 (Below.refl _ _)) (by simp) HG.out).mono ?_; rintro e w1 ⟨v, rfl, hR, hB⟩; have QR := Lib.hid hR; have QB := Lib.hid hB; clear hR hB)
      go_meet
      case rel =>
        obtain ⟨A', c', e1, e2, e3⟩ := Kd.R_reads QR.out
        have b1 := QB.out
        have b2 := (HB2.out _ _ _).trans (b1.mono (by simp only [HS.out]; omega))
        exact ⟨A', c', e1, rfl, Lib.hid e2, Lib.hid e3, Lib.hid b2⟩
    case rest =>
      obtain ⟨A1, c1, rfl, rfl, HC1, HR1, HW1⟩ := hcut
      rename World => w1
      go_upto_region 3 with fail
      go_cut [11, 12, 13] (fun v11 v12 v13 we => ∃ A' c', v11 = .slice A' G.length c' ∧ v12 = .int .i64 nn ∧ v13 = .int .i64 E ∧ Hid (G.length ≤ c') ∧ Hid (Kd.C (Kd.int .i64) we A' G.length G) ∧ Hid (Below w1.heap.size w1 we))
      case first =>
        go_wp2_with (go_at_call 14; refine (solve_Best.calls K _ 1 [a1] _ 1 [l] G nn E _ (C_ints (by simp) ((Holds.new w1 3 (ints [a1])).alloc _)) (by simp) (HP.out w1 HW1.out) (by simp) HB.out).mono ?_; rintro e w2 ⟨v, rfl, hR, hB⟩; have QR := Lib.hid hR; have QB := Lib.hid hB; clear hR hB)
        go_meet
        case rel =>
          obtain ⟨A', c', e1, e2, e3⟩ := Kd.R_reads QR.out
          have b1 := QB.out
          have b2 := (HB2.out _ _ _).trans (b1.mono (by simp only [HS.out]; omega))
          exact ⟨A', c', e1, rfl, rfl, Lib.hid e2, Lib.hid e3, Lib.hid b2⟩
      case rest =>
        obtain ⟨A2, c2, rfl, rfl, rfl, HC2, HR2, HW2⟩ := hcut
        rename World => w2
        have HW := Lib.hid (HW1.out.trans (HW2.out.mono HW1.out.size))
        have HRa := Lib.hid (Kd.C_below HR1.out HW2.out)
        have HRl := Lib.hid (Kd.C_below HR.out HW.out)
        clear HP HR1 HW1 HW2 HR
        go_upto_region 4 with fail
        go_cut [44] (fun v44 we => v44 = .bool false ∧ Hid (Below w2.heap.size w2 we))
        case first =>
          go_wp2_with (go_at_call 11; refine (stowagelaw12_awake.calls true _ rfl).mono ?_; rintro e w3 ⟨rfl, hB⟩; have QB := Lib.hid hB; clear hB)
          go_meet
          case rel => exact ⟨by first | rfl | (simp; done), QB⟩
        case rest =>
          obtain ⟨rfl, HW3⟩ := hcut
          rename World => w3
          have HWt := Lib.hid (HW.out.trans (HW3.out.mono HW.out.size))
          rcases HE.out with ⟨rfl, rfl, hn⟩ | ⟨rfl, hlt, rfl⟩ | ⟨rfl, hle, rfl⟩
          · have HN := Lib.hid hn
            have HRa' := Lib.hid (Kd.C_below HRa.out HW3.out)
            have HRb' := Lib.hid (Kd.C_below HR2.out HW3.out)
            have HRl' := Lib.hid (Kd.C_below HRl.out HW3.out)
            obtain ⟨k1, hk1⟩ := (same_ev [K] [K] (by simp)).rounds
            rw [decide_eq_true rfl] at hk1
            obtain ⟨k2, hk2⟩ := (rat_ev l K HRl.out.2.1).rounds
            rw [← HN.out] at hk2
            have S1 := Lib.hid hk1
            have S2 := Lib.hid hk2
            clear hk1 hk2 hn HE HG HB HRa HR2 HRl
            go_wp2_with (first
              | (go_at_call 12; refine (stowageref01_SameInts.calls k1 _ _ [K] _ _ [K] true _ (by first | exact Kd.C_below HRa'.out (by repeat (first | exact Below.refl _ _ | apply below_alloc | apply pw_below_drewN | apply below_drew1)) | exact Kd.C_below HRb'.out (by repeat (first | exact Below.refl _ _ | apply below_alloc | apply pw_below_drewN | apply below_drew1))) (by first | exact HC1.out | exact HC2.out) (C_ints (by simp) (holds_new' (by first | rfl | (exact HS.out w3 _)))) (by simp) S1.out).mono ?_; rintro e w4 ⟨rfl, ⟨nd, rfl⟩⟩)
              | (go_at_call 19; refine (stowageref11_At.calls k2 _ _ l K nn _ (Kd.C_below HRl'.out (by repeat (first | exact Below.refl _ _ | apply below_alloc | apply pw_below_drewN | apply below_drew1))) HC.out S2.out).mono ?_; rintro e w4 ⟨rfl, ⟨nd, rfl⟩⟩))
            go_ret
            exact ⟨by first | rfl | (simp; done), by repeat (first | exact HWt.out | (refine below_alloc ?_ _) | (refine pw_below_drewN ?_ _) | refine below_drew1 ?_)⟩
          · go_wp2
            go_ret
            exact ⟨by show Ending.returned (Value.bool (!decide (a1 ≤ K))) = _; rw [decide_eq_false (by omega)]; rfl, HWt.out⟩
          · go_wp2
            go_ret
            exact ⟨by show Ending.returned (Value.bool (!decide (K < a1))) = _; rw [decide_eq_false (by omega)]; rfl, HWt.out⟩
theorem wf_u8 {x : Int} (h : (Lit.int .u8 x).wf = true) : 0 ≤ x ∧ x ≤ 255 := by
  simp [Lit.wf, IntKind.min, IntKind.max, IntKind.bits, IntKind.signed] at h
  omega
theorem wf_u16 {x : Int} (h : (Lit.int .u16 x).wf = true) : 0 ≤ x ∧ x ≤ 65535 := by
  simp [Lit.wf, IntKind.min, IntKind.max, IntKind.bits, IntKind.signed] at h
  omega
end Go.Proofs.Ytmkeffpgofjlnaa.AW
