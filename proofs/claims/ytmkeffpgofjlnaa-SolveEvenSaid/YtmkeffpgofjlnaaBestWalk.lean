/- solve.Best, walked. -/
import Derived.Test.YtmkeffpgofjlnaaSolveWork
import Derived.Test.YtmkeffpgofjlnaaQsolveright
import Derived.Test.YtmkeffpgofjlnaaQcurveAt
import Derived.LoopTactic
import Derived.Lib.Hide
import Derived.Outline
import Derived.RegionTactic
import Derived.BigRegion
import Derived.Deep.DeepCutAuto
import Derived.Deep.LoopGhost
import Derived.StillTailTactics
import Derived.Deep.RegionLaw
import Derived.Deep.AppendLies
import Derived.Deep.RegionHeld3
namespace Go.Proofs.Ytmkeffpgofjlnaa.BW
open Go.RowKit Go.Proofs.Ytmkeffpgofjlnaa.Q Go.Proofs.Ytmkeffpgofjlnaa.SD Go.Proofs.Ytmkeffpgofjlnaa.SM Go.Proofs.YtmkeffpgofjlnaaW.PrintWords Go.Proofs.YtmkeffpgofjlnaaW.PrintLast Go.Proofs.YtmkeffpgofjlnaaW.PrintMore

theorem info22 : (Try.prog.info? 22).map (fun i => (i.zero, i.size, i.bytes)) = some (some (.slice none 0 0), 1, 24) := by kernel_rfl

theorem at_calls (A : Option Addr) (c : Nat) (l : List Int) (s : Int) (w : World) (hr : Kd.C (Kd.int .i64) w A l.length l) (hm : l.length ≤ 9223372036854775807) :
    Calls Try.prog 21 #[.slice A l.length c, .int .i64 s] w fun e w' => e = .returned (.int .i64 (at_ l s)) ∧ ∃ k, w' = w.drewN k := by
  by_cases h1 : l.length = 0
  · have e : at_ l s = 0 := by unfold at_; rw [if_pos h1]
    rw [e]
    clear e hr
    go_enter Try.func21, Try.ntmps21
    go_wp2
    go_ret
    exact ⟨rfl, 0, rfl⟩
  · by_cases h2 : s < 0
    · have e : at_ l s = 0 := by unfold at_; rw [if_neg h1, if_pos h2]
      rw [e]
      clear e hr
      go_enter Try.func21, Try.ntmps21
      go_wp2
      go_ret
      exact ⟨rfl, 0, rfl⟩
    · have e : at_ l s = rd l (min s ((l.length : Int) - 1)) := by unfold at_ rd; rw [if_neg h1, if_neg h2]
      have e2 : (if (l.length : Int) - 1 < s then (l.length : Int) - 1 else s) = min s ((l.length : Int) - 1) := by
        by_cases h3 : (l.length : Int) - 1 < s
        · rw [if_pos h3]; omega
        · rw [if_neg h3]; omega
      rw [e]
      obtain ⟨j, hj⟩ : ∃ j, j = min s ((l.length : Int) - 1) := ⟨_, rfl⟩
      rw [← hj] at e2 ⊢
      have p : 0 ≤ j := by omega
      have q : j < (l.length : Int) := by omega
      obtain ⟨ad, rfl, hx⟩ := Kd.at_int hr j p q
      clear hr hj e
      replace p := eq_true p
      replace q := eq_true q
      go_enter Try.func21, Try.ntmps21
      go_wp2
      go_ret
      exact ⟨rfl, 0, rfl⟩

theorem add_block (a : Addr) (j : Nat) : (a.add j).block = a.block := by unfold Addr.add; split <;> rfl
theorem ownsRow_ne {w : World} {base : Nat} {e : TypeId} {size n : Nat} {v : Value} {xs : List Value} (h : w.ownsRow base e size v n xs) {g : Nat} (hg : g < base) : some g ≠ v.ownBlock := by
  intro he
  have := own_base h g he.symm
  omega
theorem grown_below {w0 w w1 : World} {o : Obj} {e : TypeId} {size n : Nat} {v : Value} {xs : List Value} (hb : Below w0.heap.size w0 w) (h : w.ownsRow w0.heap.size e size v n xs) (hg : ((w.alloc o).drew).grownBy w1 v.ownBlock) : Below w0.heap.size w0 w1 :=
  ((hb.alloc hb.size o).drew).grown hg (by show _ ≤ (w.heap.push o).size; rw [Array.size_push]; exact Nat.le_succ_of_le hb.size) (own_base h)
theorem keepS {w w1 : World} {o : Obj} {row : Option Nat} (hg : ((w.alloc o).drew).grownBy w1 row) {a : Addr} {x : Value} (h : w.cell? a = some x) (hne : some a.block ≠ row) : w1.cell? a = some x := by
  have hlt := World.block_lt_of_cell? _ _ h
  rw [hg.cell_far a (by show _ < (w.heap.push o).size; rw [Array.size_push]; omega) hne]
  have : (w.alloc o).cell? a = w.cell? a := World.cell?_of_block (Below.heap_alloc w o a.block hlt)
  exact this.trans h
theorem owns_lower {w : World} {base base' : Nat} {e : TypeId} {size n : Nat} {v : Value} {xs : List Value} (h : w.ownsRow base e size v n xs) (hb : base' ≤ base) : w.ownsRow base' e size v n xs := by
  obtain ⟨h1, h2⟩ := h
  refine ⟨h1, ?_⟩
  rcases h2 with h2 | ⟨g, cap, cur, h3, h4, h5⟩
  · exact .inl h2
  · exact .inr ⟨g, cap, cur, h3, Nat.le_trans hb h4, h5⟩
theorem R_lower {w : World} {base base' : Nat} {v : Value} {xs : List Int} (h : Kd.R (Kd.int .i64) 3 w base (fun _ => True) v xs) (hb : base' ≤ base) : Kd.R (Kd.int .i64) 3 w base' (fun _ => True) v xs :=
  Kd.R_of_own (owns_lower (Kd.own_of_R h) hb) (fun _ _ => trivial)

set_option maxRecDepth 100000 in
/-- Where the call is refused. -/
theorem best_bad (k : Nat) (a0 : Int) (A1 : Option Addr) (c1 : Nat) (l1 : List Int) (A2 : Option Addr) (c2 : Nat) (l2 : List (List Int)) (w : World) (hr1 : Kd.C (Kd.int .i64) w A1 l1.length l1) (hc1 : l1.length ≤ c1) (hr2 : Kd.C (Kd.slice 3 (Kd.int .i64)) w A2 l2.length l2) (hc2 : l2.length ≤ c2) (x e : Int) (h : solve_right.f k a0 l1 l2 = some (x, e)) (he : e ≠ 0) :
    Calls Try.prog 14 #[.int .i64 a0, .slice A1 l1.length c1, .slice A2 l2.length c2] w fun z w' => z = .returned (.tuple #[.slice none 0 0, .int .i64 0, .int .i64 e]) ∧ Below w.heap.size w w' := by
  have HR := Lib.hid (solve_right.calls k a0 A1 c1 l1 A2 c2 l2 x e w hr1 hc1 hr2 hc2 h)
  have he1 : (e != 0) = true := bne_iff_ne.2 he
  have he2 : (e == 0) = false := beq_eq_false_iff_ne.2 he
  clear hr1 hr2 hc1 hc2 h he
  go_enter Try.func14, Try.ntmps14
  go_wp2_with fail
  refine HR.out.mono ?_
  rintro z w1 ⟨rfl, hd⟩
  have HB := Lib.hid hd.below
  clear hd
  go_wp2_with fail
  go_ret3
  exact ⟨rfl, HB.out⟩

set_option maxRecDepth 100000 in
set_option maxHeartbeats 2000000 in
theorem best_good (k : Nat) (a0 : Int) (A1 : Option Addr) (c1 : Nat) (l1 : List Int) (A2 : Option Addr) (c2 : Nat) (l2 : List (List Int)) (w : World) (hr1 : Kd.C (Kd.int .i64) w A1 l1.length l1) (hc1 : l1.length ≤ c1) (hr2 : Kd.C (Kd.slice 3 (Kd.int .i64)) w A2 l2.length l2) (hc2 : l2.length ≤ c2) (n : Nat) (h : solve_right.f k a0 l1 l2 = some ((n : Int), 0)) (hn : n ≤ 512) (hl : l1.length = l2.length) (hl2 : l2.length ≤ 16) (hsound : ∀ c ∈ l2, soundB c = true) (hleast : ∀ x ∈ l1, 0 ≤ x ∧ x ≤ 512) :
    Calls Try.prog 14 #[.int .i64 a0, .slice A1 l1.length c1, .slice A2 l2.length c2] w fun z w' => ∃ v0_ : Value, z = .returned (.tuple #[v0_, .int .i64 (((tab l1 l2 n).headD []).getD n (0, 0)).1, .int .i64 0]) ∧ Kd.R (Kd.int .i64) 3 w' w.heap.size (fun _ => True) v0_ (SD.follow l1 (tab l1 l2 n) n) ∧ Below w.heap.size w w' := by
  have HR := Lib.hid (solve_right.calls k a0 A1 c1 l1 A2 c2 l2 n 0 w hr1 hc1 hr2 hc2 h)
  have HC1 := Lib.hid hr1
  have HC2 := Lib.hid hr2
  have HL1 := Lib.hid hc1
  have HL2 := Lib.hid hc2
  have HL := Lib.hid hl
  have HS := Lib.hid hsound
  have HLE := Lib.hid hleast
  clear hr1 hr2 hc1 hc2 h hl hsound hleast
  have hmk1 : ∀ w, (Instr.makeSlice 51 (.int .i64 ((l2.length : Int) + 1)) (.int .i64 ((l2.length : Int) + 1))).run Try.prog w = .ok (.slice (some ⟨w.heap.size, 0, none⟩) (l2.length + 1) (l2.length + 1)) (w.alloc (.cells (madeCells #[.slice none 0 0] (l2.length + 1)) 22)) :=
    run_make_row' (P := Try.prog) 51 22 (.slice none 0 0) 24 Try.underlying51 info22 rfl .i64 .i64 (l2.length + 1) (by omega) (by omega)
  have hmk2 := run_make_row' (P := Try.prog) 51 22 (.slice none 0 0) 24 Try.underlying51 info22 rfl .i64 .i64 l2.length (by omega) (by omega)
  have hmk3 : ∀ w, (Instr.makeSlice 22 (.int .i64 ((n : Int) + 1)) (.int .i64 ((n : Int) + 1))).run Try.prog w = .ok (.slice (some ⟨w.heap.size, 0, none⟩) (n + 1) (n + 1)) (w.alloc (.cells (madeCells #[.int .i64 0] (n + 1)) 3)) :=
    run_make_row' (P := Try.prog) 22 3 (.int .i64 0) 8 Try.underlying22 info3 rfl .i64 .i64 (n + 1) (by omega) (by omega)
  go_enter Try.func14, Try.ntmps14
  go_wp2_with fail
  refine HR.out.mono ?_
  rintro z w1 ⟨rfl, hd⟩
  have HB1 := Lib.hid hd.below
  clear hd
  go_upto_region 5 with fail
  go_cut [12, 13] (fun v12 v13 wc => ∃ gm gf : Nat, v12 = .slice (some ⟨gm, 0, none⟩) (l2.length + 1) (l2.length + 1) ∧ v13 = .slice (some ⟨gf, 0, none⟩) l2.length l2.length ∧ Hid (Holds wc gm 22 (madeCells #[.slice none 0 0] (l2.length + 1))) ∧ Hid (Holds wc gf 22 (madeCells #[.slice none 0 0] l2.length)) ∧ Hid (gm ≠ gf) ∧ Hid (w.heap.size ≤ gm) ∧ Hid (w.heap.size ≤ gf) ∧ Hid (Below w.heap.size w wc))
  case first =>
    go_region
    all_goals go_wp2_with fail
    all_goals go_meet
    · case rel => exact ⟨_, _, rfl, rfl, Lib.hid (two_new _ _ _ _).1, Lib.hid (two_new _ _ _ _).2, Lib.hid (by omega), Lib.hid HB1.out.size, Lib.hid (Nat.le_succ_of_le HB1.out.size), Lib.hid (two_below HB1.out _ _)⟩
    · case rel => exact ⟨_, _, rfl, rfl, Lib.hid (two_new _ _ _ _).2, Lib.hid (two_new _ _ _ _).1, Lib.hid (by omega), Lib.hid (Nat.le_succ_of_le HB1.out.size), Lib.hid HB1.out.size, Lib.hid (two_below HB1.out _ _)⟩
  case rest =>
    obtain ⟨gm, gf, rfl, rfl, H1, H2, H3, H4, H5, HB⟩ := hcut
    have hcell : wc.cell? ⟨gm, l2.length, none⟩ = some (.slice none 0 0) := H1.out.cell (by simp [madeCells, Nat.mod_one])
    have hfr := H1.out.frozen l2.length
    have hlt := H1.out.lt
    obtain ⟨b, hb⟩ : ∃ b, b = wc.heap.size := ⟨_, rfl⟩
    have K1 := Lib.hid ((H1.out.set l2.length (.slice (some ⟨wc.heap.size, 0, none⟩) (n + 1) (n + 1))).alloc (.cells (madeCells #[.int .i64 0] (n + 1)) 3))
    have K2 := Lib.hid ((H2.out.far (p := ⟨gm, l2.length, none⟩) (Ne.symm H3.out) (.slice (some ⟨wc.heap.size, 0, none⟩) (n + 1) (n + 1))).alloc (.cells (madeCells #[.int .i64 0] (n + 1)) 3))
    have K3 := Lib.hid (Holds.new' wc 3 (madeCells #[.int .i64 0] (n + 1)) ⟨gm, l2.length, none⟩ (.slice (some ⟨wc.heap.size, 0, none⟩) (n + 1) (n + 1)))
    have KB := Lib.hid (below_alloc (HB.out.setCell (p := ⟨gm, l2.length, none⟩) H4.out (.slice (some ⟨wc.heap.size, 0, none⟩) (n + 1) (n + 1))) (.cells (madeCells #[.int .i64 0] (n + 1)) 3))
    have KN := Lib.hid (show wc.heap.size ≠ gm ∧ wc.heap.size ≠ gf ∧ w.heap.size ≤ wc.heap.size from ⟨Nat.ne_of_gt hlt, Nat.ne_of_gt H2.out.lt, HB.out.size⟩)
    clear hb b
    go_wp2
    go_loopg [14] n (fun kq v14 wr => ∃ kk : Nat, v14 = .int .i64 (kk : Int) ∧ Hid (kk + kq = n + 1 ∧ 1 ≤ kk) ∧
      Hid (Holds wr gm 22 ((madeCells #[.slice none 0 0] (l2.length + 1)).setIfInBounds l2.length (.slice (some ⟨wc.heap.size, 0, none⟩) (n + 1) (n + 1)))) ∧ Hid (Holds wr gf 22 (madeCells #[.slice none 0 0] l2.length)) ∧
      Hid (Holds wr wc.heap.size 3 (ints (lineTo (fun k => if k = 0 then 0 else -1) kk n))) ∧ Hid (Below w.heap.size w wr))
    case atStart =>
      exact ⟨1, rfl, Lib.hid ⟨by omega, by omega⟩, K1, K2, Lib.hid (by have e := lineTo_one (fun k => if k = 0 then (0 : Int) else -1) n rfl; rw [e, lineTo_zero]; exact K3.out), KB⟩
    case round =>
      obtain ⟨kk, rfl, G0, G1, G2, G3, GB⟩ := hrel
      cases gk with
      | zero =>
        have hk : kk = n + 1 := by have := G0.out; omega
        subst hk
        obtain ⟨T, hT⟩ : ∃ T, T = tabAt l1 l2 n := ⟨_, rfl⟩
        have HRW : Hid (Tabs wr gm gf w.heap.size n l2.length T l2.length) := Lib.hid (Tabs.start H3.out H4.out H5.out G1.out G2.out (by simp [madeCells]) (by simp [madeCells]) ⟨put_self (by simp [madeCells]) _, KN.out.1, KN.out.2.1, KN.out.2.2, by
          rw [hT, tabAt_last l1 l2 n HL.out]
          have e : (baseRow n).map (·.1) = lineTo (fun k => if k = 0 then 0 else -1) (n + 1) n := by
            rw [lineTo_all]
            simp only [baseRow, List.map_map]
            apply List.map_congr_left
            intro j _
            simp only [Function.comp_apply]
            split <;> rfl
          rw [e]
          exact G3.out⟩)
        have HT := Lib.hid hT
        clear hT K1 K2 K3 KB H1 H2 HB G0 G1 G2 G3
        go_wp2
        go_loopg [15] l2.length (fun kq v15 wr => v15 = .int .i64 ((kq : Int) - 1) ∧ Hid (kq ≤ l2.length) ∧ Hid (Tabs wr gm gf w.heap.size n l2.length T kq) ∧ Hid (Below w.heap.size w wr))
        case atStart => exact ⟨rfl, Lib.hid (Nat.le_refl _), HRW, GB⟩
        case round =>
          clear HRW GB
          obtain ⟨rfl, G0, G1, GB⟩ := hrel
          cases gk with
          | zero =>
            clear HB1 HR
            generalize hwE : wr = wE at *
            clear hwE
            go_wp2
            go_loopg [20, 21, 22] l2.length (fun kq v20 v21 v22 wo => ∃ (j kk : Nat) (xs : List Int), v21 = .int .i64 (j : Int) ∧ v22 = .int .i64 (kk : Int) ∧ Hid (j + kq = l2.length ∧ kk ≤ n ∧ xs.length = j) ∧ Hid (Kd.R (Kd.int .i64) 3 wo wE.heap.size (fun _ => True) v20 xs) ∧ Hid (xs ++ followAt l1 l2 n j kk = SD.follow l1 (tab l1 l2 n) n) ∧ Hid (Below wE.heap.size wE wo))
            case atStart => exact ⟨0, n, [], rfl, rfl, Lib.hid ⟨by omega, Nat.le_refl _, rfl⟩, Lib.hid (Kd.R_nil _ _ _ _ _), Lib.hid (by unfold followAt; rfl), Lib.hid (Below.refl _ _)⟩
            case round =>
              obtain ⟨j, kk, xs, rfl, rfl, J0, JR, JX, JB⟩ := hrel
              cases gk with
              | zero =>
                have hj : j = l2.length := by have := J0.out; omega
                subst hj
                have HTj := Lib.hid (G1.out.below JB.out)
                obtain ⟨bj, f1, f2⟩ := HTj.out.lookM (j := 0) (Nat.le_refl _) (Nat.zero_le _) (by rw [HT.out]; exact tabAt_length l1 l2 n 0 HL.out (Nat.zero_le _))
                have f2k := f2 n (Nat.le_refl _)
                rw [HT.out, ← tabAt_zero] at f2k
                generalize hres : (((tab l1 l2 n).headD []).getD n (0, 0)).1 = res at *
                have HRES := Lib.hid hres
                clear hres f2
                have hl0' : ((0 : Int) < (l2.length : Int) + 1) = True := eq_true (by omega)
                have hn1' : ((n : Int) < (n : Int) + 1) = True := eq_true (by omega)
                have JBW := Lib.hid (GB.out.trans (JB.out.mono GB.out.size))
                have JR2 := Lib.hid (R_lower JR.out GB.out.size)
                go_wp2_with fail
                go_quiet (fail)
                go_wp2_with fail
                go_ret3
                refine ⟨_, by rw [HRES.out]; rfl, ?_, pw_below_drewN JBW.out _⟩
                have e := JX.out
                rw [follow_end l1 l2 n kk HL.out, List.append_nil] at e
                rw [← e]
                exact Kd.R_below JR2.out (pw_below_drewN (Below.refl _ _) _)
              | succ k5 =>
                have hj : j < l2.length := by have := J0.out; omega
                have hkn : kk ≤ n := J0.out.2.1
                have hxl : xs.length = j := J0.out.2.2
                have hj1 : j < l1.length := by have := HL.out; omega
                obtain ⟨Ao, co, e0⟩ := Kd.R_slice JR.out
                subst e0
                have HTj := Lib.hid (G1.out.below JB.out)
                obtain ⟨bj, f1, f2⟩ := HTj.out.lookF (j := j) (Nat.zero_le _) hj (by rw [HT.out]; exact tabAt_length l1 l2 n j HL.out (by omega))
                have f2k := f2 kk hkn
                have NG1 : Hid (gf < wE.heap.size ∧ bj < wE.heap.size) := Lib.hid (by
                  obtain ⟨bj', f1', f2'⟩ := G1.out.lookF (j := j) (Nat.zero_le _) hj (by rw [HT.out]; exact tabAt_length l1 l2 n j HL.out (by omega))
                  have a1 := World.block_lt_of_cell? _ _ f1'
                  have a2 : bj' < wE.heap.size := World.block_lt_of_cell? _ _ (f2' kk hkn)
                  have a3 := JB.out.cell (p := ⟨gf, j, none⟩) a1
                  rw [f1, f1'] at a3
                  simp at a3
                  exact ⟨a1, by rw [a3]; exact a2⟩)
                obtain ⟨F, hF⟩ : ∃ F, F = ((T j).getD kk (0, 0)).2 := ⟨_, rfl⟩
                rw [← hF] at f2k
                have hF0 : 0 ≤ F := by rw [hF, HT.out]; exact (tabAt_cell l1 l2 n HL.out HS.out (l2.length - j) j (by omega) kk).2.2.1
                have hF1 : F ≤ kk := by rw [hF, HT.out]; exact tabAt_snd l1 l2 n j kk HL.out hj hkn
                have HF := Lib.hid hF
                clear hF f2
                obtain ⟨l, hl⟩ : ∃ l, l = l1.getD j 0 := ⟨_, rfl⟩
                have hlm : l ∈ l1 := by
                  rw [hl, List.getD_eq_getElem?_getD, List.getElem?_eq_getElem hj1]
                  exact List.getElem_mem _
                obtain ⟨hl0a, hl0b⟩ := HLE.out l hlm
                obtain ⟨ad1, e1, hx1⟩ := Kd.at_int (Kd.C_below HC1.out (GB.out.trans (JB.out.mono GB.out.size))) (j : Int) (by omega) (by omega)
                cases e1
                have NG0 : Hid (gf < wE.heap.size ∧ bj < wE.heap.size ∧ ad1.block < wE.heap.size) := Lib.hid ⟨NG1.out.1, NG1.out.2, by
                  obtain ⟨ad', e', hx'⟩ := Kd.at_int (Kd.C_below HC1.out GB.out) (j : Int) (by omega) (by omega)
                  cases e'
                  have h := World.block_lt_of_cell? _ _ hx'
                  rwa [add_block] at h⟩
                have er1 : rd l1 (j : Int) = l := by rw [hl]; simp [rd]
                rw [er1, Int.toNat_natCast] at hx1
                have EL := Lib.hid hl
                have XL := Lib.hid hxl
                clear er1 hl hlm hxl
                go_upto_region 31 with fail
                have hlt1 : gf < wr.heap.size := World.block_lt_of_cell? _ _ f1
                have hlt2 : bj < wr.heap.size := World.block_lt_of_cell? _ _ f2k
                have hlt3 : ad1.block < wr.heap.size := by have h := World.block_lt_of_cell? _ (ad1.add j) hx1; (unfold Addr.add at h; split at h <;> exact h)
                have hq1 : ((kk : Int) < (n : Int) + 1) = True := eq_true (by omega)
                have hq2 : ((j : Int) < (l2.length : Int)) = True := eq_true (by omega)
                have hq3 : ((j : Int) < (l1.length : Int)) = True := eq_true (by omega)
                have hq4 : (0 : Int) ≤ (j : Int) := Int.natCast_nonneg _
                have hq5 : (0 : Int) ≤ (kk : Int) := Int.natCast_nonneg _
                go_cut [20] (fun v20 wo => Hid (Kd.R (Kd.int .i64) 3 wo wE.heap.size (fun _ => True) v20 (xs ++ [l + F])) ∧ Hid (Below wE.heap.size wE wo))
                case first =>
                  obtain ⟨i0, hi0, hz0, hz1, hz2⟩ := info_parts info3
                  have HI := Lib.hid hi0
                  have HZ := Lib.hid (And.intro hz0 (And.intro hz1 hz2))
                  clear hi0 hz0 hz1 hz2
                  have HX16 : Hid (xs.length ≤ 16) := Lib.hid (by have := XL.out; omega)
                  have HO := Lib.hid (Kd.own_of_R JR.out)
                  have HM1 : Hid (xs.length + 1 ≤ maxLen) := Lib.hid (by have := HX16.out; unfold maxLen; omega)
                  have HM2 : Hid ((xs.length + 1) * 8 ≤ 140737488355328) := Lib.hid (by have := HX16.out; omega)
                  have HSZ := Lib.hid JB.out.size
                  have hsum : IntKind.i64.wrap (l + F) = l + F := by rw [i64_w]; unfold wrap64; omega
                  have HB0 := Lib.hid (JB.out)
                  have NG : Hid (gf < wE.heap.size ∧ bj < wE.heap.size ∧ ad1.block < wE.heap.size) := Lib.hid NG0.out
                  go_region_held3 (fun w' => w'.cell? ⟨gf, j, none⟩ = some (.slice (some ⟨bj, 0, none⟩) (n + 1) (n + 1)) ∧ w'.cell? ⟨bj, kk, none⟩ = some (.int .i64 F) ∧ w'.cell? (ad1.add j) = some (.int .i64 l))
                    (first | go_keep | exact ⟨keepS q2 f1 (ownsRow_ne HO.out NG.out.1), keepS q2 f2k (ownsRow_ne HO.out NG.out.2.1), keepS q2 hx1 (by rw [add_block]; exact ownsRow_ne HO.out NG.out.2.2)⟩)
                    ((refine step_append_lies _ (by rfl) _ _ _ (by rfl) wE.heap.size 3 i0 (.int .i64 0) 1 8 Try.underlying22 HI.out HZ.out.1 HZ.out.2.1 HZ.out.2.2 (by rfl) (by decide) (.slice Ao xs.length co) xs.length (encs (Value.int .i64) xs) (by rfl) ((HO.out.alloc _).drew) ⟨wr.heap.size, 0, none⟩ 1 1 [.int .i64 (l + F)] (by rfl) (by rfl) (World.news_of_block (cs := #[.int .i64 (l + F)]) (t := 3) (fr := (0, 0)) (heap_alloc_new wr _)) (by simp [Value.oneCell']) (by omega) HM1.out HM2.out (by simp; exact Nat.le_succ_of_le HSZ.out) (wr.heap.size + 1) (by simp) ?_; intro g cap w1 q1 q2 q3 q4))
                  have Q1 := Lib.hid q1
                  have Q2 := Lib.hid q2
                  clear q1 q2 q3 q4
                  go_wp2_with fail
                  go_meet
                  case rel => exact ⟨Lib.hid (Kd.R_of_own (by simpa [encs] using Q1.out) (fun _ _ => trivial)), Lib.hid (grown_below JB.out HO.out Q2.out)⟩
                case rest =>
                  obtain ⟨JR2, JB2⟩ := hcut
                  have g1 := (G1.out.below JB2.out)
                  obtain ⟨bj', f1', f2'⟩ := g1.lookF (j := j) (Nat.zero_le _) hj (by rw [HT.out]; exact tabAt_length l1 l2 n j HL.out (by omega))
                  have f2k' := f2' kk hkn
                  rw [← HF.out] at f2k'
                  clear JR JB f1 f2k hx1 hlt1 hlt2 hlt3 g1 f2' HTj
                  go_wp2
                  go_roundg k5
                  case measure => omega
                  case rel =>
                    refine ⟨j + 1, kk - F.toNat, xs ++ [l + F], by first | rfl | (simp; done), by (have : ((kk - F.toNat : Nat) : Int) = (kk : Int) - F := by omega); rw [this], Lib.hid ⟨by have := J0.out; omega, by omega, by rw [List.length_append, XL.out]; rfl⟩, JR2, Lib.hid ?_, JB2⟩
                    rw [← JX.out, follow_step l1 l2 n j kk HL.out hj, ← EL.out, ← HT.out, ← HF.out, List.append_assoc]
                    rfl
          | succ i =>
            have ei : ((i + 1 : Nat) : Int) - 1 = (i : Int) := by omega
            rw [ei]
            clear ei
            have hi : i < l2.length := by have := G0.out; omega
            obtain ⟨MV, FV, J1, J2, J3, J4⟩ : ∃ MV FV : Array Value, Hid (Holds wr gm 22 MV) ∧ Hid (Holds wr gf 22 FV) ∧ Hid (MV.size = l2.length + 1) ∧ Hid (FV.size = l2.length) := by
              obtain ⟨_, _, _, MV, FV, h1, h2, h3, h4, _⟩ := G1.out
              exact ⟨MV, FV, Lib.hid h1, Lib.hid h2, Lib.hid h3, Lib.hid h4⟩
            obtain ⟨x1, hx1⟩ : ∃ x, wr.cell? ⟨gm, i, none⟩ = some x := ⟨_, J1.out.cell (Array.getElem?_eq_getElem (by have := J3.out; omega))⟩
            obtain ⟨x2, hx2⟩ : ∃ x, wr.cell? ⟨gf, i, none⟩ = some x := ⟨_, J2.out.cell (Array.getElem?_eq_getElem (by have := J4.out; omega))⟩
            have hf1 := J1.out.frozen i
            have hf2 := J2.out.frozen i
            have hl1 := J1.out.lt
            have hl2' := J2.out.lt
            have hne : gm ≠ gf := H3.out
            go_upto_region 14 with fail
            go_cut [] (fun wd => ∃ b0 c0 : Nat, Hid (Work wd gm gf w.heap.size n l2.length T i b0 c0 (lineTo (fun _ => 0) 0 n) (lineTo (fun _ => 0) 0 n)) ∧ Hid (Below w.heap.size w wd))
            case first =>
              go_region
              all_goals go_wp2_with fail
              all_goals go_meet
              · case rel => exact ⟨_, _, Lib.hid (G1.out.next2 hi GB.out.size _ _ _ (lineTo_zero _ _) (.inl ⟨rfl, rfl⟩)), Lib.hid (below_drew1 (below_alloc (below_alloc ((GB.out.setCell (p := ⟨gm, i, none⟩) H4.out _).setCell (p := ⟨gf, i, none⟩) H5.out _) _) _))⟩
              · case rel => exact ⟨_, _, Lib.hid (G1.out.next2 hi GB.out.size _ _ _ (lineTo_zero _ _) (.inr ⟨rfl, rfl⟩)), Lib.hid (below_drew1 (below_alloc (below_alloc ((GB.out.setCell (p := ⟨gm, i, none⟩) H4.out _).setCell (p := ⟨gf, i, none⟩) H5.out _) _) _))⟩
            case rest =>
              obtain ⟨b0, c0, HW, HB⟩ := hcut
              clear hx1 hx2 hf1 hf2 hl1 hl2' J1 J2 J3 J4 GB
              have hb1 : wc.cell? ⟨gm, i, none⟩ = some (.slice (some ⟨b0, 0, none⟩) (n + 1) (n + 1)) := by
                obtain ⟨_, _, _, _, MV, FV, h5, h6, _, _, h9, _⟩ := HW.out
                exact h5.cell h9.1
              clear hb1
              obtain ⟨l, hl⟩ : ∃ l, l = l1.getD i 0 := ⟨_, rfl⟩
              obtain ⟨cv, hcv⟩ : ∃ c, c = l2.getD i [] := ⟨_, rfl⟩
              obtain ⟨rest, hrest⟩ : ∃ r, r = T (i + 1) := ⟨_, rfl⟩
              have EL := Lib.hid hl
              have EC := Lib.hid hcv
              have ER := Lib.hid hrest
              have ET : Hid (T i = bestRow l cv rest n) := Lib.hid (by rw [hl, hcv, hrest, HT.out]; exact tabAt_step l1 l2 n i HL.out hi)
              clear hl hcv hrest
              have hb1 : wc.cell? ⟨gm, i, none⟩ = some (.slice (some ⟨b0, 0, none⟩) (n + 1) (n + 1)) := by
                obtain ⟨_, _, _, _, MV, FV, h5, h6, _, _, h9, _⟩ := HW.out
                exact h5.cell h9.1
              go_wp2
              clear hb1
              go_loopg [80] (n + 1) (fun kq v80 wk => ∃ k : Nat, v80 = .int .i64 (k : Int) ∧ Hid (k + kq = n + 1) ∧ Hid (Work wk gm gf w.heap.size n l2.length T i b0 c0 (lineTo (fun j => (bestN l cv rest j (j + 1)).1) k n) (lineTo (fun j => (bestN l cv rest j (j + 1)).2) k n)) ∧ Hid (Below w.heap.size w wk))
              case atStart => exact ⟨0, rfl, Lib.hid (by omega), HW, HB⟩
              case round =>
                clear HW HB
                obtain ⟨k, rfl, K0, HW, HB⟩ := hrel
                cases gk with
                | zero =>
                  have hk : k = n + 1 := by have := K0.out; omega
                  subst hk
                  have HD : Hid (Tabs wr gm gf w.heap.size n l2.length T i) := Lib.hid (by
                    have h := HW.out
                    rw [lineTo_all, lineTo_all] at h
                    refine Work.done (b0 := b0) (c0 := c0) ?_
                    rw [ET.out]
                    unfold bestRow
                    rw [List.map_map, List.map_map]
                    exact h)
                  go_wp2
                  go_roundg i
                  case measure => omega
                  case rel => exact ⟨by first | rfl | (simp; done), Lib.hid (by omega), HD, HB⟩
                | succ k2 =>
                  have hk : k ≤ n := by have := K0.out; omega
                  have hdec : decide ((k : Int) < (n : Int) + 1) = true := decide_eq_true (by omega)
                  have hb1 : wr.cell? ⟨gm, i, none⟩ = some (.slice (some ⟨b0, 0, none⟩) (n + 1) (n + 1)) := by
                    obtain ⟨_, _, _, _, MV, FV, h5, h6, _, _, h9, _⟩ := HW.out
                    exact h5.cell h9.1
                  obtain ⟨x1, hx1⟩ : ∃ x, wr.cell? ⟨b0, k, none⟩ = some x := by
                    obtain ⟨_, _, _, _, MV, FV, h5, h6, _, _, h9, _⟩ := HW.out
                    exact ⟨_, h9.2.2.2.2.cell (ints_get _ k (by rw [lineTo_length]; omega))⟩
                  have hf1 : wr.frozen? ⟨b0, k, none⟩ = false := by
                    obtain ⟨_, _, _, _, MV, FV, h5, h6, _, _, h9, _⟩ := HW.out
                    exact h9.2.2.2.2.frozen k
                  have HW2 : Hid (Work (wr.setCell ⟨b0, k, none⟩ (.int .i64 (-1))) gm gf w.heap.size n l2.length T i b0 c0 ((lineTo (fun j => (bestN l cv rest j (j + 1)).1) k n).set k (bestN l cv rest k 0).1) ((lineTo (fun j => (bestN l cv rest j (j + 1)).2) k n).set k (bestN l cv rest k 0).2)) := Lib.hid (by
                    have e : (bestN l cv rest k 0).2 = 0 := rfl
                    rw [e, lineTo_set0]
                    exact HW.out.setM k (-1))
                  have HB2 : Hid (Below w.heap.size w (wr.setCell ⟨b0, k, none⟩ (.int .i64 (-1)))) := Lib.hid (by
                    obtain ⟨_, _, _, _, MV, FV, h5, h6, _, _, h9, _⟩ := HW.out
                    exact HB.out.setCell (p := ⟨b0, k, none⟩) h9.2.2.2.1 _)
                  go_wp2
                  go_loopg [17] (k + 1) (fun kq v17 wl => v17 = .int .i64 ((kq : Int) - 1) ∧ Hid (kq ≤ k + 1) ∧ Hid (Work wl gm gf w.heap.size n l2.length T i b0 c0 ((lineTo (fun j => (bestN l cv rest j (j + 1)).1) k n).set k (bestN l cv rest k (k + 1 - kq)).1) ((lineTo (fun j => (bestN l cv rest j (j + 1)).2) k n).set k (bestN l cv rest k (k + 1 - kq)).2)) ∧ Hid (Below w.heap.size w wl))
                  case atStart => exact ⟨by first | rfl | (congr 1; omega) | (simp; done), Lib.hid (Nat.le_refl _), Lib.hid (by rw [Nat.sub_self]; exact HW2.out), HB2⟩
                  case round =>
                    clear HW HB HW2 HB2 hb1 hx1 hf1
                    obtain ⟨rfl, M0, HW, HB⟩ := hrel
                    cases gk with
                    | zero =>
                      go_wp2
                      go_roundg k2
                      case measure => omega
                      case rel =>
                        refine ⟨k + 1, by first | rfl | (simp; done), Lib.hid (by have := K0.out; omega), Lib.hid ?_, HB⟩
                        have h := HW.out
                        rw [Nat.sub_zero] at h
                        rw [← lineTo_set, ← lineTo_set]
                        exact h
                    | succ m' =>
                      have em : ((m' + 1 : Nat) : Int) - 1 = (m' : Int) := by omega
                      rw [em]
                      clear em
                      have hm' : m' ≤ k := by have := M0.out; omega
                      obtain ⟨b1, g1, g2, g3, g4, g5, g6, g7, g8, g9⟩ := HW.out.look hi (by rw [HT.out]; exact tabAt_length l1 l2 n (i + 1) HL.out hi)
                      have g4q := g4 (k - m') (by omega)
                      rw [← ER.out] at g4q
                      have CB : Cell (4503599627370496 * ((l2.length - (i + 1) : Nat) : Int)) n (rest.getD (k - m') (0, 0)) := by
                        rw [ER.out, HT.out]
                        exact tabAt_cell l1 l2 n HL.out HS.out (l2.length - (i + 1)) (i + 1) (by omega) (k - m')
                      obtain ⟨R, hR⟩ : ∃ R, R = (rest.getD (k - m') (0, 0)).1 := ⟨_, rfl⟩
                      have hR1 : -1 ≤ R := by rw [hR]; exact CB.1
                      have hR2 : R ≤ 72057594037927936 := by have := CB.2.1; rw [hR]; omega
                      have HRq := Lib.hid hR
                      rw [← hR] at g4q
                      clear g4 CB hR
                      have hi1 : i < l1.length := by have := HL.out; omega
                      have hlm : l ∈ l1 := by
                        rw [EL.out, List.getD_eq_getElem?_getD, List.getElem?_eq_getElem hi1]
                        exact List.getElem_mem _
                      have hcm : cv ∈ l2 := by
                        rw [EC.out, List.getD_eq_getElem?_getD, List.getElem?_eq_getElem hi]
                        exact List.getElem_mem _
                      have hl0' := HLE.out l hlm
                      have hsc := HS.out cv hcm
                      have hlen : cv.length ≤ 9223372036854775807 := by
                        have := hsc
                        unfold soundB at this
                        simp only [Bool.and_eq_true, decide_eq_true_eq] at this
                        omega
                      clear hlm hcm
                      obtain ⟨ad1, e1, hx1⟩ := Kd.at_int (Kd.C_below HC1.out HB.out) (i : Int) (by omega) (by omega)
                      cases e1
                      obtain ⟨ad2, A0, c0', e2, hx2, _, hC0⟩ := at_L1 (Kd.C_below HC2.out HB.out) (i : Int) (by omega) (by omega)
                      cases e2
                      have er1 : rd l1 (i : Int) = l := by rw [EL.out]; simp [rd]
                      have er2 : rd_L1 l2 (i : Int) = cv := by rw [EC.out]; simp [rd_L1]
                      rw [er1, Int.toNat_natCast] at hx1
                      rw [er2] at hx2 hC0
                      rw [Int.toNat_natCast] at hx2
                      clear er1 er2
                      have hvb := at_bounds hsc (l + (m' : Int))
                      have HAT := Lib.hid (fun N => at_calls A0 c0' cv (l + (m' : Int)) (wr.drewN N) (Kd.C_drewN hC0 N) hlen)
                      obtain ⟨v, hv⟩ : ∃ v, v = at_ cv (l + (m' : Int)) := ⟨_, rfl⟩
                      have HV := Lib.hid hv
                      rw [← hv] at hvb HAT
                      clear hv hC0 hsc hlen
                      obtain ⟨hl0a, hl0b⟩ := hl0'
                      obtain ⟨hv0, hv1⟩ := hvb
                      obtain ⟨st, hst⟩ : ∃ st, st = bestN l cv rest k (k - m') := ⟨_, rfl⟩
                      have hstep : bestN l cv rest k (k + 1 - m') = if 0 ≤ R ∧ st.1 < R + v then (R + v, (m' : Int)) else st := by
                        rw [show k + 1 - m' = (k - m') + 1 by omega]
                        show bestStep l cv rest k (bestN l cv rest k (k - m')) (k - (k - m')) = _
                        rw [← hst, show k - (k - m') = m' by omega]
                        unfold bestStep
                        rw [← HRq.out, ← HV.out]
                      have HST := Lib.hid hstep
                      have hcur := (g5 k (by rw [List.length_set, lineTo_length]; omega)).1
                      have hfr1 := (g5 k (by rw [List.length_set, lineTo_length]; omega)).2
                      obtain ⟨y1, hcu2⟩ : ∃ y, wr.cell? ⟨c0, k, none⟩ = some y := ⟨_, (g6 k (by rw [List.length_set, lineTo_length]; omega)).1⟩
                      have hfr2 := (g6 k (by rw [List.length_set, lineTo_length]; omega)).2
                      rw [List.getD_eq_getElem?_getD, List.getElem?_set_self (by rw [lineTo_length]; omega), Option.getD_some, show k + 1 - (m' + 1) = k - m' by omega, ← hst] at hcur
                      have HW3 := Lib.hid HW.out
                      rw [show k + 1 - (m' + 1) = k - m' by omega, ← hst] at HW3
                      clear g5 g6 hst hstep HW
                      go_upto_region 23 with fail
                      go_cut [19] (fun v19 wq => v19 = .int .i64 (R + v) ∧ ∃ N, wq = wr.drewN N)
                      case first =>
                        go_quiet ((go_at_call 21; exact Calls.quiet_of (HAT.out _)))
                        go_wp2_with fail
                        go_meet
                        case rel => exact ⟨rfl, _, rfl⟩
                      case rest =>
                        obtain ⟨rfl, NN, rfl⟩ := hcut
                        by_cases t : 0 ≤ R ∧ st.1 < R + v
                        · rw [if_pos t] at HST
                          obtain ⟨t1, t2⟩ := t
                          go_upto_region 25 with fail
                          go_region
                          all_goals go_wp2
                          all_goals go_roundg m'
                          case measure => omega
                          case rel =>
                            refine ⟨by first | rfl | (simp; done), Lib.hid (by omega), Lib.hid ?_, Lib.hid (((pw_below_drewN HB.out _).setCell (p := ⟨b0, k, none⟩) g8 _).setCell (p := ⟨c0, k, none⟩) g9 _)⟩
                            rw [HST.out]
                            have h := (((HW3.out.below (pw_below_drewN (Below.refl _ _) (NN + 1))).setM k (R + v)).setF k (m' : Int))
                            rw [List.set_set, List.set_set] at h
                            exact h
                        · rw [if_neg t] at HST
                          by_cases t1 : 0 ≤ R
                          · have t2 : ¬ st.1 < R + v := fun h => t ⟨t1, h⟩
                            clear t
                            go_wp2
                            go_roundg m'
                            case measure => omega
                            case rel => exact ⟨by first | rfl | (simp; done), Lib.hid (by omega), Lib.hid (by rw [HST.out]; exact HW3.out.below (pw_below_drewN (Below.refl _ _) _)), Lib.hid (pw_below_drewN HB.out _)⟩
                          · clear t
                            go_wp2
                            go_roundg m'
                            case measure => omega
                            case rel => exact ⟨by first | rfl | (simp; done), Lib.hid (by omega), Lib.hid (by rw [HST.out]; exact HW3.out.below (pw_below_drewN (Below.refl _ _) _)), Lib.hid (pw_below_drewN HB.out _)⟩
      | succ k1 =>
        have hk : kk ≤ n := by have := G0.out; omega
        have hc1 : wr.cell? ⟨gm, l2.length, none⟩ = some (.slice (some ⟨wc.heap.size, 0, none⟩) (n + 1) (n + 1)) := G1.out.cell (by simp [madeCells])
        have hc2 : wr.cell? ⟨wc.heap.size, kk, none⟩ = some (.int .i64 ((lineTo (fun k => if k = 0 then 0 else -1) kk n).getD kk 0)) := G3.out.cell (ints_get _ _ (by rw [lineTo_length]; omega))
        have hf2 := G3.out.frozen kk
        generalize (lineTo (fun k => if k = 0 then 0 else -1) kk n).getD kk 0 = old at *
        have N1 := Lib.hid (G1.out.far (p := ⟨wc.heap.size, kk, none⟩) (Ne.symm KN.out.1) (.int .i64 (-1)))
        have N2 := Lib.hid (G2.out.far (p := ⟨wc.heap.size, kk, none⟩) (Ne.symm KN.out.2.1) (.int .i64 (-1)))
        have N3 := Lib.hid (G3.out.set kk (.int .i64 (-1)))
        have NB := Lib.hid (GB.out.setCell (p := ⟨wc.heap.size, kk, none⟩) KN.out.2.2 (.int .i64 (-1)))
        go_wp2
        go_roundg k1
        case measure => omega
        case rel =>
          refine ⟨kk + 1, by first | rfl | (simp; done), Lib.hid (by have := G0.out; omega), N1, N2, Lib.hid ?_, NB⟩
          have e := lineTo_set (fun k => if k = 0 then (0 : Int) else -1) kk n
          rw [if_neg (by have := G0.out; omega)] at e
          rw [← e, ← ints_set]
          exact N3.out

end Go.Proofs.Ytmkeffpgofjlnaa.BW
