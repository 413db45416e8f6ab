/- The law DiskSure, walked: what was flushed is there behind any crash, and nothing else. -/
import Derived.Test.YtghodkjpjjbcnaaDiskRows
namespace Go.Proofs.Ytghodkjpjjbcnaa.DO
open Go.RowKit Go.Proofs.Ytghodkjpjjbcnaa.DM Go.Proofs.YtghodkjpjjbcnaaW.PrintWords Go.Proofs.YtghodkjpjjbcnaaW.PrintLast Go.Proofs.YtghodkjpjjbcnaaW.PrintMore

set_option maxRecDepth 100000 in
set_option maxHeartbeats 8000000 in
theorem sure_walk (A0 : Option Addr) (c0 : Nat) (l0 : List (List Int)) (A1 : Option Addr) (c1 : Nat) (l1 : List Int) (A2 : Option Addr) (c2 : Nat) (l2 : List Bool) (w : World) (hr0 : Kd.C (Kd.slice 5 (Kd.int .u8)) w A0 l0.length l0) (hr1 : Kd.C (Kd.int .u8) w A1 l1.length l1) (hw1 : ∀ x ∈ l1, 0 ≤ x ∧ x ≤ 255) (hr2 : Kd.C Kd.bool w A2 l2.length l2) :
    Calls Try.prog 5 #[.slice A0 l0.length c0, .slice A1 l1.length c1, .slice A2 l2.length c2] w fun e w' => e = .returned (.bool true) ∧ Below w.heap.size w w' := by
  have HN := Lib.hid (fun W => new_good 5 (by decide) (by decide) W)
  have hmk := make22_64
  have HC0 := Lib.hid hr0
  have HC1 := Lib.hid hr1
  have HC2 := Lib.hid hr2
  have HM0 := Lib.hid hr0.2.1
  have HM1 := Lib.hid hr1.2.1
  have HM2 := Lib.hid hr2.2.1
  have HW1 := Lib.hid hw1
  clear hr0 hr1 hr2 hw1
  obtain ⟨m0, hm0⟩ : ∃ n, n = l0.length := ⟨_, rfl⟩
  obtain ⟨m1, hm1⟩ : ∃ n, n = l1.length := ⟨_, rfl⟩
  obtain ⟨m2, hm2⟩ : ∃ n, n = l2.length := ⟨_, rfl⟩
  have HL0 := Lib.hid hm0
  have HL1 := Lib.hid hm1
  have HL2 := Lib.hid hm2
  rw [← hm0, ← hm1, ← hm2]
  clear hm0 hm1 hm2
  go_enter Try.func5, Try.ntmps5
  go_upto_region 1 with fail
  go_cut [7, 8] (fun v7 v8 wc => ∃ gd, v7 = .pointer (some ⟨gd, 0, none⟩) ∧ v8 = .int .i64 0 ∧ Hid (At wc w.heap.size (fun _ => False) gd (newD 5)) ∧ Hid (Below w.heap.size w wc))
  case first =>
    go_wp2_with (go_at_call 9; refine (HN.out _).mono ?_; rintro e w1 ⟨gd, rfl, hA, hB⟩; have QA := Lib.hid hA; have QB := Lib.hid hB; clear hA hB)
    go_meet
    case rel => exact ⟨gd, rfl, rfl, QA, QB⟩
  case rest =>
    obtain ⟨gd, rfl, rfl, HA, HB⟩ := hcut
    rename World => w1
    have HAW := Lib.hid (awake_calls w1)
    go_wp2_with (go_at_call 10; refine HAW.out.mono ?_; rintro e w2 ⟨rfl, hb⟩; have QW := Lib.hid hb; clear hb)
    go_loopg [9, 10] 40 (fun kq v9 _v10 wr => ∃ i : Nat, v9 = .int .i64 (i : Int) ∧ Hid (i + kq = 40) ∧ (∃ d, Hid (At wr w.heap.size (fun _ => False) gd d) ∧ Hid (Got 5 d i)) ∧ Hid (Below w.heap.size w wr))
    case atStart => exact ⟨0, rfl, Lib.hid (by omega), ⟨_, Lib.hid (HA.out.below QW.out), Lib.hid (Got.new 5)⟩, Lib.hid (HB.out.trans (QW.out.mono HB.out.size))⟩
    case round =>
      obtain ⟨i, rfl, I0, ⟨d, HA, HG⟩, HB⟩ := hrel
      have him : (i : Int) ≤ 40 := by have := I0.out; omega
      have hi0 : (0 : Int) ≤ (i : Int) := by omega
      by_cases ge : m0 ≤ i ∨ m1 ≤ i ∨ i = 40
      · have hcnd : ¬ ((i : Int) < (m0 : Int)) ∨ ((i : Int) < (m0 : Int) ∧ ¬ ((i : Int) < (m1 : Int))) ∨ ((i : Int) < (m0 : Int) ∧ (i : Int) < (m1 : Int) ∧ ¬ ((i : Int) < 40)) := by omega
        go_upto_region 5 with fail
        go_cut [47] (fun v47 wc => v47 = .bool false ∧ wc = wr)
        case first =>
          rcases hcnd with h1 | ⟨h1, h2⟩ | ⟨h1, h2, h3⟩
          · go_wp2_with fail
            go_meet
            case rel => exact ⟨by first | rfl | (simp; done), rfl⟩
          · go_wp2_with fail
            go_meet
            case rel => exact ⟨by first | rfl | (simp; done), rfl⟩
          · go_wp2_with fail
            go_meet
            case rel => exact ⟨by first | rfl | (simp; done), rfl⟩
        case rest =>
          obtain ⟨rfl, rfl⟩ := hcut
          have HIM := Lib.hid him
          clear him hi0 ge hcnd I0 HAW
          go_wp2_with fail
          go_loopg [11, 12, 13, 14] 5 (fun kq v11 v12 _v13 _v14 wr => ∃ i : Nat, v12 = .int .i64 (i : Int) ∧ Hid (i + kq = 5) ∧ Hid (wr.ownsRow w.heap.size 9 1 v11 i (wasL d i)) ∧ Hid (At wr w.heap.size (fun k => v11.ownBlock = some k) gd d) ∧ Hid (Below w.heap.size w wr))
          case atStart =>
            refine ⟨0, rfl, Lib.hid (by omega), Lib.hid (World.ownsRow_lit _ #[] 0 HB.out.size (by unfold maxLen; omega) rfl), Lib.hid ((At.new HA.out _).more (fun k hk _ => .inl (.inr ?_))), Lib.hid (HB.out.alloc HB.out.size _)⟩
            simp [Value.ownBlock] at hk
            exact hk.symm
          case round =>
            clear HA HB
            obtain ⟨i, rfl, I0, HO, HA, HB⟩ := hrel
            cases gk with
            | zero =>
              have hi5 : i = 5 := by have := I0.out; omega
              subst hi5
              obtain ⟨g, cap, eg, _, _⟩ := HO.out.form (by decide)
              subst eg
              have hlt := (HO.out.lt g rfl)
              have HGL := Lib.hid hlt.2
              have HCL : Hid (∀ j : Nat, j < 5 → wr.cell? ⟨g, j, none⟩ = some (.string (strOfNums (d.now.getD j [])))) := Lib.hid (fun j hj => by
                rw [HO.out.cellAt j (by omega)]
                exact wasL_get d 5 j hj)
              clear hlt
              have hA : At wr w.heap.size (fun k => k = g) gd d := HA.out.more (fun k hk _ => .inl (by rw [show k = g from hk]; rfl))
              have HFL : Hid (Calls Try.prog 13 #[.pointer (some ⟨gd, 0, none⟩)] wr fun e w' => e = .returned (.int .i64 0) ∧ At w' w.heap.size (fun k => k = g) gd (clean d.now) ∧ DM.Kept w.heap.size (fun k => k = g) wr w') := Lib.hid (by
                have h := flush_at hA (fun k hk => by rw [show k = g from hk]; exact HGL.out) HB.out.size HG.out.2.2.1 (by rw [HG.out.2.2.2.1]; decide) (by rw [HG.out.2.2.2.1]; decide) (by have := HG.out.2.1; have := HIM.out; omega)
                rw [HG.out.flush] at h
                exact h)
              have HPE : Hid (∀ w', At w' w.heap.size (fun k => k = g) gd (clean d.now) → Calls Try.prog 15 #[.pointer (some ⟨gd, 0, none⟩)] w' fun e w'' => e = .returned (.int .i64 0) ∧ w' = w'') := Lib.hid (fun w' h => (pending_at h).mono (fun e w'' h => ⟨h.1, h.2.symm⟩))
              have HCR : Hid (∀ w', At w' w.heap.size (fun k => k = g) gd (clean d.now) → DM.Kept w.heap.size (fun k => k = g) wr w' → Calls Try.prog 14 #[.pointer (some ⟨gd, 0, none⟩), .slice A2 m2 c2] w' fun e w'' => e = .returned (.tuple #[]) ∧ At w'' w.heap.size (fun k => k = g) gd (clean d.now) ∧ DM.Kept w.heap.size (fun k => k = g) w' w'') := Lib.hid (fun w' h hk => by
                have hb : Below w.heap.size w w' := HB.out.trans (hk.to_below HB.out.size)
                have h2 := crash_at2 h (fun k hk2 => by rw [show k = g from hk2]; exact Nat.lt_of_lt_of_le HGL.out hk.size) hb.size (by show ([] : List (Int × List Int)).length ≤ _; decide) A2 c2 l2 (Kd.C_below HC2.out hb) (fun ad ha h0 => .inl (bools_lt HC2.out ad ha h0))
                rw [HL2.out]
                exact h2)
              clear hA HA HO
              go_wp2_with (first
                | (go_at_call 13; refine HFL.out.mono ?_; rintro e w3 ⟨rfl, hA, hK⟩; have QA := Lib.hid hA; have QK := Lib.hid hK; clear hA hK)
                | (go_at_call 15; refine (HPE.out _ QA.out).mono ?_; rintro e w4 ⟨rfl, rfl⟩)
                | (go_at_call 14; refine (HCR.out _ QA.out QK.out).mono ?_; rintro e w5 ⟨rfl, hA, hK⟩; have QA5 := Lib.hid hA; have QK5 := Lib.hid (QK.out.trans hK); clear hA hK))
              go_loopg [15, 16, 17, 18, 19] 5 (fun kq v15 _v16 _v17 _v18 _v19 wr => ∃ i : Nat, v15 = .int .i64 (i : Int) ∧ Hid (i + kq = 5) ∧ Hid (g < wr.heap.size ∧ ∀ j : Nat, j < 5 → wr.cell? ⟨g, j, none⟩ = some (.string (strOfNums (d.now.getD j [])))) ∧ Hid (At wr w.heap.size (fun k => k = g) gd (clean d.now)) ∧ Hid (Below w.heap.size w wr))
              case atStart =>
                refine ⟨0, rfl, Lib.hid (by omega), Lib.hid ⟨Nat.lt_of_lt_of_le HGL.out QK5.out.size, fun j hj => (QK5.out.cell (p := ⟨g, j, none⟩) HGL.out (.inr rfl)).trans (HCL.out j hj)⟩, QA5, Lib.hid (HB.out.trans (QK5.out.to_below HB.out.size))⟩
              case round =>
                clear HFL HPE HCR QA QK QA5 QK5 HCL HGL HB
                obtain ⟨i, rfl, I0, HCL, HA, HB⟩ := hrel
                cases gk with
                | zero =>
                  have hi5 : i = 5 := by have := I0.out; omega
                  subst hi5
                  go_wp2_with fail
                  go_ret
                  exact ⟨by first | rfl | (simp; done), HB.out⟩
                | succ k1 =>
                  have hi5 : i < 5 := by have := I0.out; omega
                  have hi5' : (i : Int) < 5 := by omega
                  have hi0 : (0 : Int) ≤ (i : Int) := by omega
                  have hln : i < (clean d.now).now.length := by show i < d.now.length; rw [HG.out.1]; exact hi5
                  have HRD := Lib.hid (read_at HA.out i hln rfl)
                  have HLD := Lib.hid (fun w' (h : At w' w.heap.size (fun k => k = g) gd (clean d.now)) => lasting_at h i hln)
                  obtain ⟨s, hs⟩ : ∃ s, s = d.now.getD i [] := ⟨_, rfl⟩
                  have hs64 : s.length = 64 := by rw [hs]; exact At.now64 HA.out i hln
                  rw [show (clean d.now).now.getD i [] = s from hs.symm] at HRD
                  rw [show (clean d.now).las.getD i [] = s from hs.symm] at HLD
                  have hce := HCL.out.2 i hi5
                  rw [← hs] at hce
                  have HCE := Lib.hid hce
                  have HS64 := Lib.hid hs64
                  clear hs hs64 hce hln
                  go_upto_region 25 with fail
                  go_cut [16, 17] (fun v16 v17 wc => ∃ gx cx, v16 = .slice (some ⟨gx, 0, none⟩) 64 cx ∧ v17 = .int .i64 0 ∧ Hid (wc.rangeAt gx 0 (cellsOf s) ∧ gx < wc.heap.size) ∧ Hid (Below wr.heap.size wr wc))
                  case first =>
                    go_wp2_with (go_at_call 12; refine HRD.out.mono ?_; rintro e w3 ⟨v, rfl, hv, hB⟩; have QV := Lib.hid hv; have QB := Lib.hid hB; clear hv hB)
                    go_meet
                    case rel =>
                      obtain ⟨gx, cx, e2, _, _, hlt, hr, _⟩ := R64 QV.out HS64.out
                      subst e2
                      exact ⟨gx, cx, rfl, rfl, Lib.hid ⟨hr, hlt⟩, QB⟩
                  case rest =>
                    obtain ⟨gx, cx, rfl, rfl, HR, HBr⟩ := hcut
                    rename World => w3
                    have HLD3 := Lib.hid (HLD.out w3 (HA.out.below HBr.out))
                    go_upto_region 26 with fail
                    go_cut [18, 19] (fun v16 v17 wc => ∃ gx cx, v16 = .slice (some ⟨gx, 0, none⟩) 64 cx ∧ v17 = .int .i64 0 ∧ Hid (wc.rangeAt gx 0 (cellsOf s)) ∧ Hid (Below w3.heap.size w3 wc))
                    case first =>
                      go_wp2_with (go_at_call 16; refine HLD3.out.mono ?_; rintro e w4 ⟨v, rfl, hv, hB⟩; have QV := Lib.hid hv; have QB := Lib.hid hB; clear hv hB)
                      go_meet
                      case rel =>
                        obtain ⟨gy, cy, e2, _, _, _, hr, _⟩ := R64 QV.out HS64.out
                        subst e2
                        exact ⟨gy, cy, rfl, rfl, Lib.hid hr, QB⟩
                    case rest =>
                      obtain ⟨gy, cy, rfl, rfl, HRy, HBy⟩ := hcut
                      rename World => w4
                      have HBB : Hid (Below wr.heap.size wr w4) := Lib.hid (HBr.out.trans (HBy.out.mono HBr.out.size))
                      have HCL4 : Hid (g < w4.heap.size ∧ ∀ j : Nat, j < 5 → w4.cell? ⟨g, j, none⟩ = some (.string (strOfNums (d.now.getD j [])))) := Lib.hid ⟨Nat.lt_of_lt_of_le HCL.out.1 HBB.out.size, fun j hj => (HBB.out.cell (p := ⟨g, j, none⟩) HCL.out.1).trans (HCL.out.2 j hj)⟩
                      have HA4 := Lib.hid (HA.out.below HBB.out)
                      have HB4 := Lib.hid (HB.out.trans (HBB.out.mono HB.out.size))
                      have hce : w4.cell? ⟨g, i, none⟩ = some (.string (strOfNums s)) := (HBB.out.cell (p := ⟨g, i, none⟩) HCL.out.1).trans HCE.out
                      have hs1 := str64 (w := w4.drew) (c := cx) (range_move HR.out.1 (HBy.out.block gx HR.out.2)) HS64.out
                      have hs2 := str64 (w := w4.drew) (c := cy) (range_move HRy.out rfl) HS64.out
                      clear HCL HA HB HRD HLD HLD3 HR HRy HBr HBy HBB HCE
                      generalize strOfNums s = S at hce hs1 hs2
                      go_upto_region 27 with fail
                      go_region_held3 (fun w' => w'.cell? ⟨g, i, none⟩ = some (.string S) ∧ (convert 22 9 (.slice (some ⟨gx, 0, none⟩) 64 cx)).run Try.prog w' = .ok (.string S) w' ∧ (convert 22 9 (.slice (some ⟨gy, 0, none⟩) 64 cy)).run Try.prog w' = .ok (.string S) w') (exact ⟨by simpa using hce, hs1, hs2⟩) (fail)
                      go_wp2_with fail
                      go_roundg k1
                      case measure => omega
                      case rel => exact ⟨i + 1, by first | rfl | (simp; done), Lib.hid (by have := I0.out; omega), HCL4, Lib.hid (HA4.out.below (below_drew1 (Below.refl _ _))), Lib.hid (below_drew1 HB4.out)⟩
            | succ k1 =>
              have hi5 : i < 5 := by have := I0.out; omega
              have hi5' : (i : Int) < 5 := by omega
              have HRD := Lib.hid (read_at HA.out i (by rw [HG.out.1]; exact hi5) HG.out.2.2.1)
              obtain ⟨s, hs⟩ : ∃ s, s = d.now.getD i [] := ⟨_, rfl⟩
              have hs64 : s.length = 64 := by rw [hs]; exact At.now64 HA.out i (by rw [HG.out.1]; exact hi5)
              rw [← hs] at HRD
              have ES := Lib.hid hs
              have HS64 := Lib.hid hs64
              clear hs hs64
              go_upto_region 15 with fail
              go_cut [13, 14] (fun v13 v14 wc => ∃ gx cx, v13 = .slice (some ⟨gx, 0, none⟩) 64 cx ∧ v14 = .int .i64 0 ∧ Hid (wc.rangeAt gx 0 (cellsOf s)) ∧ Hid (Below wr.heap.size wr wc))
              case first =>
                go_wp2_with (go_at_call 12; refine HRD.out.mono ?_; rintro e w3 ⟨v, rfl, hv, hB⟩; have QV := Lib.hid hv; have QB := Lib.hid hB; clear hv hB)
                go_meet
                case rel =>
                  obtain ⟨gx, cx, e2, _, _, _, hr, _⟩ := R64 QV.out HS64.out
                  subst e2
                  exact ⟨gx, cx, rfl, rfl, Lib.hid hr, QB⟩
              case rest =>
                obtain ⟨gx, cx, rfl, rfl, HR, HBr⟩ := hcut
                rename World => w3
                have HO3 := Lib.hid (own_move HO.out (fun k hk => HBr.out.block k (HO.out.lt k hk).2))
                have HA3 := Lib.hid (HA.out.below HBr.out)
                have HB3 := Lib.hid (HB.out.trans (HBr.out.mono HB.out.size))
                have HU := Lib.hid (fun k (hk : u11.ownBlock = some k) => (HO.out.lt k hk).1)
                clear HO HA HB HBr HRD
                obtain ⟨S, hS⟩ : ∃ S, S = strOfNums s := ⟨_, rfl⟩
                have hstr := str64 (c := cx) HR.out HS64.out
                rw [← hS] at hstr
                have HSS := Lib.hid hS
                clear hS
                obtain ⟨i0, hi0, hz0, hz1, hz2⟩ := info_parts info9
                have HI := Lib.hid hi0
                have HZ := Lib.hid (And.intro hz0 (And.intro hz1 hz2))
                have HM1 : Hid (i + 1 ≤ maxLen) := Lib.hid (by unfold maxLen; omega)
                have HM2 : Hid ((i + 1) * 16 ≤ 140737488355328) := Lib.hid (by omega)
                have HSZ := Lib.hid HB3.out.size
                clear hi0 hz0 hz1 hz2
                go_wp2_with (at_builtin; refine wpList_append_lies _ rfl (.tmp 80) (.tmp 83) 35 rfl w.heap.size 9 i0 (.string ByteArray.empty) 1 16 Try.underlying35 HI.out HZ.out.1 HZ.out.2.1 HZ.out.2.2 rfl (by decide) u11 i (wasL d i) rfl (HO3.out.alloc _) ⟨w3.heap.size, 0, none⟩ 1 1 [.string S] rfl rfl (World.news_of_block (cs := #[.string S]) (t := 9) (fr := (0, 0)) (heap_alloc_new w3 _)) (by simp [Value.oneCell']) (by omega) HM1.out HM2.out (by simp; exact Nat.le_succ_of_le HSZ.out) (w3.heap.size + 1) (by simp) ?_; intro g cap w4 q1 q2 q3 q4; have Q1 := Lib.hid q1; have Q2 := Lib.hid q2; have Q3 := Lib.hid q3; clear q1 q2 q3 q4)
                go_roundg k1
                case measure => omega
                case rel =>
                  refine ⟨i + 1, by first | rfl | (simp; done), Lib.hid (by have := I0.out; omega), Lib.hid ?_, Lib.hid ?_, Lib.hid (below_grown (HB3.out.alloc HB3.out.size _) Q2.out HU.out)⟩
                  · rw [wasL_succ, ← ES.out, ← HSS.out]
                    exact Q1.out
                  · refine (At.grown (HA3.out.below ((Below.refl _ _).alloc (Nat.le_refl _) _)) Q2.out (Q3.out.imp id (fun e => by rw [size_alloc, e]; exact Nat.le_refl _))).more (fun k hk _ => .inl ?_)
                    simp [Value.ownBlock] at hk
                    exact hk.symm
      · have hlt0 : (i : Int) < (m0 : Int) := by omega
        have hlt1 : (i : Int) < (m1 : Int) := by omega
        have hlt4 : (i : Int) < 40 := by omega
        cases gk with
        | zero => exact absurd I0.out (by omega)
        | succ k1 =>
          obtain ⟨ad0, Ai, ci, eA0, hx0, hCi⟩ := at_row (Kd.C_below HC0.out HB.out) i (by have := HL0.out; omega)
          obtain ⟨ad1, eA1, hx1⟩ := at_num (Kd.C_below HC1.out HB.out) i (by have := HL1.out; omega)
          subst eA0 eA1
          obtain ⟨x, hx⟩ : ∃ x, x = l1.getD i 0 := ⟨_, rfl⟩
          have hxm := HW1.out x (by rw [hx, List.getD_eq_getElem?_getD, List.getElem?_eq_getElem (by have := HL1.out; omega)]; exact List.getElem_mem _)
          rw [← hx] at hx1
          clear hx
          obtain ⟨hxa, hxb⟩ := hxm
          obtain ⟨j, hj⟩ := Int.eq_ofNat_of_zero_le (show 0 ≤ x % 5 by omega)
          have hj5 : j < 5 := by omega
          obtain ⟨li, hli⟩ : ∃ l, l = l0.getD i [] := ⟨_, rfl⟩
          rw [← hli] at hx0 hCi
          clear hli
          obtain ⟨n, hn⟩ : ∃ n, n = li.length := ⟨_, rfl⟩
          have HLI := Lib.hid hn
          rw [← hn] at hx0
          have HCI := Lib.hid hCi
          clear hn hCi
          obtain ⟨s, hs⟩ : ∃ s, s = pad li := ⟨_, rfl⟩
          have hs64 : s.length = 64 := by rw [hs]; exact pad_length li
          have ES := Lib.hid hs
          clear hs
          have HS64 := Lib.hid hs64
          clear hs64
          have hl0 := World.block_lt_of_cell? _ _ hx0
          have hl1 := World.block_lt_of_cell? _ _ hx1
          have HX0 := Lib.hid hx0
          have HX1 := Lib.hid hx1
          have HLT := Lib.hid (And.intro hl0 hl1)
          clear hx0 hx1 hl0 hl1
          go_upto_region 7 with fail
          go_cut [10] (fun v10 wc => ∃ gb, v10 = .slice (some ⟨gb, 0, none⟩) 64 64 ∧ Hid (wc.rangeAt gb 0 (cellsOf zero64) ∧ wc.there gb 0 64) ∧ Hid (At wc w.heap.size (fun k => k = gb) gd d) ∧ Hid (Below w.heap.size w wc) ∧ Hid (gb < wc.heap.size ∧ w.heap.size ≤ gb) ∧ Hid (Below wr.heap.size wr wc) ∧ Hid (wr.heap.size ≤ gb))
          case first =>
            go_wp2_with fail
            go_meet
            case rel =>
              have hn : (wr.alloc (.cells (madeCells #[.int .u8 0] 64) 5)).heap[wr.heap.size]? = some (.cells (madeCells #[.int .u8 0] 64) 5 (0, 0)) := by show (wr.heap.push _)[wr.heap.size]? = _; rw [Array.getElem?_push_size]
              have hs := size_alloc wr (.cells (madeCells #[.int .u8 0] 64) 5)
              exact ⟨_, rfl, Lib.hid (made_block hn), Lib.hid ((At.new HA.out _).more (fun k hk _ => .inl (.inr hk))), Lib.hid (HB.out.alloc HB.out.size _), Lib.hid ⟨by rw [hs]; omega, HB.out.size⟩, Lib.hid ((Below.refl _ _).alloc (Nat.le_refl _) _), Lib.hid (Nat.le_refl _)⟩
          case rest =>
            obtain ⟨gb, rfl, HT, HA2, HB2, HGB, HBW, HGR⟩ := hcut
            rename World => w3
            have hx0 := (HBW.out.cell HLT.out.1).trans HX0.out
            have HCI2 := Lib.hid (Kd.C_below HCI.out HBW.out)
            clear HA HB
            go_upto_region 8 with fail
            go_cut [] (fun wc => Hid (wc.rangeAt gb 0 (cellsOf s)) ∧ Hid (But gb w3 wc))
            case first =>
              go_wp2_with ((with_reducible refine gate_builtin (b := .copy) (xs := #[.tmp 51, .tmp 55]) rfl ?_); refine wpList_pad rfl (.tmp 51) (.tmp 55) rfl gb 64 ci Ai li n rfl rfl HLI.out HT.out.1 HT.out.2 HCI2.out ?_; intro v w' q1 q2 q3; have Q1 := Lib.hid q1; have Q3 := Lib.hid q3; clear q1 q2 q3)
              go_meet
              case rel => exact ⟨Lib.hid (by rw [ES.out]; exact Q1.out), Q3⟩
            case rest =>
              obtain ⟨HR, HBut⟩ := hcut
              rename World => w4
              have hx1 : w4.cell? (ad1.add i) = some (.int .u8 x) := (World.cell?_of_block (HBut.out.block _ (by have := HLT.out.2; have := HGR.out; omega))).trans ((HBW.out.cell HLT.out.2).trans HX1.out)
              have HB4 : Hid (Below w.heap.size w w4) := Lib.hid (HBut.out.below HB2.out HGB.out.2)
              have HWR := Lib.hid (write_at (HBut.out.at HA2.out (.inl rfl)) (fun k hk => by rw [HBut.out.size, show k = gb from hk]; exact HGB.out.1) HB4.out.size j (by rw [HG.out.1]; exact hj5) HG.out.2.2.1 (by rw [HG.out.2.2.2.1]; decide) (by rw [HG.out.2.2.2.1]; decide) gb 64 s HS64.out HR.out (.inl rfl) (by have := HG.out.2.1; omega))
              clear hx0 HX0 HX1 HT HA2 HB2 HBW HCI2
              go_wp2_with (go_at_call 11; refine HWR.out.mono ?_; rintro e w'' ⟨rfl, hA, hK⟩; have QA := Lib.hid hA; have QB := Lib.hid (HB4.out.trans (hK.to_below HB4.out.size)); clear hA hK)
              go_roundg k1
              case measure => omega
              case rel => exact ⟨i + 1, by first | rfl | (simp; done), Lib.hid (by have := I0.out; omega), ⟨_, Lib.hid (QA.out.more (fun _ h => h.elim)), Lib.hid (HG.out.write j s)⟩, QB⟩
end Go.Proofs.Ytghodkjpjjbcnaa.DO
