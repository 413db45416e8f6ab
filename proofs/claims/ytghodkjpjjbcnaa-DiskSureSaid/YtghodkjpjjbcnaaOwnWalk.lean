/- The law DiskOwn, walked: what is handed to a disk, and what it answers, is its own no more. -/
import Derived.Test.YtghodkjpjjbcnaaDiskPad
namespace Go.Proofs.Ytghodkjpjjbcnaa.DO
open Go.RowKit Go.Proofs.Ytghodkjpjjbcnaa.DM Go.Proofs.YtghodkjpjjbcnaaW.PrintWords Go.Proofs.YtghodkjpjjbcnaaW.PrintLast Go.Proofs.YtghodkjpjjbcnaaW.PrintMore

theorem cell_byte {w : World} {g : Nat} {s : List Int} (h : w.rangeAt g 0 (cellsOf s)) (j : Nat) (hj : j < s.length) : w.cell? ⟨g, j, none⟩ = some (.int .u8 (s.getD j 0)) := by
  have := h j (.int .u8 (s.getD j 0)) (by unfold cellsOf; rw [List.getElem?_map, List.getElem?_eq_getElem hj, List.getD_eq_getElem?_getD, List.getElem?_eq_getElem hj]; rfl)
  rwa [Nat.zero_add] at this
set_option maxHeartbeats 4000000 in
theorem own_walk (A : Option Addr) (c : Nat) (l : List Int) (a1 a2 : Int) (h1 : 0 ≤ a1 ∧ a1 ≤ 255) (h2 : 0 ≤ a2 ∧ a2 ≤ 255) (w : World) (hr : Kd.C (Kd.int .u8) w A l.length l) :
    Calls Try.prog 3 #[.slice A l.length c, .int .u8 a1, .int .u8 a2] w fun e w' => e = .returned (.bool true) ∧ Below w.heap.size w w' := by
  obtain ⟨h10, h11⟩ := h1
  obtain ⟨h20, h21⟩ := h2
  have HN := Lib.hid (fun W => new_good 1 (by decide) (by decide) W)
  have hmk := make22_64
  have HC := Lib.hid hr
  clear hr
  obtain ⟨n, hn⟩ : ∃ n, n = l.length := ⟨_, rfl⟩
  have HL := Lib.hid hn
  rw [← hn]
  clear hn
  obtain ⟨j, hj⟩ := Int.eq_ofNat_of_zero_le (show 0 ≤ a1 % 64 by omega)
  have hj64 : j < 64 := by omega
  have HJ := Lib.hid hj
  clear hj
  go_enter Try.func3, Try.ntmps3
  go_upto_region 1 with fail
  go_cut [7, 8] (fun v7 v8 wc => ∃ gd, v7 = .pointer (some ⟨gd, 0, none⟩) ∧ v8 = .int .i64 0 ∧ Hid (At wc w.heap.size (fun _ => False) gd (newD 1)) ∧ Hid (Below w.heap.size w wc))
  case first =>
    go_wp2_with (go_at_call 9; refine (HN.out _).mono ?_; rintro e w1 ⟨gd, rfl, hA, hB⟩; have QA := Lib.hid hA; have QB := Lib.hid hB; clear hA hB)
    go_meet
    case rel => exact ⟨gd, rfl, rfl, QA, QB⟩
  case rest =>
    obtain ⟨gd, rfl, rfl, HA, HB⟩ := hcut
    rename World => w1
    go_upto_region 2 with fail
    go_cut [9] (fun v9 wc => ∃ gb, v9 = .slice (some ⟨gb, 0, none⟩) 64 64 ∧ Hid (wc.rangeAt gb 0 (cellsOf zero64) ∧ wc.there gb 0 64) ∧ Hid (At wc w.heap.size (fun k => k = gb) gd (newD 1)) ∧ Hid (Below w.heap.size w wc) ∧ Hid (gb < wc.heap.size ∧ w.heap.size ≤ gb))
    case first =>
      go_wp2_with fail
      go_meet
      case rel =>
        have hn : (w1.alloc (.cells (madeCells #[.int .u8 0] 64) 5)).heap[w1.heap.size]? = some (.cells (madeCells #[.int .u8 0] 64) 5 (0, 0)) := by show (w1.heap.push _)[w1.heap.size]? = _; rw [Array.getElem?_push_size]
        have hs := size_alloc w1 (.cells (madeCells #[.int .u8 0] 64) 5)
        exact ⟨_, rfl, Lib.hid (made_block hn), Lib.hid ((At.new HA.out _).more (fun k hk _ => .inl (.inr hk))), Lib.hid (HB.out.alloc HB.out.size _), Lib.hid ⟨by rw [hs]; omega, HB.out.size⟩⟩
    case rest =>
      clear HA HB
      obtain ⟨gb, rfl, HT, HA, HB, HG⟩ := hcut
      rename World => w2
      go_upto_region 3 with fail
      obtain ⟨s, hs⟩ : ∃ s, s = pad l := ⟨_, rfl⟩
      have hs64 : s.length = 64 := by rw [hs]; exact pad_length l
      have ES := Lib.hid hs
      clear hs
      have HC2 := Lib.hid (Kd.C_below HC.out HB.out)
      go_cut [] (fun wc => Hid (wc.rangeAt gb 0 (cellsOf s) ∧ wc.there gb 0 64) ∧ Hid (At wc w.heap.size (fun k => k = gb) gd (newD 1)) ∧ Hid (Below w.heap.size w wc) ∧ Hid (gb < wc.heap.size ∧ w.heap.size ≤ gb))
      case first =>
        go_wp2_with ((with_reducible refine gate_builtin (b := .copy) (xs := #[.tmp 20, .tmp 21]) rfl ?_); refine wpList_pad rfl (.tmp 20) (.tmp 21) rfl gb 64 c A l n rfl rfl HL.out HT.out.1 HT.out.2 HC2.out ?_; intro v w' q1 q2 q3; have Q1 := Lib.hid q1; have Q2 := Lib.hid q2; have Q3 := Lib.hid q3; clear q1 q2 q3)
        go_meet
        case rel => exact ⟨Lib.hid (by rw [ES.out]; exact ⟨Q1.out, Q2.out⟩), Lib.hid (Q3.out.at HA.out (.inl rfl)), Lib.hid (Q3.out.below HB.out HG.out.2), Lib.hid ⟨by rw [Q3.out.size]; exact HG.out.1, HG.out.2⟩⟩
      case rest =>
        clear HT HA HB HG HC2
        obtain ⟨HT, HA, HB, HG⟩ := hcut
        rename World => w3
        have HLT := Lib.hid (HA.out.below (w' := w3) (Below.refl _ _))
        go_upto_region 4 with fail
        go_cut [38] (fun v38 wc => v38 = .bool false ∧ Hid (wc.rangeAt gb 0 (cellsOf s) ∧ wc.there gb 0 64) ∧ Hid (At wc w.heap.size (fun k => k = gb) gd (wrD (newD 1) 0 s)) ∧ Hid (Below w.heap.size w wc))
        case first =>
          have HAW := Lib.hid (awake_calls w3)
          have HWR : Hid (∀ w4, Below w3.heap.size w3 w4 → Calls Try.prog 11 #[.pointer (some ⟨gd, 0, none⟩), .int .i64 0, .slice (some ⟨gb, 0, none⟩) 64 64] w4 fun e w' => e = .returned (.int .i64 0) ∧ At w' w.heap.size (fun k => k = gb) gd (wrD (newD 1) 0 s) ∧ DM.Kept w.heap.size (fun k => k = gb) w4 w') := Lib.hid (fun w4 hb =>
            write_at (HA.out.below hb) (fun k hk => by have e : k = gb := hk; rw [e]; exact Nat.lt_of_lt_of_le HG.out.1 hb.size) (Nat.le_trans HB.out.size hb.size) 0 (by decide) rfl (by decide) (by decide) gb 64 s hs64 (range_move HT.out.1 (hb.block gb HG.out.1)) (.inl rfl) (by decide))
          go_wp2_with (first | (go_at_call 10; refine HAW.out.mono ?_; rintro e w4 ⟨rfl, hb⟩; have QA := Lib.hid hb; clear hb) | (go_at_call 11; refine (HWR.out _ QA.out).mono ?_; rintro e w5 ⟨rfl, hA, hK⟩; have QD := Lib.hid hA; have QK := Lib.hid hK; clear hA hK))
          go_meet
          case rel =>
            have hlt : gb < w4.heap.size := Nat.lt_of_lt_of_le HG.out.1 QA.out.size
            have e1 := (QK.out.block gb hlt (.inr rfl)).trans (QA.out.block gb HG.out.1)
            exact ⟨by first | rfl | (simp; done), Lib.hid ⟨range_move HT.out.1 e1, there_move HT.out.2 e1⟩, QD, Lib.hid ((HB.out.trans (QA.out.mono HB.out.size)).trans (QK.out.to_below (Nat.le_trans HB.out.size QA.out.size)))⟩
        case rest =>
          clear HT HA HB HLT
          obtain ⟨rfl, HT, HA, HB⟩ := hcut
          rename World => w4
          have hstr := str64 (c := 64) HT.out.1 hs64
          obtain ⟨S, hS⟩ : ∃ S, S = strOfNums s := ⟨_, rfl⟩
          rw [← hS] at hstr
          have HSS := Lib.hid hS
          clear hS
          go_upto_region 6 with fail
          go_cut [10] (fun v10 wc => v10 = .string S ∧ wc = w4)
          case first =>
            go_wp2_with fail
            go_meet
            case rel => exact ⟨rfl, rfl⟩
          case rest =>
            obtain ⟨rfl, rfl⟩ := hcut
            clear hstr
            rename World => w4
            have hj := HJ.out
            have hcj := cell_byte HT.out.1 j (by omega)
            have hfj := (HT.out.2 j hj64).2
            rw [Nat.zero_add] at hfj
            have hjn : ((j : Nat) : Int).toNat = j := by omega
            generalize s.getD j 0 = x0 at hcj
            have HB2 := Lib.hid (fun v => (But.setCell gb j v w4).below HB.out HG.out.2)
            have HA2 := Lib.hid (fun v => (But.setCell gb j v w4).at HA.out (.inl rfl))
            clear HA HB
            go_upto_region 7 with fail
            go_cut [] (fun wc => ∃ v, wc = w4.setCell ⟨gb, j, none⟩ v)
            case first =>
              go_wp2_with fail
              go_meet
              case rel => exact ⟨_, rfl⟩
            case rest =>
              obtain ⟨v, rfl⟩ := hcut
              have HA := Lib.hid (HA2.out v)
              have HB := Lib.hid (HB2.out v)
              clear HA2 HB2 hcj hfj hj hjn HT
              generalize w4.setCell ⟨gb, j, none⟩ v = w5 at *
              have HR := Lib.hid (read_at HA.out 0 (by show 0 < ((zeros 1).set 0 s).length; rw [List.length_set]; decide) rfl)
              go_upto_region 8 with fail
              go_cut [11, 12] (fun v11 v12 wc => ∃ g c, v11 = .slice (some ⟨g, 0, none⟩) 64 c ∧ v12 = .int .i64 0 ∧ Hid (wc.rangeAt g 0 (cellsOf s) ∧ wc.there g 0 64) ∧ Hid (At wc w.heap.size (fun k => k = g) gd (wrD (newD 1) 0 s)) ∧ Hid (Below w.heap.size w wc) ∧ Hid (w.heap.size ≤ g))
              case first =>
                go_wp2_with (go_at_call 12; refine HR.out.mono ?_; rintro e w6 ⟨v, rfl, hv, hB⟩; have QV := Lib.hid hv; have QB := Lib.hid hB; clear hv hB)
                go_meet
                case rel =>
                  have e : (wrD (newD 1) 0 s).now.getD 0 [] = s := rfl
                  have hv := QV.out
                  rw [e] at hv
                  obtain ⟨g, c, e2, _, hg, _, hr, ht⟩ := R64 hv hs64
                  subst e2
                  exact ⟨g, c, rfl, rfl, Lib.hid ⟨hr, ht⟩, Lib.hid ((At.newRow HA.out QB.out g hg).more (fun k hk _ => .inl (.inr hk))), Lib.hid (HB.out.trans (QB.out.mono HB.out.size)), Lib.hid (Nat.le_trans HB.out.size hg)⟩
              case rest =>
                clear HR HA HB
                obtain ⟨gx, cx, rfl, rfl, HT, HA, HB, HG2⟩ := hcut
                rename World => w6
                have hstr := str64 (c := cx) HT.out.1 hs64
                rw [← HSS.out] at hstr
                have hj := HJ.out
                have hcj := cell_byte HT.out.1 j (by omega)
                have hfj := (HT.out.2 j hj64).2
                rw [Nat.zero_add] at hfj
                have hjn : ((j : Nat) : Int).toNat = j := by omega
                generalize s.getD j 0 = x1 at hcj
                have HB2 := Lib.hid (fun v => (But.setCell gx j v w6).below HB.out HG2.out)
                have HA2 := Lib.hid (fun v => (But.setCell gx j v w6).at HA.out (.inl rfl))
                clear HA HB HT
                go_upto_region 11 with fail
                go_cut [] (fun wc => ∃ v, wc = w6.setCell ⟨gx, j, none⟩ v)
                case first =>
                  go_wp2_with fail
                  go_meet
                  case rel => exact ⟨_, rfl⟩
                case rest =>
                  obtain ⟨v, rfl⟩ := hcut
                  have HA := Lib.hid (HA2.out v)
                  have HB := Lib.hid (HB2.out v)
                  clear HA2 HB2 hcj hfj hj hjn hstr
                  generalize w6.setCell ⟨gx, j, none⟩ v = w7 at *
                  have HR := Lib.hid (read_at HA.out 0 (by show 0 < ((zeros 1).set 0 s).length; rw [List.length_set]; decide) rfl)
                  go_upto_region 12 with fail
                  go_cut [13, 14] (fun v13 v14 wc => ∃ g c, v13 = .slice (some ⟨g, 0, none⟩) 64 c ∧ v14 = .int .i64 0 ∧ Hid (wc.rangeAt g 0 (cellsOf s)) ∧ Hid (Below w.heap.size w wc))
                  case first =>
                    go_wp2_with (go_at_call 12; refine HR.out.mono ?_; rintro e w8 ⟨v, rfl, hv, hB⟩; have QV := Lib.hid hv; have QB := Lib.hid hB; clear hv hB)
                    go_meet
                    case rel =>
                      have e : (wrD (newD 1) 0 s).now.getD 0 [] = s := rfl
                      have hv := QV.out
                      rw [e] at hv
                      obtain ⟨g, c, e2, _, hg, _, hr, ht⟩ := R64 hv hs64
                      subst e2
                      exact ⟨g, c, rfl, rfl, Lib.hid hr, Lib.hid (HB.out.trans (QB.out.mono HB.out.size))⟩
                  case rest =>
                    clear HR HA HB
                    obtain ⟨gy, cy, rfl, rfl, HT, HB⟩ := hcut
                    rename World => w8
                    have hstr := str64 (c := cy) HT.out hs64
                    rw [← HSS.out] at hstr
                    go_wp2_with fail
                    go_ret
                    exact ⟨by first | rfl | (simp; done), HB.out⟩
theorem wf_u8 {x : Int} (h : (Lit.int .u8 x).wf = true) : 0 ≤ x ∧ x ≤ 255 := by
  simp [Lit.wf, IntKind.min, IntKind.max, IntKind.bits, IntKind.signed] at h
  omega
end Go.Proofs.Ytghodkjpjjbcnaa.DO
