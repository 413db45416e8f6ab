/- The law DiskLimits, walked: with a limit so many writes and flushes are done, and none behind. -/
import Derived.Test.YtghodkjpjjbcnaaDiskCrash
import Derived.Test.YtghodkjpjjbcnaaDiskPad
namespace Go.Proofs.Ytghodkjpjjbcnaa.DO
open Go.RowKit Go.Proofs.Ytghodkjpjjbcnaa.DM Go.Proofs.YtghodkjpjjbcnaaW.PrintWords Go.Proofs.YtghodkjpjjbcnaaW.PrintLast Go.Proofs.YtghodkjpjjbcnaaW.PrintMore

theorem At.len {w : World} {base : Nat} {Ex : Nat → Prop} {gd : Nat} {d : D} (h : At w base Ex gd d) : d.las.length = d.now.length := by
  obtain ⟨_, _, _, hI, _⟩ := h
  exact hI.len
theorem sp_at {w : World} {base : Nat} {Ex : Nat → Prop} {gd : Nat} {d : D} (h : At w base Ex gd d) : At (spW w gd d) base Ex gd (spD d) ∧ DM.Kept base Ex w (spW w gd d) := by
  obtain ⟨gl, gn, pv, hI, hF⟩ := h
  exact ⟨⟨gl, gn, pv, sp_in hI, hF⟩, sp_kept d base Ex hF⟩
theorem limit_at {w : World} {base : Nat} {Ex : Nat → Prop} {gd : Nat} {d : D} (h : At w base Ex gd d) (n : Int) : Calls Try.prog 21 #[.pointer (some ⟨gd, 0, none⟩), .int .i64 n] w fun e w' => e = .returned (.tuple #[]) ∧ At w' base Ex gd { d with lim := max n (-1) } ∧ DM.Kept base Ex w w' := by
  obtain ⟨gl, gn, pv, hI, hF⟩ := h
  refine (limit_calls hI n).mono ?_
  rintro e w' ⟨h1, rfl⟩
  exact ⟨h1, ⟨gl, gn, pv, hI.setLim _ (by omega), hF⟩, (DM.Kept.refl _ _ _).setCell (hF gd (.inl rfl)).1 (hF gd (.inl rfl)).2 _⟩
/-- A disk with a limit of n, behind i calls. -/
def Lim (n i : Nat) (d : D) : Prop := d.now.length = 3 ∧ d.pen.length ≤ i ∧ (i ≤ n → d.off = false ∧ d.lim = (n : Int) - (i : Int)) ∧ (n < i → d.off = true)
def limF (n i : Nat) : Int := if i < n then 0 else 8
theorem spD_some {d : D} (h : 0 < d.lim) : spD d = { d with lim := d.lim - 1 } := by
  unfold spD
  rw [if_neg (by omega), if_pos h]
theorem spD_none {d : D} (h : d.lim = 0) : spD d = { d with off := true } := by
  unfold spD
  rw [if_pos h]
theorem flush_lim {w : World} {base : Nat} {Ex : Nat → Prop} {gd n i : Nat} {d : D} (h : At w base Ex gd d) (hL : Lim n i d) (hE : ∀ k, Ex k → k < w.heap.size) (hb : base ≤ w.heap.size) (hi : i < 400) (hn : n ≤ 255) :
    Calls Try.prog 13 #[.pointer (some ⟨gd, 0, none⟩)] w fun e w' => e = .returned (.int .i64 (limF n i)) ∧ ∃ d', At w' base Ex gd d' ∧ Lim n (i + 1) d' ∧ DM.Kept base Ex w w' := by
  obtain ⟨l1, l2, l3, l4⟩ := hL
  unfold limF
  by_cases c : i < n
  · obtain ⟨ho, hl⟩ := l3 (by omega)
    rw [if_pos c]
    refine (flush_at h hE hb ho (by omega) (by omega) (by omega)).mono ?_
    rintro e w' ⟨h1, h2, h3⟩
    refine ⟨h1, _, h2, ⟨?_, ?_, ?_, ?_⟩, h3⟩
    · rw [show ({ spD d with las := laid d.las d.pen, pen := [] } : D).now = (spD d).now from rfl, spD_now]; exact l1
    · show ([] : List (Int × List Int)).length ≤ _; simp
    · intro _
      rw [spD_some (by omega)]
      exact ⟨ho, by show d.lim - 1 = _; omega⟩
    · intro _; omega
  · rw [if_neg c]
    obtain ⟨gl, gn, pv, hI, hF⟩ := h
    by_cases c2 : i = n
    · obtain ⟨ho, hl⟩ := l3 (by omega)
      refine (flush_off hI ho (by omega)).mono ?_
      rintro e w' ⟨h1, rfl⟩
      refine ⟨h1, spD d, ⟨gl, gn, pv, sp_in hI, hF⟩, ⟨by rw [spD_now]; exact l1, by rw [spD_pen]; omega, fun _ => by omega, fun _ => ?_⟩, sp_kept d base Ex hF⟩
      rw [spD_none (by omega)]
    · refine (flush_bad hI (l4 (by omega))).mono ?_
      rintro e w' ⟨h1, rfl⟩
      exact ⟨h1, d, ⟨gl, gn, pv, hI, hF⟩, ⟨l1, by omega, fun _ => by omega, fun _ => l4 (by omega)⟩, DM.Kept.refl _ _ _⟩
theorem write_lim {w : World} {base : Nat} {Ex : Nat → Prop} {gd n i : Nat} {d : D} (h : At w base Ex gd d) (hL : Lim n i d) (hE : ∀ k, Ex k → k < w.heap.size) (hb : base ≤ w.heap.size) (hi : i < 400) (hn : n ≤ 255) (k : Nat) (hk : k < 3) (gs c : Nat) (s : List Int) (hs : s.length = 64) (hr : w.rangeAt gs 0 (cellsOf s)) (hg : Ex gs ∨ gs < base) :
    Calls Try.prog 11 #[.pointer (some ⟨gd, 0, none⟩), .int .i64 (k : Int), .slice (some ⟨gs, 0, none⟩) 64 c] w fun e w' => e = .returned (.int .i64 (limF n i)) ∧ ∃ d', At w' base Ex gd d' ∧ Lim n (i + 1) d' ∧ DM.Kept base Ex w w' := by
  obtain ⟨l1, l2, l3, l4⟩ := hL
  unfold limF
  by_cases c : i < n
  · obtain ⟨ho, hl⟩ := l3 (by omega)
    rw [if_pos c]
    refine (write_at h hE hb k (by omega) ho (by omega) (by omega) gs _ s hs hr hg (by omega)).mono ?_
    rintro e w' ⟨h1, h2, h3⟩
    refine ⟨h1, _, h2, ⟨?_, ?_, ?_, ?_⟩, h3⟩
    · show (d.now.set k s).length = 3; rw [List.length_set]; exact l1
    · show (d.pen ++ [((k : Int), s)]).length ≤ _; rw [List.length_append]; simp; exact l2
    · intro _
      show (spD d).off = false ∧ (spD d).lim = _
      rw [spD_some (by omega)]
      exact ⟨ho, by show d.lim - 1 = _; omega⟩
    · intro _; omega
  · rw [if_neg c]
    obtain ⟨gl, gn, pv, hI, hF⟩ := h
    by_cases c2 : i = n
    · obtain ⟨ho, hl⟩ := l3 (by omega)
      refine (write_off hI k (by omega) ho (by omega) _ _).mono ?_
      rintro e w' ⟨h1, rfl⟩
      refine ⟨h1, spD d, ⟨gl, gn, pv, sp_in hI, hF⟩, ⟨by rw [spD_now]; exact l1, by rw [spD_pen]; omega, fun _ => by omega, fun _ => ?_⟩, sp_kept d base Ex hF⟩
      rw [spD_none (by omega)]
    · have e8 : wrB d (k : Int) 64 = 8 := by unfold wrB; rw [if_pos (l4 (by omega))]
      refine (write_bad hI k (some ⟨gs, 0, none⟩) 64 _ (by rw [e8]; decide) (by decide)).mono ?_
      rintro e w' ⟨h1, rfl⟩
      exact ⟨by rw [h1, e8], d, ⟨gl, gn, pv, hI, hF⟩, ⟨l1, by omega, fun _ => by omega, fun _ => l4 (by omega)⟩, DM.Kept.refl _ _ _⟩

theorem limF_eq (n i : Nat) : (limF n i = 0 ∧ i < n) ∨ (limF n i = 8 ∧ ¬ i < n) := by
  unfold limF
  by_cases c : i < n
  · exact .inl ⟨if_pos c, c⟩
  · exact .inr ⟨if_neg c, c⟩
set_option maxHeartbeats 4000000 in
theorem limits_walk (a0 : Int) (h0 : 0 ≤ a0 ∧ a0 ≤ 255) (A : Option Addr) (c : Nat) (l : List Bool) (w : World) (hr : Kd.C Kd.bool w A l.length l) :
    Calls Try.prog 7 #[.int .u8 a0, .slice A l.length c] w fun e w' => e = .returned (.bool true) ∧ Below w.heap.size w w' := by
  obtain ⟨n, hn⟩ := Int.eq_ofNat_of_zero_le h0.1
  subst hn
  have HN2 : Hid (n ≤ 255) := Lib.hid (by omega)
  clear h0
  have hnb : (n : Int) ≤ 255 := by have := HN2.out; omega
  have hn0 : (0 : Int) ≤ (n : Int) := by omega
  have HN := Lib.hid (fun W => new_good 3 (by decide) (by decide) W)
  have hmk := make22_64
  have HC := Lib.hid hr
  have HC2 := Lib.hid hr.2.1
  clear hr
  obtain ⟨m, hm⟩ : ∃ n, n = l.length := ⟨_, rfl⟩
  have HL := Lib.hid hm
  rw [← hm]
  clear hm
  go_enter Try.func7, Try.ntmps7
  go_upto_region 1 with fail
  go_cut [5, 6] (fun v5 v6 wc => ∃ gd, v5 = .pointer (some ⟨gd, 0, none⟩) ∧ v6 = .int .i64 0 ∧ Hid (At wc w.heap.size (fun _ => False) gd (newD 3)) ∧ Hid (Below w.heap.size w wc))
  case first =>
    go_wp2_with (go_at_call 9; refine (HN.out _).mono ?_; rintro e w1 ⟨gd, rfl, hA, hB⟩; have QA := Lib.hid hA; have QB := Lib.hid hB; clear hA hB)
    go_meet
    case rel => exact ⟨gd, rfl, rfl, QA, QB⟩
  case rest =>
    obtain ⟨gd, rfl, rfl, HA, HB⟩ := hcut
    rename World => w1
    have HAW := Lib.hid (awake_calls w1)
    have HLI := Lib.hid (fun w2 (hb : Below w1.heap.size w1 w2) => limit_at (HA.out.below hb) (n : Int))
    go_wp2_with (first | (go_at_call 10; refine HAW.out.mono ?_; rintro e w2 ⟨rfl, hb⟩; have QW := Lib.hid hb; clear hb) | (go_at_call 21; refine (HLI.out _ QW.out).mono ?_; rintro e w3 ⟨rfl, hA, hK⟩; have QA := Lib.hid hA; have QK := Lib.hid hK; clear hA hK))
    go_loopg [7, 8] 400 (fun kq v7 _v8 wr => ∃ i : Nat, v7 = .int .i64 (i : Int) ∧ Hid (i + kq = 400) ∧ (∃ d, Hid (At wr w.heap.size (fun _ => False) gd d) ∧ Hid (Lim n i d)) ∧ Hid (Below w.heap.size w wr))
    case atStart =>
      refine ⟨0, rfl, Lib.hid (by omega), ⟨_, QA, Lib.hid ⟨rfl, Nat.le_refl _, fun _ => ⟨rfl, ?_⟩, fun h => by omega⟩⟩, Lib.hid ?_⟩
      · show max (n : Int) (-1) = _
        omega
      · exact (HB.out.trans (QW.out.mono HB.out.size)).trans (QK.out.to_below (Nat.le_trans HB.out.size QW.out.size))
    case round =>
      obtain ⟨i, rfl, I0, ⟨d, HA, HLm⟩, HB⟩ := hrel
      have him : (i : Int) ≤ 400 := by have := I0.out; omega
      have hi0 : (0 : Int) ≤ (i : Int) := by omega
      by_cases ge : m ≤ i ∨ i = 400
      · have hcnd : ¬ ((i : Int) < (m : Int)) ∨ ((i : Int) < (m : Int) ∧ ¬ ((i : Int) < 400)) := by omega
        rcases hcnd with hlt | ⟨hlt, hlt4⟩
        · have HCR : Hid (Calls Try.prog 14 #[.pointer (some ⟨gd, 0, none⟩), .slice none 0 0] wr fun e w' => e = .returned (.tuple #[]) ∧ At w' w.heap.size (fun _ => False) gd (crD d []) ∧ DM.Kept w.heap.size (fun _ => False) wr w') := Lib.hid (crash_at HA.out (fun _ h => h.elim) HB.out.size (by have := HLm.out.2.1; have := I0.out; omega) none 0 [] ⟨rfl, by decide, fun h => absurd h (by decide)⟩ (fun _ h => by cases h))
          have hlen : (crD d []).now.length = 3 := by
            show (crl d.las d.pen [] d.pen.length).length = 3
            rw [crl_length, At.len HA.out]
            exact HLm.out.1
          have HRD := Lib.hid (fun w2 (h : At w2 w.heap.size (fun _ => False) gd (crD d [])) => read_at h 0 (by rw [hlen]; decide) rfl)
          have HFL := Lib.hid (fun w2 (h : At w2 w.heap.size (fun _ => False) gd (crD d [])) (hb : w.heap.size ≤ w2.heap.size) => flush_at h (fun _ h => h.elim) hb rfl (by show (-1 : Int) ≠ 0; decide) (by show (-1 : Int) ≤ _; decide) (by show ([] : List (Int × List Int)).length ≤ _; decide))
          clear hlen
          go_wp2_with (first
            | (go_at_call 14; refine HCR.out.mono ?_; rintro e w2 ⟨rfl, hA, hK⟩; have QA := Lib.hid hA; have QB := Lib.hid (HB.out.trans (hK.to_below HB.out.size)); clear hA hK)
            | (go_at_call 12; refine (HRD.out _ QA.out).mono ?_; rintro e w3 ⟨v, rfl, hv, hB⟩; have QA3 := Lib.hid (QA.out.below hB); have QB3 := Lib.hid (QB.out.trans (hB.mono QB.out.size)); clear hv hB)
            | (go_at_call 13; refine (HFL.out _ QA3.out QB3.out.size).mono ?_; rintro e w4 ⟨rfl, hA, hK⟩; have QB4 := Lib.hid (QB3.out.trans (hK.to_below QB3.out.size)); clear hA hK))
          go_ret
          exact ⟨by first | rfl | (simp; done), QB4.out⟩
        · have HCR : Hid (Calls Try.prog 14 #[.pointer (some ⟨gd, 0, none⟩), .slice none 0 0] wr fun e w' => e = .returned (.tuple #[]) ∧ At w' w.heap.size (fun _ => False) gd (crD d []) ∧ DM.Kept w.heap.size (fun _ => False) wr w') := Lib.hid (crash_at HA.out (fun _ h => h.elim) HB.out.size (by have := HLm.out.2.1; have := I0.out; omega) none 0 [] ⟨rfl, by decide, fun h => absurd h (by decide)⟩ (fun _ h => by cases h))
          have hlen : (crD d []).now.length = 3 := by
            show (crl d.las d.pen [] d.pen.length).length = 3
            rw [crl_length, At.len HA.out]
            exact HLm.out.1
          have HRD := Lib.hid (fun w2 (h : At w2 w.heap.size (fun _ => False) gd (crD d [])) => read_at h 0 (by rw [hlen]; decide) rfl)
          have HFL := Lib.hid (fun w2 (h : At w2 w.heap.size (fun _ => False) gd (crD d [])) (hb : w.heap.size ≤ w2.heap.size) => flush_at h (fun _ h => h.elim) hb rfl (by show (-1 : Int) ≠ 0; decide) (by show (-1 : Int) ≤ _; decide) (by show ([] : List (Int × List Int)).length ≤ _; decide))
          clear hlen
          go_wp2_with (first
            | (go_at_call 14; refine HCR.out.mono ?_; rintro e w2 ⟨rfl, hA, hK⟩; have QA := Lib.hid hA; have QB := Lib.hid (HB.out.trans (hK.to_below HB.out.size)); clear hA hK)
            | (go_at_call 12; refine (HRD.out _ QA.out).mono ?_; rintro e w3 ⟨v, rfl, hv, hB⟩; have QA3 := Lib.hid (QA.out.below hB); have QB3 := Lib.hid (QB.out.trans (hB.mono QB.out.size)); clear hv hB)
            | (go_at_call 13; refine (HFL.out _ QA3.out QB3.out.size).mono ?_; rintro e w4 ⟨rfl, hA, hK⟩; have QB4 := Lib.hid (QB3.out.trans (hK.to_below QB3.out.size)); clear hA hK))
          go_ret
          exact ⟨by first | rfl | (simp; done), QB4.out⟩
      · have hlt : (i : Int) < (m : Int) := by omega
        have hlt4 : (i : Int) < 400 := by omega
        obtain ⟨ad, eA, hx⟩ := Kd.at_bool (Kd.C_below HC.out HB.out) (i : Int) hi0 (by have := HL.out; omega)
        subst eA
        obtain ⟨bv, hbv⟩ : ∃ b, b = rdOf false l (i : Int) := ⟨_, rfl⟩
        rw [← hbv] at hx
        clear hbv
        rw [Int.toNat_natCast] at hx
        cases gk with
        | zero => exact absurd I0.out (by omega)
        | succ k1 =>
          cases bv with
          | true =>
            have HFL := Lib.hid (flush_lim HA.out HLm.out (fun _ h => h.elim) HB.out.size (by omega) HN2.out)
            rcases limF_eq n i with ⟨eF, hin⟩ | ⟨eF, hin⟩
            · rw [eF] at HFL
              have hin' : (i : Int) < (n : Int) := by omega
              go_wp2_with (go_at_call 13; refine HFL.out.mono ?_; rintro e w2 ⟨rfl, d2, hA, hL, hK⟩; have QA := Lib.hid hA; have QL := Lib.hid hL; have QB := Lib.hid (HB.out.trans (hK.to_below HB.out.size)); clear hA hL hK)
              go_roundg k1
              case measure => omega
              case rel => exact ⟨i + 1, by first | rfl | (simp; done), Lib.hid (by have := I0.out; omega), ⟨d2, QA, QL⟩, QB⟩
            · rw [eF] at HFL
              have hin' : ¬ (i : Int) < (n : Int) := by omega
              go_wp2_with (go_at_call 13; refine HFL.out.mono ?_; rintro e w2 ⟨rfl, d2, hA, hL, hK⟩; have QA := Lib.hid hA; have QL := Lib.hid hL; have QB := Lib.hid (HB.out.trans (hK.to_below HB.out.size)); clear hA hL hK)
              go_roundg k1
              case measure => omega
              case rel => exact ⟨i + 1, by first | rfl | (simp; done), Lib.hid (by have := I0.out; omega), ⟨d2, QA, QL⟩, QB⟩
          | false =>
            have hn : (wr.alloc (.cells (madeCells #[.int .u8 0] 64) 5)).heap[wr.heap.size]? = some (.cells (madeCells #[.int .u8 0] 64) 5 (0, 0)) := by show (wr.heap.push _)[wr.heap.size]? = _; rw [Array.getElem?_push_size]
            have hs := size_alloc wr (.cells (madeCells #[.int .u8 0] 64) 5)
            have HB1 := Lib.hid (HB.out.alloc HB.out.size (.cells (madeCells #[.int .u8 0] 64) 5))
            have HW := write_lim (At.new HA.out (.cells (madeCells #[.int .u8 0] 64) 5)) HLm.out (fun k hk => by
              rcases hk with hk | hk
              · exact hk.elim
              · rw [hs, hk]; omega) HB1.out.size (by omega) HN2.out (i % 3) (by omega) wr.heap.size 64 zero64 (by unfold zero64; exact List.length_replicate) (made_block hn).1 (.inl (.inr rfl))
            have e3 : ((i % 3 : Nat) : Int) = (i : Int) % 3 := by omega
            rw [e3] at HW
            have HW2 := Lib.hid HW
            clear HW hn hs e3
            rcases limF_eq n i with ⟨eF, hin⟩ | ⟨eF, hin⟩
            · rw [eF] at HW2
              have hin' : (i : Int) < (n : Int) := by omega
              go_wp2_with (go_at_call 11; refine HW2.out.mono ?_; rintro e w2 ⟨rfl, d2, hA, hL, hK⟩; have QA := Lib.hid hA; have QL := Lib.hid hL; have QB := Lib.hid (HB1.out.trans (hK.to_below HB1.out.size)); clear hA hL hK)
              go_roundg k1
              case measure => omega
              case rel => exact ⟨i + 1, by first | rfl | (simp; done), Lib.hid (by have := I0.out; omega), ⟨d2, Lib.hid (QA.out.more (fun _ h => h.elim)), QL⟩, QB⟩
            · rw [eF] at HW2
              have hin' : ¬ (i : Int) < (n : Int) := by omega
              go_wp2_with (go_at_call 11; refine HW2.out.mono ?_; rintro e w2 ⟨rfl, d2, hA, hL, hK⟩; have QA := Lib.hid hA; have QL := Lib.hid hL; have QB := Lib.hid (HB1.out.trans (hK.to_below HB1.out.size)); clear hA hL hK)
              go_roundg k1
              case measure => omega
              case rel => exact ⟨i + 1, by first | rfl | (simp; done), Lib.hid (by have := I0.out; omega), ⟨d2, Lib.hid (QA.out.more (fun _ h => h.elim)), QL⟩, QB⟩
end Go.Proofs.Ytghodkjpjjbcnaa.DO
