/- A disk's calls, with what they leave as it was; and the simplest facts (awake). -/
import Derived.Test.YtghodkjpjjbcnaaDiskWrite
namespace Go.Proofs.Ytghodkjpjjbcnaa.DO
open Go.RowKit Go.Proofs.Ytghodkjpjjbcnaa.DM Go.Proofs.YtghodkjpjjbcnaaW.PrintWords Go.Proofs.YtghodkjpjjbcnaaW.PrintLast Go.Proofs.YtghodkjpjjbcnaaW.PrintMore
set_option linter.unusedSimpArgs false

theorem WDone.at {w w' : World} {gd gl gn : Nat} {pv : Value} {d' : D} (h : WDone w w' gd gl gn pv d') {base : Nat} {Ex : Nat → Prop} (hF : ∀ k, Foot gd gl gn pv k → base ≤ k ∧ ¬ Ex k) (hE : ∀ k, Ex k → k < w.heap.size) (hb : base ≤ w.heap.size) : At w' base Ex gd d' ∧ DM.Kept base Ex w w' := by
  obtain ⟨pv', h1, h2, h3⟩ := h
  refine ⟨⟨gl, gn, pv', h1, fun k hk => ?_⟩, h3 base Ex hF hb hE⟩
  rcases hk with hk | hk | hk | hk
  · exact hF k (.inl hk)
  · exact hF k (.inr (.inl hk))
  · exact hF k (.inr (.inr (.inl hk)))
  · rcases h2 k hk with h | h
    · exact hF k (.inr (.inr (.inr h)))
    · exact ⟨by omega, fun he => by have := hE k he; omega⟩
/-- A write that is done. -/
def wrD (d : D) (n : Nat) (s : List Int) : D := { spD d with now := d.now.set n s, pen := d.pen ++ [((n : Int), s)] }
/-- A block that is made now is none of the disk's. -/
theorem At.new {w : World} {base : Nat} {Ex : Nat → Prop} {gd : Nat} {d : D} (h : At w base Ex gd d) (o : Obj) : At (w.alloc o) base (fun k => Ex k ∨ k = w.heap.size) gd d := by
  obtain ⟨gl, gn, pv, h1, h2⟩ := h
  refine ⟨gl, gn, pv, h1.move (fun k hk => Below.heap_alloc w o k (h1.lt k hk)), fun k hk => ⟨(h2 k hk).1, fun hx => ?_⟩⟩
  rcases hx with hx | hx
  · exact (h2 k hk).2 hx
  · have := h1.lt k hk; omega
/-- The same, of a row that a call has made. -/
theorem At.newRow {w w' : World} {base : Nat} {Ex : Nat → Prop} {gd : Nat} {d : D} (h : At w base Ex gd d) (hb : Below w.heap.size w w') (g : Nat) (hg : w.heap.size ≤ g) : At w' base (fun k => Ex k ∨ k = g) gd d := by
  obtain ⟨gl, gn, pv, h1, h2⟩ := h
  refine ⟨gl, gn, pv, h1.move (fun k hk => hb.block k (h1.lt k hk)), fun k hk => ⟨(h2 k hk).1, fun hx => ?_⟩⟩
  rcases hx with hx | hx
  · exact (h2 k hk).2 hx
  · have := h1.lt k hk; omega
theorem write_at {w : World} {base : Nat} {Ex : Nat → Prop} {gd : Nat} {d : D} (h : At w base Ex gd d) (hE : ∀ k, Ex k → k < w.heap.size) (hb : base ≤ w.heap.size) (n : Nat) (hn : n < d.now.length) (ho : d.off = false) (hl : d.lim ≠ 0) (hlm : d.lim ≤ 9223372036854775807) (gs c : Nat) (s : List Int) (hs : s.length = 64) (hr : w.rangeAt gs 0 (cellsOf s)) (hg : Ex gs ∨ gs < base) (hp : d.pen.length ≤ 1000000) :
    Calls Try.prog 11 #[.pointer (some ⟨gd, 0, none⟩), .int .i64 (n : Int), .slice (some ⟨gs, 0, none⟩) 64 c] w fun e w' => e = .returned (.int .i64 0) ∧ At w' base Ex gd (wrD d n s) ∧ DM.Kept base Ex w w' := by
  obtain ⟨gl, gn, pv, hI, hF⟩ := h
  have hne : ∀ k, Foot gd gl gn pv k → gs ≠ k := fun k hk e => by
    subst e
    have := hF gs hk
    exact hg.elim this.2 (by omega)
  refine (write_good hI n hn ho hl hlm gs c s hs hr ⟨hne gd (.inl rfl), hne gn (.inr (.inr (.inl rfl)))⟩ (fun e => hne gs (.inr (.inr (.inr e.symm))) rfl) hp).mono ?_
  rintro e w' ⟨h1, h2⟩
  exact ⟨h1, h2.at hF hE hb⟩
theorem read_at {w : World} {base : Nat} {Ex : Nat → Prop} {gd : Nat} {d : D} (h : At w base Ex gd d) (n : Nat) (hn : n < d.now.length) (ho : d.off = false) : Calls Try.prog 12 #[.pointer (some ⟨gd, 0, none⟩), .int .i64 (n : Int)] w fun e w' => ∃ v, e = .returned (.tuple #[v, .int .i64 0]) ∧ Kd.R (Kd.int .u8) 5 w' w.heap.size (fun _ => True) v (d.now.getD n []) ∧ Below w.heap.size w w' := by
  obtain ⟨gl, gn, pv, hI, _⟩ := h
  exact read_good hI n hn ho
theorem lasting_at {w : World} {base : Nat} {Ex : Nat → Prop} {gd : Nat} {d : D} (h : At w base Ex gd d) (n : Nat) (hn : n < d.now.length) : Calls Try.prog 16 #[.pointer (some ⟨gd, 0, none⟩), .int .i64 (n : Int)] w fun e w' => ∃ v, e = .returned (.tuple #[v, .int .i64 0]) ∧ Kd.R (Kd.int .u8) 5 w' w.heap.size (fun _ => True) v (d.las.getD n []) ∧ Below w.heap.size w w' := by
  obtain ⟨gl, gn, pv, hI, _⟩ := h
  exact lasting_good hI n hn
theorem pending_at {w : World} {base : Nat} {Ex : Nat → Prop} {gd : Nat} {d : D} (h : At w base Ex gd d) : Calls Try.prog 15 #[.pointer (some ⟨gd, 0, none⟩)] w fun e w' => e = .returned (.int .i64 (d.pen.length : Int)) ∧ w' = w := by
  obtain ⟨gl, gn, pv, hI, _⟩ := h
  exact pending_calls hI
/-- What a read answers: a row of the call's own. -/
theorem R64 {W : World} {b : Nat} {v : Value} {s : List Int} (h : Kd.R (Kd.int .u8) 5 W b (fun _ => True) v s) (hs : s.length = 64) : ∃ g c, v = .slice (some ⟨g, 0, none⟩) 64 c ∧ 64 ≤ c ∧ b ≤ g ∧ g < W.heap.size ∧ W.rangeAt g 0 (cellsOf s) ∧ W.there g 0 64 := by
  have ho := Kd.own_of_R h
  obtain ⟨g, c, e, hb, hlt⟩ := ho.form (by omega)
  subst e
  have hc : s.length ≤ c := by
    rcases ho.2 with ⟨h1, h2⟩ | ⟨g', cap', cur, h1, _, _, h4, _⟩
    · omega
    · cases h1; exact h4
  refine ⟨g, c, by rw [hs], by omega, hb, hlt, fun j v hv => ?_, fun j hj => ?_⟩
  · have hj : j < s.length := by have := (List.getElem?_eq_some_iff.1 hv).1; rwa [cellsOf_length] at this
    rw [Nat.zero_add, ho.cellAt j (by omega)]
    exact hv
  · rw [Nat.zero_add]
    refine ⟨?_, ho.frozenAt j⟩
    rw [ho.cellAt j (by omega)]
    have : j < (encs (Value.int .u8) s).length := by simp [encs]; omega
    rw [List.getElem?_eq_getElem this]
    rfl

/-- A row of n zero bytes that was made. -/
theorem make22 (n : Nat) (hn : n ≤ 4096) (w : World) : (Instr.makeSlice 22 (.int .i64 (n : Int)) (.int .i64 (n : Int))).run Try.prog w = .ok (.slice (some ⟨w.heap.size, 0, none⟩) n n) (w.alloc (.cells (madeCells #[.int .u8 0] n) 5)) :=
  run_make_row' (P := Try.prog) 22 5 (.int .u8 0) 1 Try.underlying22 info5 rfl .i64 .i64 n (by omega) (by omega) w
theorem make22_64 (w : World) : (Instr.makeSlice 22 (.int .i64 64) (.int .i64 64)).run Try.prog w = .ok (.slice (some ⟨w.heap.size, 0, none⟩) 64 64) (w.alloc (.cells (madeCells #[.int .u8 0] 64) 5)) := make22 64 (by omega) w
def zero64 : List Int := List.replicate 64 0
theorem made_block {w : World} {g : Nat} (h : w.heap[g]? = some (.cells (madeCells #[.int .u8 0] 64) 5 (0, 0))) : w.rangeAt g 0 (cellsOf zero64) ∧ w.there g 0 64 := by
  have hc : ∀ j, j < 64 → w.cell? ⟨g, j, none⟩ = some (.int .u8 0) := fun j hj => by
    rw [cell_of_row w g j _ _ _ h, ← Array.getElem?_toList, toList_madeCells_one, List.getElem?_replicate_of_lt hj]
  refine ⟨fun j v hv => ?_, fun j hj => ?_⟩
  · have hj : j < 64 := by have := (List.getElem?_eq_some_iff.1 hv).1; simpa [cellsOf, zero64] using this
    have e : (cellsOf zero64)[j]? = some (.int .u8 0) := by
      unfold cellsOf zero64
      rw [List.map_replicate, List.getElem?_replicate_of_lt hj]
    rw [e] at hv
    rw [Nat.zero_add, hc j hj]
    exact hv
  · rw [Nat.zero_add, hc j hj]
    refine ⟨rfl, ?_⟩
    unfold World.frozen?
    rw [show w.heap[(⟨g, j, none⟩ : Addr).block]? = _ from h]
    simp
/-- One byte of a row is stored. -/
theorem byte_set {w : World} {g : Nat} {s : List Int} (h : w.rangeAt g 0 (cellsOf s)) (ht : w.there g 0 s.length) (j : Nat) (hj : j < s.length) (x : Int) : (w.setCell ⟨g, j, none⟩ (.int .u8 x)).rangeAt g 0 (cellsOf (s.set j x)) ∧ (w.setCell ⟨g, j, none⟩ (.int .u8 x)).there g 0 s.length := by
  have h0 : ∀ i, i < s.length → w.cell? ⟨g, i, none⟩ = some (.int .u8 (s.getD i 0)) := fun i hi => by
    have := h i (.int .u8 (s.getD i 0)) (by unfold cellsOf; rw [List.getElem?_map, List.getElem?_eq_getElem hi, List.getD_eq_getElem?_getD, List.getElem?_eq_getElem hi]; rfl)
    rwa [Nat.zero_add] at this
  have hc := cell_field w g j (.int .u8 x) _ (h0 j hj)
  refine ⟨fun i v hv => ?_, fun i hi => ?_⟩
  · have hi : i < s.length := by have := (List.getElem?_eq_some_iff.1 hv).1; rwa [cellsOf_length, List.length_set] at this
    rw [Nat.zero_add, hc i]
    unfold cellsOf at hv
    rw [List.map_set] at hv
    by_cases e : i = j
    · subst e
      rw [if_pos rfl]
      rw [List.getElem?_set_self (by rw [List.length_map]; exact hi)] at hv
      exact hv
    · rw [if_neg e]
      rw [List.getElem?_set_ne (Ne.symm e)] at hv
      have := h i v hv
      rwa [Nat.zero_add] at this
  · rw [Nat.zero_add, hc i, frozen_field]
    have := ht i hi
    rw [Nat.zero_add] at this
    refine ⟨?_, this.2⟩
    split
    · rfl
    · exact this.1

set_option maxHeartbeats 2000000 in
theorem awake_calls (w : World) : Calls Try.prog 10 #[] w fun e w' => e = .returned (.bool true) ∧ Below w.heap.size w w' := by
  have HN := Lib.hid (fun W => new_good 2 (by decide) (by decide) W)
  have hmk := make22_64
  go_enter Try.func10, Try.ntmps10
  go_upto_region 1 with fail
  go_cut [1, 2] (fun v1 v2 wc => ∃ gd, v1 = .pointer (some ⟨gd, 0, none⟩) ∧ v2 = .int .i64 0 ∧ Hid (At wc w.heap.size (fun _ => False) gd (newD 2)) ∧ Hid (Below w.heap.size w wc))
  case first =>
    go_wp2_with (go_at_call 9; refine (HN.out _).mono ?_; rintro e w1 ⟨gd, rfl, hA, hB⟩; have QA := Lib.hid hA; have QB := Lib.hid hB; clear hA hB)
    go_meet
    case rel => exact ⟨gd, rfl, rfl, QA, QB⟩
  case rest =>
    obtain ⟨gd, rfl, rfl, HA, HB⟩ := hcut
    rename World => w1
    go_upto_region 4 with fail
    go_cut [3] (fun v3 wc => ∃ gb, v3 = .slice (some ⟨gb, 0, none⟩) 64 64 ∧ Hid (wc.rangeAt gb 0 (cellsOf zero64) ∧ wc.there gb 0 64) ∧ Hid (At wc w.heap.size (fun k => k = gb) gd (newD 2)) ∧ Hid (Below w.heap.size w wc) ∧ Hid (gb < wc.heap.size ∧ w.heap.size ≤ gb))
    case first =>
      go_wp2_with fail
      go_meet
      case rel =>
        have hb := Below.heap_alloc w1 (.cells (madeCells #[.int .u8 0] 64) 5)
        have hn : (w1.alloc (.cells (madeCells #[.int .u8 0] 64) 5)).heap[w1.heap.size]? = some (.cells (madeCells #[.int .u8 0] 64) 5 (0, 0)) := by show (w1.heap.push _)[w1.heap.size]? = _; rw [Array.getElem?_push_size]
        have hs := size_alloc w1 (.cells (madeCells #[.int .u8 0] 64) 5)
        exact ⟨_, rfl, Lib.hid (made_block hn), Lib.hid ((At.new HA.out _).more (fun k hk _ => .inl (.inr hk))), Lib.hid (HB.out.alloc HB.out.size _), Lib.hid ⟨by rw [hs]; omega, HB.out.size⟩⟩
    case rest =>
      clear HA HB
      obtain ⟨gb, rfl, HT, HA, HB, HG⟩ := hcut
      rename World => w2
      have hc0 : w2.cell? ⟨gb, 0, none⟩ = some (.int .u8 0) := HT.out.1 0 _ rfl
      have hf0 := (HT.out.2 0 (by decide)).2
      obtain ⟨HT1, HT2⟩ := byte_set HT.out.1 HT.out.2 0 (by decide) 7
      obtain ⟨s7, hs7⟩ : ∃ s, s = zero64.set 0 7 := ⟨_, rfl⟩
      rw [← hs7] at HT1
      have hs64 : s7.length = 64 := by rw [hs7]; rfl
      have H7 : Hid (s7.getD 0 0 = 7) := Lib.hid (by rw [hs7]; rfl)
      have HW := Lib.hid (write_at (HA.out.setCell (p := ⟨gb, 0, none⟩) (.inl rfl) (.int .u8 7)) (fun k hk => by rw [size_set]; have := HG.out.1; have e : k = gb := hk; omega) (by rw [size_set]; exact HB.out.size) 1 (by decide) rfl (by decide) (by decide) gb 64 s7 hs64 HT1 (.inl rfl) (by decide))
      have HB2 := Lib.hid (HB.out.setCell (p := ⟨gb, 0, none⟩) HG.out.2 (.int .u8 7))
      clear HT1 HT2 HA HB HT hs7
      go_upto_region 6 with fail
      go_cut [4] (fun v4 wc => v4 = .int .i64 0 ∧ Hid (At wc w.heap.size (fun k => k = gb) gd (wrD (newD 2) 1 s7)) ∧ Hid (Below w.heap.size w wc))
      case first =>
        go_wp2_with (go_at_call 11; refine HW.out.mono ?_; rintro e w3 ⟨rfl, hA, hK⟩; have QA := Lib.hid hA; have QK := Lib.hid hK; clear hA hK)
        go_meet
        case rel => exact ⟨rfl, QA, Lib.hid (HB2.out.trans (QK.out.to_below HB2.out.size))⟩
      case rest =>
        clear HW HB2
        obtain ⟨rfl, HA, HB⟩ := hcut
        rename World => w3
        have HR := Lib.hid (read_at HA.out 1 (by show 1 < ((zeros 2).set 1 s7).length; rw [List.length_set]; decide) rfl)
        go_upto_region 7 with fail
        go_cut [5, 6] (fun v5 v6 wc => ∃ g c, v5 = .slice (some ⟨g, 0, none⟩) 64 c ∧ v6 = .int .i64 0 ∧ Hid (wc.cell? ⟨g, 0, none⟩ = some (.int .u8 7)) ∧ Hid (At wc w.heap.size (fun k => k = gb) gd (wrD (newD 2) 1 s7)) ∧ Hid (Below w.heap.size w wc))
        case first =>
          go_wp2_with (go_at_call 12; refine HR.out.mono ?_; rintro e w4 ⟨v, rfl, hv, hB⟩; have QV := Lib.hid hv; have QB := Lib.hid hB; clear hv hB)
          go_meet
          case rel =>
            have e : (wrD (newD 2) 1 s7).now.getD 1 [] = s7 := rfl
            have hv := QV.out
            rw [e] at hv
            obtain ⟨g, c, e2, _, _, _, hr, _⟩ := R64 hv hs64
            subst e2
            have h0 := hr 0 (.int .u8 (s7.getD 0 0)) (by unfold cellsOf; rw [List.getElem?_map, List.getElem?_eq_getElem (by omega), List.getD_eq_getElem?_getD, List.getElem?_eq_getElem (by omega)]; rfl)
            rw [H7.out] at h0
            exact ⟨g, c, rfl, rfl, Lib.hid h0, Lib.hid (HA.out.below QB.out), Lib.hid (HB.out.trans (QB.out.mono HB.out.size))⟩
        case rest =>
          clear HR HA HB
          obtain ⟨g5, c5, rfl, rfl, HC, HA, HB⟩ := hcut
          rename World => w4
          have HR := Lib.hid (lasting_at HA.out 1 (by show 1 < ((zeros 2).set 1 s7).length; rw [List.length_set]; decide))
          go_upto_region 8 with fail
          go_cut [7, 8] (fun v7 v8 wc => ∃ g c, v7 = .slice (some ⟨g, 0, none⟩) 64 c ∧ v8 = .int .i64 0 ∧ Hid (wc.cell? ⟨g, 0, none⟩ = some (.int .u8 0)) ∧ Hid (wc.cell? ⟨g5, 0, none⟩ = some (.int .u8 7)) ∧ Hid (At wc w.heap.size (fun k => k = gb) gd (wrD (newD 2) 1 s7)) ∧ Hid (Below w.heap.size w wc))
          case first =>
            go_wp2_with (go_at_call 16; refine HR.out.mono ?_; rintro e w5 ⟨v, rfl, hv, hB⟩; have QV := Lib.hid hv; have QB := Lib.hid hB; clear hv hB)
            go_meet
            case rel =>
              have e : (wrD (newD 2) 1 s7).las.getD 1 [] = zero64 := rfl
              have hv := QV.out
              rw [e] at hv
              obtain ⟨g, c, e2, _, _, _, hr, _⟩ := R64 hv rfl
              subst e2
              have h0 := hr 0 (.int .u8 0) rfl
              exact ⟨g, c, rfl, rfl, Lib.hid h0, Lib.hid ((QB.out.cell (World.block_lt_of_cell? _ _ HC.out)).trans HC.out), Lib.hid (HA.out.below QB.out), Lib.hid (HB.out.trans (QB.out.mono HB.out.size))⟩
          case rest =>
            clear HR HA HB HC
            obtain ⟨g7, c7, rfl, rfl, HC7, HC5, HA, HB⟩ := hcut
            have x7 := HC7.out
            have x5 := HC5.out
            have HP := Lib.hid (pending_at HA.out)
            rw [show (((wrD (newD 2) 1 s7).pen.length : Nat) : Int) = 1 from rfl] at HP
            go_wp2_with (go_at_call 15; refine HP.out.mono ?_; rintro e w6 ⟨rfl, rfl⟩)
            go_ret
            exact ⟨rfl, HB.out⟩
end Go.Proofs.Ytghodkjpjjbcnaa.DO
