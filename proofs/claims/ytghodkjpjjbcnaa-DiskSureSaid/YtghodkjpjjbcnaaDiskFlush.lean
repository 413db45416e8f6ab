/- A disk's Flush and Crash, walked. -/
import Derived.Test.YtghodkjpjjbcnaaDiskPad
import Derived.LoopTactic
import Derived.Deep.LoopGhost
namespace Go.Proofs.Ytghodkjpjjbcnaa.DO
open Go.RowKit Go.Proofs.Ytghodkjpjjbcnaa.DM Go.Proofs.YtghodkjpjjbcnaaW.PrintWords Go.Proofs.YtghodkjpjjbcnaaW.PrintLast Go.Proofs.YtghodkjpjjbcnaaW.PrintMore
set_option linter.unusedSimpArgs false

/-- The sectors behind these writes, as far as they are kept. -/
def laid (las : List (List Int)) : List (Int × List Int) → List (List Int)
  | [] => las
  | p :: r => laid (las.set p.1.toNat p.2) r
theorem laid_length : ∀ (pen : List (Int × List Int)) (las : List (List Int)), (laid las pen).length = las.length
  | [], _ => rfl
  | p :: r, las => by rw [laid, laid_length r, List.length_set]
theorem laid_snoc : ∀ (pen : List (Int × List Int)) (las : List (List Int)) (p : Int × List Int), laid las (pen ++ [p]) = (laid las pen).set p.1.toNat p.2
  | [], las, p => rfl
  | q :: r, las, p => by rw [List.cons_append, laid, laid_snoc r, laid]
/-- The parts of In that a round of the loops keeps. -/
theorem pen_range {w : World} {pen : List (Int × List Int)} {A : Option Addr} {c : Nat} (ho : w.ownsRow 0 63 65 (.slice A pen.length c) pen.length (penCells pen)) (hok : ∀ p ∈ pen, p.2.length = 64) (k : Nat) (hk : k < pen.length) : ∃ g, A = some ⟨g, 0, none⟩ ∧ (Value.slice A pen.length c).ownBlock = some g ∧ w.rangeAt g (k * 65) (.int .i64 (pen.getD k (0, [])).1 :: cellsOf (pen.getD k (0, [])).2) := by
  obtain ⟨g, c', e, _, _⟩ := ho.form (by omega)
  have e1 : A = some ⟨g, 0, none⟩ := by cases e; rfl
  subst e1
  refine ⟨g, rfl, rfl, fun j v hv => ?_⟩
  obtain ⟨l1, l2⟩ := penCells_get pen hok
  have hlt : j < 65 := by
    have := (List.getElem?_eq_some_iff.1 hv).1
    rw [List.length_cons, cellsOf_length] at this
    have hm : pen.getD k (0, []) ∈ pen := by
      rw [List.getD_eq_getElem?_getD, List.getElem?_eq_getElem hk]
      exact List.getElem_mem _
    rw [hok _ hm] at this
    exact this
  rw [ho.cellAt (k * 65 + j) (by omega), l2 k j hk hlt]
  exact hv
theorem wpList_alloc63 {w : World} {ops : Array Oper} {rest : List Oper} {o : Oper} {a : Act} {Q : Exit → Act → World → Prop} (hgd : o.guard = none) (ho : o.op = .alloc 63) (h : ∀ Z : Array Value, Z.size = 65 → wpList Try.prog ops Q rest (a.put o.dst (.pointer (some ⟨w.heap.size, 0, none⟩))) (w.alloc (.cells Z 63))) : wpList Try.prog ops Q (o :: rest) a w := by
  refine wpList_plain hgd fun K hK => ?_
  obtain ⟨i, hi, hzz⟩ := Option.map_eq_some_iff.1 info63
  simp only [Prod.mk.injEq] at hzz
  obtain ⟨hz, hs, hb⟩ := hzz
  obtain ⟨z, hz0, hz1⟩ := Option.map_eq_some_iff.1 hz
  have hrun : (Instr.alloc 63 true (.tuple #[])).run Try.prog w = .ok (.pointer (some ⟨w.heap.size, 0, none⟩)) (w.alloc (.cells z.cells 63)) := by
    simp [Instr.alloc, zeroValue, typeInfo, hi, hz0, newVar, newRow]
  unfold Oper.wp execOp
  simp only [ho, Sem.run_bind, hrun, Result.andThen_ok, Sem.run_pure]
  exact hK _ _ (h z.cells hz1)
theorem new_there {w : World} {Z : Array Value} (hZ : Z.size = 65) : (w.alloc (.cells Z 63)).there w.heap.size 0 65 := fun j hj => by
  have hb : (w.alloc (.cells Z 63)).heap[w.heap.size]? = some (.cells Z 63 (0, 0)) := by show (w.heap.push _)[w.heap.size]? = _; rw [Array.getElem?_push_size]
  rw [Nat.zero_add]
  refine ⟨?_, ?_⟩
  · rw [cell_of_row _ _ j _ _ _ hb, Array.getElem?_eq_getElem (by omega)]; rfl
  · unfold World.frozen?
    rw [show (w.alloc (.cells Z 63)).heap[(⟨w.heap.size, j, none⟩ : Addr).block]? = _ from hb]
    simp
theorem size63 : (Try.prog.info? 63).map (·.size) = some 65 := by kernel_rfl
/-- What the disk is behind the first k writes. -/
def atK (d : D) (k : Nat) : D := { d with las := laid d.las (d.pen.take k) }
theorem keep_las {W : World} {gd gl b5 o : Nat} {v u : Value} {cs : List Value} (hc : W.cell? ⟨gd, 0, none⟩ = some v) (hn : W.cell? ⟨b5, 0, none⟩ = some u) (hr : W.rangeAt b5 1 cs) (ht : W.there gl o 64) (h1 : gd ≠ gl) (h2 : b5 ≠ gl) :
    (W.setCells gl o cs).cell? ⟨gd, 0, none⟩ = some v ∧ (W.setCells gl o cs).cell? ⟨b5, 0, none⟩ = some u ∧ (W.setCells gl o cs).rangeAt b5 1 cs ∧ (W.setCells gl o cs).there gl o 64 :=
  ⟨(World.cell?_of_block ((setCells_world gl cs o W).2.2.2.2 gd h1)).trans hc, (World.cell?_of_block ((setCells_world gl cs o W).2.2.2.2 b5 h2)).trans hn, World.rangeAt_setCells_apart hr _ _ _ (.inl h2), World.there_setCells ht _ _ _⟩

theorem flush_bad {w : World} {gd gl gn : Nat} {pv : Value} {d : D} (h : In w gd gl gn pv d) (ho : d.off = true) : Calls Try.prog 13 #[.pointer (some ⟨gd, 0, none⟩)] w fun e w' => e = .returned (.int .i64 8) ∧ w' = w := by
  have HR := Lib.hid (ready_calls h)
  unfold rdy at HR
  rw [if_pos ho] at HR
  clear h ho
  go_enter Try.func13, Try.ntmps13
  go_wp2_with (go_at_call 23; refine HR.out.mono ?_; rintro e w' ⟨rfl, rfl⟩)
  go_ret
  exact ⟨rfl, rfl⟩
theorem flush_off {w : World} {gd gl gn : Nat} {pv : Value} {d : D} (h : In w gd gl gn pv d) (ho : d.off = false) (hl : d.lim = 0) : Calls Try.prog 13 #[.pointer (some ⟨gd, 0, none⟩)] w fun e w' => e = .returned (.int .i64 8) ∧ w' = spW w gd d := by
  have HR := Lib.hid (ready_calls h)
  have HS := Lib.hid (spend_calls h (by omega))
  unfold rdy at HR
  unfold spE at HS
  rw [ho, if_neg (by decide)] at HR
  rw [if_pos hl] at HS
  clear h hl
  go_enter Try.func13, Try.ntmps13
  go_wp2_with (first | (go_at_call 23; refine HR.out.mono ?_; rintro e w' ⟨rfl, rfl⟩) | (go_at_call 24; refine HS.out.mono ?_; rintro e w' ⟨rfl, rfl⟩))
  go_ret
  exact ⟨rfl, rfl⟩

set_option maxHeartbeats 4000000 in
theorem flush_good {w : World} {gd gl gn : Nat} {pv : Value} {d : D} (h : In w gd gl gn pv d) (ho : d.off = false) (hl : d.lim ≠ 0) (hlm : d.lim ≤ 9223372036854775807) (hp : d.pen.length ≤ 1000000) :
    Calls Try.prog 13 #[.pointer (some ⟨gd, 0, none⟩)] w fun e w' => e = .returned (.int .i64 0) ∧ WDone w w' gd gl gn pv { spD d with las := laid d.las d.pen, pen := [] } := by
  have HR := Lib.hid ((ready_calls h).mono (fun e w' h => (⟨h.1, h.2.symm⟩ : _ ∧ w = w')))
  have HS := Lib.hid ((spend_calls h hlm).mono (fun e w' h => (⟨h.1, h.2.symm⟩ : _ ∧ spW w gd d = w')))
  have hS := sp_in h
  have HKW := Lib.hid (sp_kept (w := w) (gd := gd) (gl := gl) (gn := gn) (pv := pv) d)
  unfold rdy at HR
  unfold spE at HS
  rw [ho, if_neg (by decide)] at HR
  rw [if_neg hl] at HS
  have hpn := spD_pen d
  obtain ⟨A, c, ep⟩ := pen_slice hS
  rw [hpn] at ep
  have hc2 := hS.c2
  have HIN := Lib.hid hS
  have HPN := Lib.hid hpn
  have HLA := Lib.hid (spD_las d)
  clear h hS ho hl hpn hlm
  generalize hW : spW w gd d = W1 at *
  clear hW
  subst ep
  obtain ⟨m, hm⟩ : ∃ m, m = d.pen.length := ⟨_, rfl⟩
  have HM := Lib.hid hm
  rw [← hm] at hc2 hp
  clear hm
  go_enter Try.func13, Try.ntmps13
  go_wp2_with (first | (go_at_call 23; refine HR.out.mono ?_; rintro e w' ⟨rfl, rfl⟩) | (go_at_call 24; refine HS.out.mono ?_; rintro e w' ⟨rfl, rfl⟩))
  go_loopg [20] m (fun kq v20 wr => ∃ k : Nat, v20 = .int .i64 (k : Int) ∧ Hid (k + kq = m) ∧ Hid (In wr gd gl gn (.slice A d.pen.length c) (atK (spD d) k)) ∧ Hid (∀ (base : Nat) (Ex : Nat → Prop), (∀ k, Foot gd gl gn (.slice A d.pen.length c) k → base ≤ k ∧ ¬ Ex k) → base ≤ w.heap.size → (∀ k, Ex k → k < w.heap.size) → DM.Kept base Ex w wr))
  case atStart =>
    exact ⟨0, rfl, Lib.hid (by omega), HIN, Lib.hid (fun base Ex hF _ _ => HKW.out base Ex hF)⟩
  case round =>
    obtain ⟨k, rfl, K0, KI, KK⟩ := hrel
    cases gk with
    | zero =>
      have hk : k = m := by have := K0.out; omega
      subst hk
      have hc2' := KI.out.c2
      have hf2 := KI.out.fr 2 (by decide)
      go_wp2
      go_ret
      refine ⟨rfl, .slice none 0 0, ?_, fun b hb => by simp [Value.ownBlock] at hb, fun base Ex hF hb hE => (KK.out base Ex hF hb hE).setCell (hF gd (.inl rfl)).1 (hF gd (.inl rfl)).2 _⟩
      have h := KI.out.setPen [] (World.ownsRow_nil _ _ _ _) (fun p hp => by simp at hp) (fun b hb => by simp [Value.ownBlock] at hb) (pv' := .slice none 0 0)
      have e : ({ atK (spD d) k with pen := [] } : D) = { spD d with las := laid d.las d.pen, pen := [] } := by
        unfold atK
        rw [HM.out, HPN.out, HLA.out, List.take_length]
      rw [e] at h
      exact h
    | succ k1 =>
      have hk : k < m := by have := K0.out; omega
      have hk' : (k : Int) < (m : Int) := by omega
      have hk0 : (0 : Int) ≤ (k : Int) := by omega
      have hkp : k < d.pen.length := by have := HM.out; omega
      have HO : Hid (wr.ownsRow 0 63 65 (.slice A d.pen.length c) d.pen.length (penCells d.pen)) := Lib.hid (by have := KI.out.pen; rw [show (atK (spD d) k).pen = d.pen from HPN.out] at this; exact this)
      have hpok : ∀ p ∈ d.pen, 0 ≤ p.1 ∧ p.1 < (d.now.length : Int) ∧ p.2.length = 64 := fun p hp => by
        have := KI.out.pok p (by rw [show (atK (spD d) k).pen = d.pen from HPN.out]; exact hp)
        rw [show (atK (spD d) k).now = d.now from spD_now d] at this
        exact this
      obtain ⟨gp, eA, eob, hrg⟩ := pen_range HO.out (fun p hp => (hpok p hp).2.2) k hkp
      subst eA
      obtain ⟨pk, hpk⟩ : ∃ p, p = d.pen.getD k (0, []) := ⟨_, rfl⟩
      have hpm : pk ∈ d.pen := by
        rw [hpk, List.getD_eq_getElem?_getD, List.getElem?_eq_getElem hkp]
        exact List.getElem_mem _
      obtain ⟨p0, p1, p2⟩ := hpok pk hpm
      obtain ⟨n, hn⟩ := Int.eq_ofNat_of_zero_le p0
      rw [← hpk, hn] at hrg
      obtain ⟨L, hL⟩ : ∃ L, L = d.now.length := ⟨_, rfl⟩
      have hnL : n < L := by omega
      have HPK := Lib.hid hpk
      have HPK2 := Lib.hid hn
      have HP64 := Lib.hid p2
      have HLL := Lib.hid hL
      obtain ⟨cs, hcs⟩ : ∃ cs, cs = cellsOf pk.2 := ⟨_, rfl⟩
      have hl64 : cs.length = 64 := by rw [hcs, cellsOf_length]; exact p2
      have h1c : ∀ v ∈ cs, v.oneCell' = true := by rw [hcs]; exact cellsOf_one _
      have HCS := Lib.hid hcs
      rw [← hcs] at hrg
      obtain ⟨CS, hCS⟩ : ∃ C, C = Value.int .i64 (n : Int) :: cs := ⟨_, rfl⟩
      have HC65 : Hid (CS.length = 65) := Lib.hid (by rw [hCS, List.length_cons, hl64])
      have HSZ : Hid ((Try.prog.info? 63).map (·.size) = some CS.length) := Lib.hid (by rw [size63, HC65.out])
      have hsa : CS.toArray.size = 65 := by rw [List.size_toArray]; exact HC65.out
      have HSA : Hid ((Try.prog.info? 63).map (·.size) = some CS.toArray.size) := Lib.hid (by rw [hsa]; exact size63)
      have HTH : ∀ {Z : Array Value}, Z.size = 65 → (wr.alloc (.cells Z 63)).there wr.heap.size 0 CS.toArray.size := fun h => by rw [hsa]; exact new_there h
      clear hsa
      have HC1 : Hid (∀ v ∈ CS, v.oneCell' = true) := Lib.hid (fun v hv => by
        rw [hCS] at hv
        rcases List.mem_cons.1 hv with rfl | hv
        · rfl
        · exact h1c v hv)
      rw [← hCS] at hrg
      have HRG := Lib.hid hrg
      have HCE := Lib.hid hCS
      have HHM : Hid (d.pen.length = m) := Lib.hid HM.out.symm
      clear hpk hn p0 p1 p2 hL hcs hCS hrg hpok hpm eob
      go_wp2_with (first
        | ((with_reducible refine gate_dst (N := 23) rfl ?_); refine wpList_load_mid rfl 63 (.tmp 22) rfl gp (k * 65) rfl CS _ HRG.out Try.underlying63 rfl HSZ.out ?_)
        | ((with_reducible refine gate_dst (N := 5) rfl ?_); refine wpList_alloc63 rfl rfl ?_; intro Z hZ; have QZ := Lib.hid hZ; clear hZ)
        | ((with_reducible refine gate_store (t := 63) (p := 5) rfl ?_); refine wpList_store_mid rfl 63 (.tmp 5) (.tmp 23) rfl wr.heap.size 0 CS.toArray rfl rfl (HTH QZ.out) HSA.out (all_oneCell_toArray HC1.out) ?_))
      simp only [Act.put, List.setIfInBounds_toArray, List.set_cons_zero, List.set_cons_succ]
      obtain ⟨b5, hb5⟩ : ∃ b, b = wr.heap.size := ⟨_, rfl⟩
      have hnt := new_there (w := wr) QZ.out
      have hr5 : ((wr.alloc (.cells Z 63)).setCells wr.heap.size 0 CS).rangeAt wr.heap.size 0 CS := World.rangeAt_setCells_same _ _ _ _ (by rw [HC65.out]; exact hnt)
      have hmv : ∀ q, q < wr.heap.size → ((wr.alloc (.cells Z 63)).setCells wr.heap.size 0 CS).heap[q]? = wr.heap[q]? := fun q hq => ((But.setCells wr.heap.size 0 CS (wr.alloc (.cells Z 63))).block q (by omega)).trans (Below.heap_alloc wr _ q hq)
      have HI1 := Lib.hid (KI.out.move (w' := (wr.alloc (.cells Z 63)).setCells wr.heap.size 0 CS) (fun q hq => hmv q (KI.out.lt q hq)))
      have HK1 : Hid (∀ (base : Nat) (Ex : Nat → Prop), (∀ k, Foot gd gl gn (.slice (some ⟨gp, 0, none⟩) d.pen.length c) k → base ≤ k ∧ ¬ Ex k) → base ≤ w.heap.size → (∀ q, Ex q → q < w.heap.size) → DM.Kept base Ex w ((wr.alloc (.cells Z 63)).setCells wr.heap.size 0 CS)) := Lib.hid (fun base Ex hF hb hE => by
        have h1 := KK.out base Ex hF hb hE
        refine (h1.alloc _).setCells (by have := h1.size; omega) (fun he => ?_) _ _
        have := hE _ he
        have := h1.size
        omega)
      have h5c : ((wr.alloc (.cells Z 63)).setCells wr.heap.size 0 CS).cell? ⟨wr.heap.size, 0, none⟩ = some (.int .i64 (n : Int)) := hr5 0 _ (by rw [HCE.out]; rfl)
      have h5r : ((wr.alloc (.cells Z 63)).setCells wr.heap.size 0 CS).rangeAt wr.heap.size 1 cs := fun q v hv => by
        have := hr5 (q + 1) v (by rw [HCE.out]; exact hv)
        rwa [show 0 + (q + 1) = 1 + q by omega] at this
      have hne : ∀ q, Foot gd gl gn (.slice (some ⟨gp, 0, none⟩) d.pen.length c) q → wr.heap.size ≠ q := fun q hq e => by have := KI.out.lt q hq; omega
      have HNE := Lib.hid (And.intro (hne gd (.inl rfl)) (hne gl (.inr (.inl rfl))))
      clear hnt hr5 hmv hne HRG HTH
      generalize (wr.alloc (.cells Z 63)).setCells wr.heap.size 0 CS = W5 at *
      rw [← hb5] at h5c h5r HNE ⊢
      clear hb5
      have hc0 := HI1.out.c0
      rw [show (atK (spD d) k).now = d.now from spD_now d, ← HLL.out] at hc0
      have ht5 : W5.there gl (n * 64) 64 := there_sub HI1.out.las.2 _ _ (by
        rw [HI1.out.len, show (atK (spD d) k).now = d.now from spD_now d]
        have := HLL.out
        omega)
      have hu := Try.underlying61
      have hi : (Try.prog.info? 61).map (·.size) = some cs.length := by rw [size61, hl64]
      have n0 : (0 : Int) ≤ (n : Int) := by omega
      have n1 : (n : Int) < (L : Int) := by omega
      have HDL := Lib.hid HI1.out.dl
      go_region_held3 (fun w' => w'.cell? ⟨gd, 0, none⟩ = some (.slice (some ⟨gl, 0, none⟩) L L) ∧ w'.cell? ⟨b5, 0, none⟩ = some (.int .i64 (n : Int)) ∧ w'.rangeAt b5 1 cs ∧ w'.there gl (n * 64) 64) (first | exact ⟨by simpa using hc0, by simpa using h5c, by simpa using h5r, by simpa using ht5⟩ | exact keep_las (by simpa using hc0) (by simpa using h5c) (by simpa using h5r) (by simpa using ht5) HDL.out HNE.out.2) (fail)
      go_wp2_with fail
      go_roundg k1
      case measure => omega
      case rel =>
        refine ⟨k + 1, by first | rfl | (simp; done), Lib.hid (by have := K0.out; omega), Lib.hid ?_, Lib.hid (fun base Ex hF hb hE => (HK1.out base Ex hF hb hE).drew.setCells (hF gl (.inr (.inl rfl))).1 (hF gl (.inr (.inl rfl))).2 _ _)⟩
        have h := (HI1.out.move (w' := W5.drew) (fun _ _ => rfl)).setLas n pk.2 (by rw [show (atK (spD d) k).now = d.now from spD_now d, ← HLL.out]; exact hnL) HP64.out
        have e : ({ atK (spD d) k with las := (atK (spD d) k).las.set n pk.2 } : D) = atK (spD d) (k + 1) := by
          unfold atK
          rw [HPN.out, List.take_succ_eq_append_getElem (by have := HM.out; omega), laid_snoc]
          have e1 : d.pen[k]'(by have := HM.out; omega) = pk := by
            have h1 := HPK.out
            rw [List.getD_eq_getElem?_getD, List.getElem?_eq_getElem (by have := HM.out; omega)] at h1
            exact h1.symm
          have e2 : pk.1.toNat = n := by rw [HPK2.out]; exact Int.toNat_natCast n
          rw [e1, e2]
        rw [e, ← HCS.out] at h
        exact h
theorem flush_at {w : World} {base : Nat} {Ex : Nat → Prop} {gd : Nat} {d : D} (h : At w base Ex gd d) (hE : ∀ k, Ex k → k < w.heap.size) (hb : base ≤ w.heap.size) (ho : d.off = false) (hl : d.lim ≠ 0) (hlm : d.lim ≤ 9223372036854775807) (hp : d.pen.length ≤ 1000000) :
    Calls Try.prog 13 #[.pointer (some ⟨gd, 0, none⟩)] w fun e w' => e = .returned (.int .i64 0) ∧ At w' base Ex gd { spD d with las := laid d.las d.pen, pen := [] } ∧ DM.Kept base Ex w w' := by
  obtain ⟨gl, gn, pv, hI, hF⟩ := h
  refine (flush_good hI ho hl hlm hp).mono ?_
  rintro e w' ⟨h1, h2⟩
  exact ⟨h1, h2.at hF hE hb⟩
end Go.Proofs.Ytghodkjpjjbcnaa.DO
