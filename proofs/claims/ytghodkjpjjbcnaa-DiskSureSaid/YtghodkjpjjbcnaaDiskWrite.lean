/- A disk's Write, walked. -/
import Derived.Test.YtghodkjpjjbcnaaDiskBuild
import Derived.Deep.DeepCutAuto
import Derived.Deep.RegionLaw
import Derived.Deep.RegionHeld3
import Derived.Laws.Cover3
namespace Go.Proofs.Ytghodkjpjjbcnaa.DO
set_option linter.unusedSimpArgs false
open Go.RowKit Go.Proofs.Ytghodkjpjjbcnaa.DM Go.Proofs.YtghodkjpjjbcnaaW.PrintWords Go.Proofs.YtghodkjpjjbcnaaW.PrintLast Go.Proofs.YtghodkjpjjbcnaaW.PrintMore

theorem size61 : (Try.prog.info? 61).map (·.size) = some 64 := by kernel_rfl

theorem spD_now (d : D) : (spD d).now = d.now := by unfold spD; (repeat' split) <;> rfl
theorem spD_las (d : D) : (spD d).las = d.las := by unfold spD; (repeat' split) <;> rfl
theorem spD_pen (d : D) : (spD d).pen = d.pen := by unfold spD; (repeat' split) <;> rfl
theorem write_none (n : Int) (v : Value) (w : World) : Calls Try.prog 11 #[.pointer none, .int .i64 n, v] w fun e w' => e = .returned (.int .i64 11) ∧ w' = w := by
  go_enter Try.func11, Try.ntmps11
  go_wp2_with (go_at_call 23; refine (ready_none _).mono ?_; rintro e w' ⟨rfl, rfl⟩)
  go_ret
  exact ⟨rfl, rfl⟩
/-- What stops a write ahead of the limit. -/
def wrB (d : D) (n : Int) (len : Nat) : Int := if d.off = true then 8 else if len ≠ 64 then 1 else if n < 0 ∨ (d.now.length : Int) ≤ n then 7 else 0
theorem write_bad {w : World} {gd gl gn : Nat} {pv : Value} {d : D} (h : In w gd gl gn pv d) (n : Int) (A : Option Addr) (len c : Nat) (hn : wrB d n len ≠ 0) (hlen : len ≤ 9223372036854775807) : Calls Try.prog 11 #[.pointer (some ⟨gd, 0, none⟩), .int .i64 n, .slice A len c] w fun e w' => e = .returned (.int .i64 (wrB d n len)) ∧ w' = w := by
  have HR := Lib.hid (ready_calls h)
  have h1 := h.c1
  have hm := h.most
  unfold wrB at hn ⊢
  unfold rdy at HR
  clear h
  obtain ⟨off, ho⟩ : ∃ x, x = d.off := ⟨_, rfl⟩
  obtain ⟨L, hL⟩ : ∃ x, x = d.now.length := ⟨_, rfl⟩
  rw [← ho] at HR hn ⊢
  rw [← hL] at h1 hn hm ⊢
  clear ho hL
  cases off with
  | true =>
    go_enter Try.func11, Try.ntmps11
    go_wp2_with (go_at_call 23; refine HR.out.mono ?_; rintro e w' ⟨rfl, rfl⟩)
    go_ret
    exact ⟨rfl, rfl⟩
  | false =>
    rw [if_neg (by decide)] at hn ⊢
    by_cases c0 : len ≠ 64
    · rw [if_pos c0]
      have hb : ((len : Int) != 64) = true := bne_iff_ne.2 (by omega)
      have hb2 : ((len : Int) == 64) = false := beq_eq_false_iff_ne.2 (by omega)
      clear hn c0
      go_enter Try.func11, Try.ntmps11
      go_wp2_with (go_at_call 23; refine HR.out.mono ?_; rintro e w' ⟨rfl, rfl⟩)
      go_ret
      exact ⟨rfl, rfl⟩
    · rw [if_neg c0] at hn ⊢
      obtain rfl : len = 64 := by omega
      have hc : n < 0 ∨ (L : Int) ≤ n := by
        by_cases c : n < 0 ∨ (L : Int) ≤ n
        · exact c
        · rw [if_neg c] at hn; exact absurd rfl hn
      rw [if_pos hc]
      clear hn c0
      by_cases c1 : n < 0
      · clear hc
        go_enter Try.func11, Try.ntmps11
        go_wp2_with (go_at_call 23; refine HR.out.mono ?_; rintro e w' ⟨rfl, rfl⟩)
        go_ret
        exact ⟨rfl, rfl⟩
      · have c2 : (L : Int) ≤ n := by omega
        clear hc
        go_enter Try.func11, Try.ntmps11
        go_wp2_with (go_at_call 23; refine HR.out.mono ?_; rintro e w' ⟨rfl, rfl⟩)
        go_ret
        exact ⟨rfl, rfl⟩
theorem write_off {w : World} {gd gl gn : Nat} {pv : Value} {d : D} (h : In w gd gl gn pv d) (n : Nat) (hn : n < d.now.length) (ho : d.off = false) (hl : d.lim = 0) (A : Option Addr) (c : Nat) : Calls Try.prog 11 #[.pointer (some ⟨gd, 0, none⟩), .int .i64 (n : Int), .slice A 64 c] w fun e w' => e = .returned (.int .i64 8) ∧ w' = spW w gd d := by
  have HR := Lib.hid (ready_calls h)
  have HS := Lib.hid (spend_calls h (by omega))
  have h1 := h.c1
  have hm := h.most
  unfold rdy at HR
  unfold spE at HS
  rw [ho, if_neg (by decide)] at HR
  rw [if_pos hl] at HS
  clear h hl
  obtain ⟨L, hL⟩ : ∃ x, x = d.now.length := ⟨_, rfl⟩
  rw [← hL] at h1 hn hm
  clear hL
  have n0 : (0 : Int) ≤ (n : Int) := by omega
  have n1 : (n : Int) < (L : Int) := by omega
  have n2 : ¬ (L : Int) ≤ (n : Int) := by omega
  go_enter Try.func11, Try.ntmps11
  go_wp2_with (first | (go_at_call 23; refine HR.out.mono ?_; rintro e w' ⟨rfl, rfl⟩) | (go_at_call 24; refine HS.out.mono ?_; rintro e w' ⟨rfl, rfl⟩))
  go_ret
  exact ⟨rfl, rfl⟩

/-- Behind a call that writes: the disk, its row of writes where it was or new, and all else as it was. -/
def WDone (w w' : World) (gd gl gn : Nat) (pv : Value) (d' : D) : Prop := ∃ pv', In w' gd gl gn pv' d' ∧ (∀ b, pv'.ownBlock = some b → pv.ownBlock = some b ∨ w.heap.size ≤ b) ∧ ∀ (base : Nat) (Ex : Nat → Prop), (∀ k, Foot gd gl gn pv k → base ≤ k ∧ ¬ Ex k) → base ≤ w.heap.size → (∀ k, Ex k → k < w.heap.size) → DM.Kept base Ex w w'
theorem sp_kept {w : World} {gd gl gn : Nat} {pv : Value} (d : D) (base : Nat) (Ex : Nat → Prop) (hF : ∀ k, Foot gd gl gn pv k → base ≤ k ∧ ¬ Ex k) : DM.Kept base Ex w (spW w gd d) := by
  have h := hF gd (.inl rfl)
  unfold spW
  split
  · exact (DM.Kept.refl _ _ _).setCell h.1 h.2 _
  · split
    · exact (DM.Kept.refl _ _ _).setCell h.1 h.2 _
    · exact DM.Kept.refl _ _ _
theorem cell_alloc {W : World} {g j : Nat} (h : g < W.heap.size) {o : Obj} : (W.alloc o).cell? ⟨g, j, none⟩ = W.cell? ⟨g, j, none⟩ := World.cell?_of_block (Below.heap_alloc W o g h)
theorem keep_sec {W : World} {gd gn gs o : Nat} {v : Value} {i : Nat} {cs : List Value} (hc : W.cell? ⟨gd, i, none⟩ = some v) (hr : W.rangeAt gs 0 cs) (ht : W.there gn o 64) (h1 : gd ≠ gn) (h2 : gs ≠ gn) :
    (W.setCells gn o cs).cell? ⟨gd, i, none⟩ = some v ∧ (W.setCells gn o cs).rangeAt gs 0 cs ∧ (W.setCells gn o cs).there gn o 64 :=
  ⟨(World.cell?_of_block ((setCells_world gn cs o W).2.2.2.2 gd h1)).trans hc, World.rangeAt_setCells_apart hr _ _ _ (.inl h2), World.there_setCells ht _ _ _⟩
set_option maxHeartbeats 2000000 in
theorem write_good {w : World} {gd gl gn : Nat} {pv : Value} {d : D} (h : In w gd gl gn pv d) (n : Nat) (hn : n < d.now.length) (ho : d.off = false) (hl : d.lim ≠ 0) (hlm : d.lim ≤ 9223372036854775807) (gs c : Nat) (s : List Int) (hs : s.length = 64) (hr : w.rangeAt gs 0 (cellsOf s)) (hf : gs ≠ gd ∧ gs ≠ gn) (hpv : some gs ≠ pv.ownBlock) (hp : d.pen.length ≤ 1000000) :
    Calls Try.prog 11 #[.pointer (some ⟨gd, 0, none⟩), .int .i64 (n : Int), .slice (some ⟨gs, 0, none⟩) 64 c] w fun e w' => e = .returned (.int .i64 0) ∧ WDone w w' gd gl gn pv { spD d with now := d.now.set n s, pen := d.pen ++ [((n : Int), s)] } := by
  have HR := Lib.hid ((ready_calls h).mono (fun e w' h => (⟨h.1, h.2.symm⟩ : _ ∧ w = w')))
  have HS := Lib.hid ((spend_calls h hlm).mono (fun e w' h => (⟨h.1, h.2.symm⟩ : _ ∧ spW w gd d = w')))
  have hS := sp_in h
  obtain ⟨s1, s2, s3, s4, s5⟩ := sp_same w gd d
  have h1 := h.c1
  have hm := h.most
  unfold rdy at HR
  unfold spE at HS
  rw [ho, if_neg (by decide)] at HR
  rw [if_neg hl] at HS
  obtain ⟨L, hL⟩ : ∃ x, x = d.now.length := ⟨_, rfl⟩
  have HN := Lib.hid hn
  have HL := Lib.hid hL
  rw [← hL] at h1 hn hm
  clear hL
  obtain ⟨cs, hcs⟩ : ∃ cs, cs = cellsOf s := ⟨_, rfl⟩
  have n0 : (0 : Int) ≤ (n : Int) := by omega
  have n1 : (n : Int) < (L : Int) := by omega
  have n2 : ¬ (L : Int) ≤ (n : Int) := by omega
  have hrS : (spW w gd d).rangeAt gs 0 (cellsOf s) := range_move hr (s5 gs hf.1)
  have HIN := Lib.hid hS
  have HH := Lib.hid h
  have hcS : (spW w gd d).cell? ⟨gd, 1, none⟩ = some (.slice (some ⟨gn, 0, none⟩) L L) := by rw [HL.out]; have := hS.c1; unfold spD at this; (repeat' split at this) <;> exact this
  have HKW := Lib.hid (sp_kept (w := w) (gd := gd) (gl := gl) (gn := gn) (pv := pv) d)
  clear h hS s1 s2 s3 s4 s5 hr
  generalize hW : spW w gd d = W1 at *
  go_enter Try.func11, Try.ntmps11
  go_upto_region 11 with (first | (go_at_call 23; refine HR.out.mono ?_; rintro e w' ⟨rfl, rfl⟩) | (go_at_call 24; refine HS.out.mono ?_; rintro e w' ⟨rfl, rfl⟩))
  have ht : W1.there gn (n * 64) 64 := there_sub HIN.out.now.2 _ _ (by
    rw [spD_now]; have := HN.out; omega)
  rw [← hcs] at hrS
  have hu := Try.underlying61
  have hl64 : cs.length = 64 := by rw [hcs, cellsOf_length]; exact hs
  have hi : (Try.prog.info? 61).map (·.size) = some cs.length := by rw [size61, hl64]
  have h1c : ∀ v ∈ cs, v.oneCell' = true := by rw [hcs]; exact cellsOf_one s
  have HD := Lib.hid (And.intro HIN.out.dn hf.2)
  have HCS := Lib.hid hcs
  have HSL := Lib.hid hs
  clear hcs hs
  have harr : ∀ W, (Instr.arrayAt 61 (.slice (some ⟨gs, 0, none⟩) 64 c)).run Try.prog W = .ok (.pointer (some ⟨gs, 0, none⟩)) W := fun W => run_arrayAt (P := Try.prog) W 61 5 64 (some ⟨gs, 0, none⟩) 64 c Try.underlying61 (Nat.le_refl _)
  go_cut [] (fun wo => wo = W1.drew.setCells gn (n * 64) cs)
  case first =>
    go_region_held3 (fun w' => w'.cell? ⟨gd, 1, none⟩ = some (.slice (some ⟨gn, 0, none⟩) L L) ∧ w'.rangeAt gs 0 cs ∧ w'.there gn (n * 64) 64) (first | exact ⟨by simpa using hcS, by simpa using hrS, by simpa using ht⟩ | exact keep_sec (by simpa using hcS) (by simpa using hrS) (by simpa using ht) HD.out.1 HD.out.2) (fail)
    go_wp2_with fail
    go_meet
    case rel => rfl
  case rest =>
    subst hcut
    have HI2 : Hid (In (W1.drew.setCells gn (n * 64) cs) gd gl gn pv { spD d with now := (spD d).now.set n s }) := Lib.hid (by
      rw [HCS.out]
      exact (HIN.out.move (w' := W1.drew) (fun _ _ => rfl)).setNow n s (by rw [spD_now]; exact HN.out) HSL.out)
    have hr2 : (W1.drew.setCells gn (n * 64) cs).rangeAt gs 0 cs := World.rangeAt_setCells_apart (by simpa using hrS) _ _ _ (.inl HD.out.2)
    have HK2 : Hid (∀ (base : Nat) (Ex : Nat → Prop), (∀ k, Foot gd gl gn pv k → base ≤ k ∧ ¬ Ex k) → DM.Kept base Ex w (W1.drew.setCells gn (n * 64) cs)) := Lib.hid (fun base Ex hF => (HKW.out base Ex hF).drew.setCells (hF gn (.inr (.inr (.inl rfl)))).1 (hF gn (.inr (.inr (.inl rfl)))).2 _ _)
    clear hcS hrS ht HKW
    generalize W1.drew.setCells gn (n * 64) cs = W2 at *
    have hc2 := HI2.out.c2
    have hf2 := HI2.out.fr 2 (by decide)
    obtain ⟨Ap, cp, ep⟩ := pen_slice HI2.out
    rw [show ({ spD d with now := (spD d).now.set n s } : D).pen = d.pen from spD_pen d] at ep
    subst ep
    have HPS := Lib.hid hpv
    have epn := spD_pen d
    have HPN := Lib.hid epn
    have hlt2 : gd < W2.heap.size := World.block_lt_of_cell? _ _ hc2
    have hload : (Instr.loadAt 61 (.pointer (some ⟨gs, 0, none⟩))).run Try.prog W2.drew = .ok (.agg cs.toArray) W2.drew := run_loadAt_mid W2.drew gs 0 61 cs _ (by simpa using hr2) hu rfl hi
    clear epn
    obtain ⟨i3, hi3, hzz⟩ := Option.map_eq_some_iff.1 info63
    simp only [Prod.mk.injEq] at hzz
    obtain ⟨hz, hs3, hb3⟩ := hzz
    obtain ⟨z3, hz0, hz1⟩ := Option.map_eq_some_iff.1 hz
    have HI3 := Lib.hid hi3
    have HZ3 := Lib.hid (And.intro hz0 (And.intro hs3 (And.intro hb3 hz1)))
    have HO : Hid (W2.ownsRow 0 63 65 (.slice Ap d.pen.length cp) d.pen.length (penCells d.pen)) := Lib.hid (by have := HI2.out.pen; rw [show ({ spD d with now := (spD d).now.set n s } : D).pen = d.pen from HPN.out] at this; exact this)
    have H1V : Hid (∀ u ∈ (Value.int .i64 (n : Int) :: cs), u.oneCell' = true) := Lib.hid (fun u hu => by
      rcases List.mem_cons.1 hu with rfl | hu
      · rfl
      · exact h1c u hu)
    have HM1 : Hid (d.pen.length + 1 ≤ maxLen) := Lib.hid (by unfold maxLen; omega)
    have HM2 : Hid ((d.pen.length + 1) * 72 ≤ 140737488355328) := Lib.hid (by omega)
    have HPD : Hid (some gd ≠ (Value.slice Ap d.pen.length cp).ownBlock) := Lib.hid (fun e => (HI2.out.pd gd e.symm).1 rfl)
    have HGS : Hid (gs < W2.heap.size) := Lib.hid (range_lt hr2 (by omega))
    clear hi3 hz hs3 hb3 hz0 hz1
    go_upto_region 12 with fail
    refine start_ (n := 15) (S := fun w' => w'.cell? ⟨gd, 2, none⟩ = some (.slice Ap d.pen.length cp) ∧ w'.rangeAt gs 0 cs) (ds := [14]) #[false, false, false, false, false, false, false, false, false, false, false, false, false, false, false] (by kernel_rfl) rfl rfl ⟨hc2, by simpa using hr2⟩ (fun hHeld => ?_)
    refine pure_ (i := 0) (N := some 44) (v := ?_) (a' := ?_) #[true, false, false, false, false, false, false, false, false, false, false, false, false, false, false] rfl rfl (by kernel_rfl) (fun _ _ _ h => h) (Or.inl ⟨by rfl, ?_⟩) ?_ ?_
    rotate_left
    · intro w'
      go_simp
      with_reducible rfl
    rotate_left
    · simp only [Act.put, List.setIfInBounds_toArray, List.set_cons_zero, List.set_cons_succ]
      rfl
    refine pure_ (i := 1) (N := some 45) (v := ?_) (a' := ?_) #[true, true, false, false, false, false, false, false, false, false, false, false, false, false, false] rfl rfl (by kernel_rfl) (fun _ _ _ h => h) (Or.inl ⟨by rfl, ?_⟩) ?_ ?_
    rotate_left
    · intro w'
      go_simp
      with_reducible rfl
    rotate_left
    · simp only [Act.put, List.setIfInBounds_toArray, List.set_cons_zero, List.set_cons_succ]
      rfl
    refine pure_ (i := 2) (N := some 46) (v := ?_) (a' := ?_) #[true, true, true, false, false, false, false, false, false, false, false, false, false, false, false] rfl rfl (by kernel_rfl) (fun _ _ _ h => h) (Or.inl ⟨by rfl, ?_⟩) ?_ ?_
    rotate_left
    · intro w'
      go_simp
      with_reducible rfl
    rotate_left
    · simp only [Act.put, List.setIfInBounds_toArray, List.set_cons_zero, List.set_cons_succ]
      rfl
    refine pure_ (i := 3) (N := some 47) (v := ?_) (a' := ?_) #[true, true, true, true, false, false, false, false, false, false, false, false, false, false, false] rfl rfl (by kernel_rfl) (fun _ _ _ h => h) (Or.inl ⟨by rfl, ?_⟩) ?_ ?_
    rotate_left
    · intro w'
      go_simp
      with_reducible rfl
    rotate_left
    · simp only [Act.put, List.setIfInBounds_toArray, List.set_cons_zero, List.set_cons_succ]
      rfl
    refine take_ (i := 4) (N := some 48) (v := ?_) (a' := ?_) #[true, true, true, true, true, false, false, false, false, false, false, false, false, false, false] rfl rfl (by kernel_rfl) (fun _ _ _ h => h) (Or.inl ⟨by rfl, ?_⟩) hHeld ?_ ?_
    rotate_left
    · intro w' hS'
      obtain ⟨hS1, hS2⟩ := hS'
      go_simp
      with_reducible rfl
    rotate_left
    · simp only [Act.put, List.setIfInBounds_toArray, List.set_cons_zero, List.set_cons_succ]
      rfl
    refine pure_ (i := 5) (N := some 49) (v := ?_) (a' := ?_) #[true, true, true, true, true, true, false, false, false, false, false, false, false, false, false] rfl rfl (by kernel_rfl) (fun _ _ _ h => h) (Or.inl ⟨by rfl, ?_⟩) ?_ ?_
    rotate_left
    · intro w'
      go_simp
      with_reducible rfl
    rotate_left
    · simp only [Act.put, List.setIfInBounds_toArray, List.set_cons_zero, List.set_cons_succ]
      rfl
    refine pure_ (i := 6) (N := some 50) (v := ?_) (a' := ?_) #[true, true, true, true, true, true, true, false, false, false, false, false, false, false, false] rfl rfl (by kernel_rfl) (fun _ _ _ h => h) (Or.inl ⟨by rfl, ?_⟩) ?_ ?_
    rotate_left
    · intro w'
      go_simp
      with_reducible rfl
    rotate_left
    · simp only [Act.put, List.setIfInBounds_toArray, List.set_cons_zero, List.set_cons_succ]
      rfl
    refine pure_ (i := 7) (N := some 51) (v := ?_) (a' := ?_) #[true, true, true, true, true, true, true, true, false, false, false, false, false, false, false] rfl rfl (by kernel_rfl) (fun _ _ _ h => h) (Or.inl ⟨by rfl, ?_⟩) ?_ ?_
    rotate_left
    · intro w'
      go_simp
      with_reducible rfl
    rotate_left
    · simp only [Act.put, List.setIfInBounds_toArray, List.set_cons_zero, List.set_cons_succ]
      rfl
    refine take_ (i := 8) (N := some 52) (v := _) (a' := ?_) #[true, true, true, true, true, true, true, true, true, false, false, false, false, false, false] rfl rfl (by kernel_rfl) (fun _ _ _ h => h) (yieldsIf_load_mid (by rfl) 61 (.tmp 51) rfl gs 0 rfl cs _ (fun w h => h.2) hu rfl hi) hHeld ?_ ?_
    rotate_left
    · simp only [Act.put, List.setIfInBounds_toArray, List.set_cons_zero, List.set_cons_succ]
      rfl
    refine pure_ (i := 9) (N := some 53) (v := .agg (.int .i64 (n : Int) :: cs).toArray) (a' := ?_) #[true, true, true, true, true, true, true, true, true, true, false, false, false, false, false] rfl rfl (by kernel_rfl) (fun _ _ _ h => h) (yields_build63 (by rfl) (.tmp 49) (.tmp 52) rfl (n : Int) cs rfl rfl hl64) ?_ ?_
    rotate_left
    · simp only [Act.put, List.setIfInBounds_toArray, List.set_cons_zero, List.set_cons_succ]
      rfl
    refine one_ (i := 10) (N := some 54) #[true, true, true, true, true, true, true, true, true, true, true, false, false, false, false] rfl rfl (by kernel_rfl) (by decide) (fun K hK => ?_)
    refine step_slice63 (by rfl) (.tmp 53) rfl (.int .i64 (n : Int) :: cs) rfl (by rw [List.length_cons, hl64]) ?_
    refine hK.out _ _ ⟨(cell_alloc (W := W2.drew) hlt2).trans hc2, World.rangeAt_alloc (show W2.drew.rangeAt gs 0 cs from hr2) _⟩ (fun hHeld => ?_)
    clear hK K
    refine norm_ (a' := ?_) ?_ ?_
    rotate_left
    · show Act.put _ (some 54) _ = _
      simp only [Act.put, List.setIfInBounds_toArray, List.set_cons_zero, List.set_cons_succ]
      rfl
    refine one_ (i := 11) (N := some 55) #[true, true, true, true, true, true, true, true, true, true, true, true, false, false, false] rfl rfl (by kernel_rfl) (by decide) (fun K hK => ?_)
    refine step_append_lies _ (by rfl) (.tmp 48) (.tmp 54) 57 (by rfl) 0 63 i3 z3 65 72 Try.underlying57 HI3.out HZ3.out.1 HZ3.out.2.1 HZ3.out.2.2.1 HZ3.out.2.2.2 (by decide) (.slice Ap d.pen.length cp) d.pen.length (penCells d.pen) (by rfl) ((HO.out.alloc _).drew) ⟨W2.heap.size, 0, none⟩ 1 1 (.int .i64 (n : Int) :: cs) (by rfl) (by rw [List.length_cons, hl64]) (World.news_of_block (cs := (.int .i64 (n : Int) :: cs).toArray) (t := 63) (fr := (0, 0)) (heap_alloc_new W2 _)) H1V.out (by omega) HM1.out HM2.out (Nat.zero_le _) (W2.heap.size + 1) (size_alloc _ _) ?_
    intro g cap w3 q1 q2 q3 q4
    refine hK.out _ _ ⟨(q2.cell_far _ (by rw [size_alloc]; exact Nat.lt_succ_of_lt hlt2) HPD.out).trans ((cell_alloc (W := W2.drew) hlt2).trans hc2), range_move (World.rangeAt_alloc (show W2.drew.rangeAt gs 0 cs from hr2) _) (q2.block gs (by rw [size_alloc]; exact Nat.lt_succ_of_lt HGS.out) HPS.out)⟩ (fun hHeld => ?_)
    clear hK K
    refine norm_ (a' := ?_) ?_ ?_
    rotate_left
    · show Act.put _ (some 55) _ = _
      simp only [Act.put, List.setIfInBounds_toArray, List.set_cons_zero, List.set_cons_succ]
      rfl
    refine pure_ (i := 12) (N := some 56) (v := ?_) (a' := ?_) #[true, true, true, true, true, true, true, true, true, true, true, true, true, false, false] rfl rfl (by kernel_rfl) (fun _ _ _ h => h) (Or.inl ⟨by rfl, ?_⟩) ?_ ?_
    rotate_left
    · intro w'
      go_simp
      with_reducible rfl
    rotate_left
    · simp only [Act.put, List.setIfInBounds_toArray, List.set_cons_zero, List.set_cons_succ]
      rfl
    refine pure_ (i := 13) (N := some 57) (v := ?_) (a' := ?_) #[true, true, true, true, true, true, true, true, true, true, true, true, true, true, false] rfl rfl (by kernel_rfl) (fun _ _ _ h => h) (Or.inl ⟨by rfl, ?_⟩) ?_ ?_
    rotate_left
    · intro w'
      go_simp
      with_reducible rfl
    rotate_left
    · simp only [Act.put, List.setIfInBounds_toArray, List.set_cons_zero, List.set_cons_succ]
      rfl
    have hcz := hHeld.1
    have hfz : w3.frozen? ⟨gd, 2, none⟩ = false := (q2.frozen_far _ (by rw [size_alloc]; exact Nat.lt_succ_of_lt hlt2) HPD.out).trans ((World.frozen?_of_block (w := W2) (w' := W2.drew.alloc (.cells (.int .i64 (n : Int) :: cs).toArray 63)) (Below.heap_alloc W2.drew _ gd hlt2)).trans hf2)
    have Q1 := Lib.hid q1
    have Q2 := Lib.hid q2
    have Q3 := Lib.hid q3
    clear q1 q2 q3 q4
    refine last_ (i := 14) (N := none) #[true, true, true, true, true, true, true, true, true, true, true, true, true, true, true] rfl rfl (by kernel_rfl) (by decide) (fun K hK => ?_)
    go_simp
    refine hK.out _ _ ?_
    clear hK K
    refine done_ (by kernel_rfl) ?_
    go_wp2_with fail
    go_ret
    refine ⟨rfl, ⟨.slice (some ⟨g, 0, none⟩) (d.pen.length + 1) cap, ?_, ?_, ?_⟩⟩
    · have h2 := HI2.out.newPen (w' := w3) (pv' := .slice (some ⟨g, 0, none⟩) (d.pen.length + 1) cap) (fun k hk => (Q2.out.block k (by rw [size_alloc]; exact Nat.lt_succ_of_lt (HI2.out.lt k (by rcases hk with h | h | h; exact .inl h; exact .inr (.inl h); exact .inr (.inr (.inl h))))) (fun e => by
          have := HI2.out.pd k e.symm
          omega)).trans (Below.heap_alloc W2.drew _ k (HI2.out.lt k (by rcases hk with h | h | h; exact .inl h; exact .inr (.inl h); exact .inr (.inr (.inl h)))))) (d.pen ++ [((n : Int), s)])
        (by rw [List.length_append, penCells_snoc]; have h := Q1.out; rw [HCS.out] at h; exact h)
        (fun p hp => by
          rcases List.mem_append.1 hp with hp | hp
          · have := HI2.out.pok p (by rw [show ({ spD d with now := (spD d).now.set n s } : D).pen = d.pen from HPN.out]; exact hp)
            exact this
          · rw [List.mem_singleton.1 hp]
            refine ⟨n0, ?_, HSL.out⟩
            show (n : Int) < (((spD d).now.set n s).length : Int)
            rw [List.length_set, spD_now]
            have := HN.out
            omega)
        (fun b hb => by
          have e : g = b := by simpa [Value.ownBlock] using hb
          subst e
          rcases Q3.out with h | h
          · exact HI2.out.pd g h
          · have a1 := HI2.out.lt gd (.inl rfl)
            have a2 := HI2.out.lt gl (.inr (.inl rfl))
            have a3 := HI2.out.lt gn (.inr (.inr (.inl rfl)))
            omega)
      have e : ({ ({ spD d with now := (spD d).now.set n s } : D) with pen := d.pen ++ [((n : Int), s)] } : D) = { spD d with now := d.now.set n s, pen := d.pen ++ [((n : Int), s)] } := by rw [spD_now]
      rw [e] at h2
      exact h2
    · intro b hb
      have e : g = b := by simpa [Value.ownBlock] using hb
      subst e
      rcases Q3.out with h | h
      · exact .inl h
      · have := (HK2.out 0 (fun _ => False) (fun k _ => ⟨Nat.zero_le _, fun h => h⟩)).size
        exact .inr (by omega)
    · intro base Ex hF _ _
      exact (((HK2.out base Ex hF).drew.alloc _).grown Q2.out (fun k hk => hF k (.inr (.inr (.inr hk))))).setCell (hF gd (.inl rfl)).1 (hF gd (.inl rfl)).2 _
end Go.Proofs.Ytghodkjpjjbcnaa.DO
