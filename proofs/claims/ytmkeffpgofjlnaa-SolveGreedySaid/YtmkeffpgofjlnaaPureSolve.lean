/- The laws SolveGreedy and SolveBest: for any numbers and lists. -/
import Derived.Test.YtmkeffpgofjlnaaQLawSolveGreedy
import Derived.Test.YtmkeffpgofjlnaaQLawSolveBest
import Derived.Test.YtmkeffpgofjlnaaSolveOpt
namespace Go.Proofs.Ytmkeffpgofjlnaa.Pure
open Go.RowKit Go.Proofs.Ytmkeffpgofjlnaa.Q Go.Proofs.Ytmkeffpgofjlnaa.SD Go.Proofs.Ytmkeffpgofjlnaa.SR Go.Proofs.Ytmkeffpgofjlnaa.SF Go.Proofs.Ytmkeffpgofjlnaa.SO Go.Proofs.YtmkeffpgofjlnaaW.PrintWords Go.Proofs.YtmkeffpgofjlnaaW.PrintLast Go.Proofs.YtmkeffpgofjlnaaW.PrintMore

theorem awake_f : stowagelaw12_awake.f = some true := rfl

theorem SolveGreedy (a : Int) (ls : List Int) (cs : List (List Int)) (hm : cs.length ≤ 9223372036854775807) (hc : ∀ c ∈ cs, c.length ≤ 9223372036854775807) : Ev (fun k => stowagelaw12_SolveGreedy.f k a ls cs) true := by
  unfold stowagelaw12_SolveGreedy.f
  refine Ev.bind (greedy_ev a ls cs hm hc) (Ev.bind (check_ev a ls cs hm) ?_)
  refine Ev.congr (f := fun k => stowagelaw12_SolveGreedy.j0 k a ls cs (greedyE a ls cs).1 (rightE a ls cs).2 false) (fun k => ?_) ?_
  · rw [awake_f, Option.bind_some, if_pos rfl]
    congr 1
    have : (greedyE a ls cs).2 = (rightE a ls cs).2 := by
      unfold greedyE
      split
      · rename_i h; rw [h]
      · rfl
    rw [this]
    simp
  · by_cases he : (rightE a ls cs).2 = 0
    · obtain ⟨g1, g2, g3, g4, g5, g6, g7, g8, g9⟩ := right_good he
      refine Ev.step (f := fun k => (stowageref12_Greedy.f k a ls cs).bind fun t155 => (stowageref01_SameInts.f k (greedyE a ls cs).1 t155).bind fun t158 => some t158) (fun k => ?_) ?_
      · simp only [stowagelaw12_SolveGreedy.j0, Bool.false_eq_true, if_false]
        rw [if_pos he]
      · refine Ev.bind (rgreedy_ev a ls cs he) ?_
        have e : (greedyE a ls cs).1 = greedy cs ls (rightE a ls cs).1.toNat := by unfold greedyE; rw [if_pos he]
        rw [e]
        refine Ev.bind (same_ev _ _ (by rw [greedy_length]; omega)) ?_
        rw [decide_eq_true rfl]
        exact Ev.now _
    · refine Ev.step (f := fun _ => some _) (fun k => ?_) (Ev.now _)
      simp only [stowagelaw12_SolveGreedy.j0, Bool.false_eq_true, if_false]
      rw [if_neg he]
      have e : (greedyE a ls cs).1 = [] := by unfold greedyE; rw [if_neg he]
      rw [e]
      rfl

/-! ### The document's answer for the best shares -/
/-- Behind j tries: the shares and what they bring. -/
def refSt (l : Int) (c : List Int) (ls : List Int) (cs : List (List Int)) (n kk j : Nat) : List Int × Int :=
  (if (bestN l c ((tab ls cs n).headD []) kk j).1 = -1 then [] else (l + (bestN l c ((tab ls cs n).headD []) kk j).2) :: SD.follow ls (tab ls cs n) (kk - (bestN l c ((tab ls cs n).headD []) kk j).2.toNat), (bestN l c ((tab ls cs n).headD []) kk j).1)
theorem ref_loop (l : Int) (c : List Int) (ls : List Int) (cs : List (List Int)) (n kk : Nat) (tot : Int) (ht : tot = l + ls.sum + kk) (hl0 : 0 ≤ l) (hl1 : l ≤ 512) (hk : kk ≤ n) (hn : n ≤ 512) (hsum : 0 ≤ ls.sum) (hsum1 : ls.sum ≤ 512)
    (hl : ls.length = cs.length) (h0 : cs.length ≠ 0) (h16 : cs.length ≤ 16) (hc : soundB c = true) (hs : ∀ c ∈ cs, soundB c = true)
    (ih : ∀ t, t ≤ kk → Ev (fun k => stowageref12_Best.f k (ls.sum + t) ls cs) (SD.follow ls (tab ls cs n) t, V ls cs n t)) : ∀ (d j : Nat), j + d = kk + 1 →
    Ev (fun k => stowageref12_Best.l0 k tot (l :: ls) (c :: cs) (refSt l c ls cs n kk j).1 (refSt l c ls cs n kk j).2 (l + (kk : Int) - (j : Int))) (refSt l c ls cs n kk (kk + 1))
  | 0, j, hj => by
    obtain rfl : j = kk + 1 := by omega
    refine Ev.step (f := fun _ => some _) (fun k => ?_) (Ev.now _)
    simp only [stowageref12_Best.l0]
    rw [if_pos (by simp <;> omega), if_neg (by show ¬ _ ≥ rd (l :: ls) 0; simp [rd] <;> omega)]
  | d + 1, j, hj => by
    have hjk : j ≤ kk := by omega
    have hlen := sound_len hc
    have hb := at_bounds hc (l + ((kk - j : Nat) : Int))
    have hV0 := V_nonneg n ls cs hl h0 hs j (by omega)
    have hV1 := V_le n ls cs hl h0 hs j (by omega)
    have hf := ((opt n ls cs hl hs j (by omega)).1 hV0).1
    have hm : l + (kk : Int) - (j : Int) = l + ((kk - j : Nat) : Int) := by omega
    have next := ref_loop l c ls cs n kk tot ht hl0 hl1 hk hn hsum hsum1 hl h0 h16 hc hs ih d (j + 1) (by omega)
    have hstep : bestN l c ((tab ls cs n).headD []) kk (j + 1) = if (bestN l c ((tab ls cs n).headD []) kk j).1 < V ls cs n j + at_ c (l + ((kk - j : Nat) : Int)) then (V ls cs n j + at_ c (l + ((kk - j : Nat) : Int)), ((kk - j : Nat) : Int)) else bestN l c ((tab ls cs n).headD []) kk j := by
      show bestStep l c ((tab ls cs n).headD []) kk (bestN l c ((tab ls cs n).headD []) kk j) (kk - j) = _
      unfold bestStep
      rw [show kk - (kk - j) = j by omega]
      have e : (((tab ls cs n).headD []).getD j (0, 0)).1 = V ls cs n j := rfl
      rw [e]
      by_cases h : (bestN l c ((tab ls cs n).headD []) kk j).1 < V ls cs n j + at_ c (l + ((kk - j : Nat) : Int))
      · rw [if_pos ⟨hV0, h⟩, if_pos h]
      · rw [if_neg (fun h2 => h h2.2), if_neg h]
    refine Ev.step (f := fun k => (stowageref12_Best.f k (ls.sum + j) ls cs).bind fun bt => (stowageref11_At.f k c (l + ((kk - j : Nat) : Int))).bind fun t => if wrap64 (bt.2 + t) > (bestN l c ((tab ls cs n).headD []) kk j).1 then (if 1 + bt.1.length < 17592186044416 then stowageref12_Best.l0 k tot (l :: ls) (c :: cs) ([l + ((kk - j : Nat) : Int)] ++ bt.1) (wrap64 (bt.2 + t)) (l + (kk : Int) - ((j + 1 : Nat) : Int)) else none) else stowageref12_Best.l0 k tot (l :: ls) (c :: cs) (refSt l c ls cs n kk j).1 (refSt l c ls cs n kk j).2 (l + (kk : Int) - ((j + 1 : Nat) : Int))) (fun k => ?_) ?_
    · simp only [stowageref12_Best.l0]
      rw [if_pos (by simp <;> omega), if_pos (by show _ ≥ rd (l :: ls) 0; simp [rd] <;> omega), if_pos (by simp <;> omega), if_pos (by simp <;> omega), hm, w64 (x := tot - (l + ((kk - j : Nat) : Int))) (by omega) (by omega), show tot - (l + ((kk - j : Nat) : Int)) = ls.sum + j by omega, w64 (x := l + ((kk - j : Nat) : Int) - 1) (by omega) (by omega), show l + ((kk - j : Nat) : Int) - 1 = l + (kk : Int) - ((j + 1 : Nat) : Int) by omega]
      simp only [List.drop_one, List.tail_cons]
      congr 1
      funext bt
      rw [if_pos (by simp <;> omega)]
      rfl
    · refine Ev.bind (ih j hjk) (Ev.bind (rat_ev c _ (by omega)) ?_)
      dsimp only
      rw [w64 (by omega) (by omega)]
      by_cases hgt : V ls cs n j + at_ c (l + ((kk - j : Nat) : Int)) > (bestN l c ((tab ls cs n).headD []) kk j).1
      · rw [if_pos hgt] at hstep
        refine Ev.congr (fun k => by rw [if_pos hgt, if_pos (by omega)]) ?_
        have e : refSt l c ls cs n kk (j + 1) = ([l + ((kk - j : Nat) : Int)] ++ SD.follow ls (tab ls cs n) j, V ls cs n j + at_ c (l + ((kk - j : Nat) : Int))) := by
          unfold refSt
          rw [hstep]
          dsimp only
          rw [if_neg (by omega), Int.toNat_natCast, show kk - (kk - j) = j by omega]
          rfl
        rw [e] at next
        exact next
      · rw [if_neg hgt] at hstep
        refine Ev.congr (fun k => by rw [if_neg hgt]) ?_
        have e : refSt l c ls cs n kk (j + 1) = refSt l c ls cs n kk j := by
          unfold refSt
          rw [hstep]
        rw [e] at next
        exact next
theorem sum_bounds (a : Int) : ∀ (l : List Int), (∀ x ∈ l, 0 ≤ x ∧ x ≤ a) → 0 ≤ l.sum := by
  intro l
  induction l with
  | nil => intro _; simp
  | cons x t ih => intro h; rw [List.sum_cons]; have := ih (fun y hy => h y (List.mem_cons_of_mem _ hy)); have := h x List.mem_cons_self; omega
theorem ref_ev (n : Nat) (hn : n ≤ 512) (a : Int) (ha : a ≤ 512) : ∀ (ls : List Int) (cs : List (List Int)), ls.length = cs.length → cs.length ≠ 0 → cs.length ≤ 16 → (∀ c ∈ cs, soundB c = true) → (∀ x ∈ ls, 0 ≤ x ∧ x ≤ a) → ls.sum ≤ 512 → ∀ kk, kk ≤ n →
    Ev (fun k => stowageref12_Best.f k (ls.sum + kk) ls cs) (SD.follow ls (tab ls cs n) kk, V ls cs n kk)
  | [l], [c], _, _, _, hs, hls, hsm, kk, hk => by
    have hc := hs c List.mem_cons_self
    have hlen := sound_len hc
    have hb := at_bounds hc (l + kk)
    obtain ⟨b1, b2⟩ := bestN_spec l c ((tab [] [] n).headD []) kk hc (kk + 1) (Nat.le_refl _)
    have hrest : ∀ t, t ≤ n → (((tab [] [] n).headD []).getD t (0, 0)).1 = if t = 0 then 0 else -1 := fun t ht => V_nil n t ht
    have e0 : bestN l c ((tab [] [] n).headD []) kk (kk + 1) = (at_ c (l + kk), (kk : Int)) := by
      rcases b2 with b2 | ⟨t, ht, h0, b2⟩
      · have := b1 0 (by omega) (by rw [hrest 0 (by omega)]; decide)
        rw [hrest 0 (by omega), if_pos rfl, b2] at this
        simp only [Nat.sub_zero] at this
        omega
      · rw [hrest t (by omega)] at h0 b2
        have ht0 : t = 0 := by
          split at h0
          · assumption
          · omega
        subst ht0
        rw [b2, if_pos rfl, Nat.sub_zero, Int.zero_add]
    have hcell := cell_cons l [] c [] n kk hk
    have eV : V [l] [c] n kk = at_ c (l + kk) := by unfold V; rw [hcell, e0]
    have eF : SD.follow [l] (tab [l] [c] n) kk = [l + kk] := by
      simp only [tab, List.headD_cons] at hcell e0
      simp only [tab, SD.follow, List.headD_cons]
      rw [hcell, e0]
    rw [eV, eF]
    have es : [l].sum + (kk : Int) = l + kk := by simp
    rw [es]
    refine Ev.step (f := fun k => (stowageref11_At.f k c (l + kk)).bind fun t => some ([l + (kk : Int)], t)) (fun k => ?_) (Ev.bind (rat_ev c _ (by omega)) (Ev.now _))
    simp only [stowageref12_Best.f]
    rw [if_pos (by simp), if_pos (by simp)]
    rfl
  | l :: l' :: ls, c :: c' :: cs, hl, _, h16, hs, hls, hsm, kk, hk => by
    have hl' : (l' :: ls).length = (c' :: cs).length := by simpa using hl
    have hs' : ∀ x ∈ c' :: cs, soundB x = true := fun x h => hs x (List.mem_cons_of_mem _ h)
    have hls' : ∀ x ∈ l' :: ls, 0 ≤ x ∧ x ≤ a := fun x h => hls x (List.mem_cons_of_mem _ h)
    have hc := hs c List.mem_cons_self
    have hl0 := hls l List.mem_cons_self
    have hsum := sum_bounds a _ hls'
    have hsc : (l :: l' :: ls).sum = l + (l' :: ls).sum := List.sum_cons
    have ih := fun t (ht : t ≤ kk) => ref_ev n hn a ha (l' :: ls) (c' :: cs) hl' (by simp) (by simp at h16 ⊢; omega) hs' hls' (by omega) t (by omega)
    have lp := ref_loop l c (l' :: ls) (c' :: cs) n kk ((l :: l' :: ls).sum + kk) (by rw [hsc]) hl0.1 (by omega) hk hn hsum (by omega) hl' (by simp) (by simp at h16 ⊢; omega) hc hs' ih (kk + 1) 0 (by omega)
    have hV := V_nonneg n (l :: l' :: ls) (c :: c' :: cs) hl (by simp) hs kk hk
    have hcell := cell_cons l (l' :: ls) c (c' :: cs) n kk hk
    have eR : refSt l c (l' :: ls) (c' :: cs) n kk (kk + 1) = (SD.follow (l :: l' :: ls) (tab (l :: l' :: ls) (c :: c' :: cs) n) kk, V (l :: l' :: ls) (c :: c' :: cs) n kk) := by
      have eV : V (l :: l' :: ls) (c :: c' :: cs) n kk = (bestN l c ((tab (l' :: ls) (c' :: cs) n).headD []) kk (kk + 1)).1 := by unfold V; rw [hcell]
      rw [eV] at hV
      rw [eV]
      unfold refSt
      rw [if_neg (by omega)]
      have eT : tab (l :: l' :: ls) (c :: c' :: cs) n = bestRow l c ((tab (l' :: ls) (c' :: cs) n).headD []) n :: tab (l' :: ls) (c' :: cs) n := rfl
      have hcell' := hcell
      rw [eT, List.headD_cons] at hcell'
      rw [eT]
      simp only [SD.follow]
      rw [hcell']
    rw [eR] at lp
    have e0 : refSt l c (l' :: ls) (c' :: cs) n kk 0 = ([], -1) := by unfold refSt; simp [bestN]
    rw [e0, Int.natCast_zero, Int.sub_zero] at lp
    refine Ev.step (f := fun k => (stowageref12_all.f k (l' :: ls)).bind fun t => stowageref12_Best.l0 k ((l :: l' :: ls).sum + kk) (l :: l' :: ls) (c :: c' :: cs) [] (-1) (wrap64 ((l :: l' :: ls).sum + kk - t))) (fun k => ?_) (Ev.bind (all_ev _ a ha (by simp at hl h16 ⊢; omega) hls') ?_)
    · simp only [stowageref12_Best.f]
      rw [if_neg (by simp <;> omega), if_pos (by simp <;> omega)]
      rfl
    · rw [w64 (by omega) (by omega), show (l :: l' :: ls).sum + (kk : Int) - (l' :: ls).sum = l + kk by omega]
      exact lp
  | [], [], _, h, _, _, _, _, _, _ => absurd rfl h
  | [_], _ :: _ :: _, h, _, _, _, _, _, _, _ => by simp at h
  | _ :: _ :: _, [_], h, _, _, _, _, _, _, _ => by simp at h

theorem SolveBest (a : Int) (ls : List Int) (cs : List (List Int)) (hm : cs.length ≤ 9223372036854775807) : Ev (fun k => stowagelaw12_SolveBest.f k a ls cs) true := by
  have hlaw : ∀ k, stowagelaw12_SolveBest.f k a ls cs = (stowageref12_Check.f k a ls cs).bind fun t165 => stowagelaw12_SolveBest.j0 k a ls cs (best a ls cs).1 (best a ls cs).2.1 t165 ((best a ls cs).2.2 != t165) := by
    intro k
    unfold stowagelaw12_SolveBest.f solve_Best.f
    rw [Option.bind_some]
    congr 1
  refine Ev.congr hlaw (Ev.bind (check_ev a ls cs hm) ?_)
  by_cases he : (rightE a ls cs).2 = 0
  · obtain ⟨g1, g2, g3, g4, g5, g6, g7, g8, g9⟩ := right_good he
    obtain ⟨n, hn⟩ := Int.eq_ofNat_of_zero_le g9
    have hsm := sum_bounds a ls g6
    have eb : best a ls cs = (SD.follow ls (tab ls cs n) n, V ls cs n n, 0) := by
      unfold best
      rw [if_pos he, g8, hn, Int.toNat_natCast]
      rfl
    have hV := V_nonneg n ls cs g5 g3 g7 n (Nat.le_refl _)
    obtain ⟨o1, o2, o3, o4⟩ := (opt n ls cs g5 g7 n (Nat.le_refl _)).1 hV
    rw [eb, he]
    have h1 : Ev (fun k => stowagelaw12_SolveBest.j1 k a ls cs (SD.follow ls (tab ls cs n) n) (V ls cs n n) true) true := by
      refine Ev.step (f := fun k => (stowageref12_Sum.f k (SD.follow ls (tab ls cs n) n) cs).bind fun t167 => if V ls cs n n = t167 then some (((SD.follow ls (tab ls cs n) n).length : Int) == (cs.length : Int)) else some false) (fun k => ?_) (Ev.bind (sum_ev _ cs (by omega) g4 g7) ?_)
      · simp only [stowagelaw12_SolveBest.j1, if_true]
      · rw [o4]
        refine Ev.congr (fun k => by rw [if_pos rfl, o1]) ?_
        rw [show (((cs.length : Int)) == (cs.length : Int)) = true from beq_self_eq_true _]
        exact Ev.now _
    have h2 : Ev (fun k => stowagelaw12_SolveBest.j1 k a ls cs (SD.follow ls (tab ls cs n) n) (V ls cs n n) false) true := by
      have href := ref_ev n (by omega) a g2 ls cs g5 g3 g4 g7 g6 (by omega) n (Nat.le_refl _)
      rw [show ls.sum + (n : Int) = a by omega] at href
      refine Ev.step (f := fun k => (stowageref12_Best.f k a ls cs).bind fun bt => (stowageref01_SameInts.f k (SD.follow ls (tab ls cs n) n) bt.1).bind fun t172 => if t172 = true then some (V ls cs n n == bt.2) else some false) (fun k => ?_) (Ev.bind href (Ev.bind (same_ev _ _ (by omega)) ?_))
      · simp only [stowagelaw12_SolveBest.j1, Bool.false_eq_true, if_false]
      · rw [decide_eq_true rfl]
        refine Ev.congr (fun k => by rw [if_pos rfl, beq_self_eq_true]) (Ev.now _)
    by_cases c1 : (cs.length : Int) > 3
    · refine Ev.step (fun k => ?_) h1
      simp only [stowagelaw12_SolveBest.j0]
      rw [if_neg (by simp), if_pos (by first | rfl | trivial), if_pos c1]
    · by_cases c2 : a > 40
      · refine Ev.step (fun k => ?_) h1
        simp only [stowagelaw12_SolveBest.j0]
        rw [if_neg (by simp), if_pos (by first | rfl | trivial), if_neg c1, decide_eq_true c2]
      · refine Ev.step (fun k => ?_) h2
        simp only [stowagelaw12_SolveBest.j0]
        rw [if_neg (by simp), if_pos (by first | rfl | trivial), if_neg c1, decide_eq_false c2]
  · have eb : best a ls cs = ([], 0, (rightE a ls cs).2) := by unfold best; rw [if_neg he]
    rw [eb]
    refine Ev.step (f := fun _ => some _) (fun k => ?_) (Ev.now _)
    simp only [stowagelaw12_SolveBest.j0]
    rw [if_neg (by simp), if_neg he]
    rfl

theorem greedy_walk (a0 : Int) (A1 : Option Addr) (c1 : Nat) (l1 : List Int) (A2 : Option Addr) (c2 : Nat) (l2 : List (List Int)) (w : World) (hr1 : Kd.C (Kd.int .i64) w A1 l1.length l1) (hc1 : l1.length ≤ c1) (hr2 : Kd.C (Kd.slice 3 (Kd.int .i64)) w A2 l2.length l2) (hc2 : l2.length ≤ c2) (hl : ∀ l ∈ l2, l.length ≤ 9223372036854775807 ∧ ∀ x ∈ l, (Lit.int .i64 x).wf = true) :
    Calls Try.prog 3 #[.int .i64 a0, .slice A1 l1.length c1, .slice A2 l2.length c2] w fun e w' => e = .returned (.bool true) ∧ Below w.heap.size w w' := by
  obtain ⟨k, hk⟩ := (SolveGreedy a0 l1 l2 hr2.2.1 (fun l h => (hl l h).1)).rounds
  exact stowagelaw12_SolveGreedy.calls k a0 A1 c1 l1 A2 c2 l2 true w hr1 hc1 hr2 hc2 hk
theorem best_walk (a0 : Int) (A1 : Option Addr) (c1 : Nat) (l1 : List Int) (A2 : Option Addr) (c2 : Nat) (l2 : List (List Int)) (w : World) (hr1 : Kd.C (Kd.int .i64) w A1 l1.length l1) (hc1 : l1.length ≤ c1) (hr2 : Kd.C (Kd.slice 3 (Kd.int .i64)) w A2 l2.length l2) (hc2 : l2.length ≤ c2) :
    Calls Try.prog 4 #[.int .i64 a0, .slice A1 l1.length c1, .slice A2 l2.length c2] w fun e w' => e = .returned (.bool true) ∧ Below w.heap.size w w' := by
  obtain ⟨k, hk⟩ := (SolveBest a0 l1 l2 hr2.2.1).rounds
  exact stowagelaw12_SolveBest.calls k a0 A1 c1 l1 A2 c2 l2 true w hr1 hc1 hr2 hc2 hk

end Go.Proofs.Ytmkeffpgofjlnaa.Pure
