/- The law SolveAll: what is shared is the total, nobody has less than the least, no shares bring more: for any numbers and lists. -/
import Derived.Test.YtmkeffpgofjlnaaQLawSolveAll
import Derived.Test.YtmkeffpgofjlnaaSolveOpt
namespace Go.Proofs.Ytmkeffpgofjlnaa.Pure
open Go.RowKit Go.Proofs.Ytmkeffpgofjlnaa.Q Go.Proofs.Ytmkeffpgofjlnaa.SD Go.Proofs.Ytmkeffpgofjlnaa.SR Go.Proofs.Ytmkeffpgofjlnaa.SF Go.Proofs.Ytmkeffpgofjlnaa.SO Go.Proofs.YtmkeffpgofjlnaaW.PrintWords Go.Proofs.YtmkeffpgofjlnaaW.PrintLast Go.Proofs.YtmkeffpgofjlnaaW.PrintMore

theorem sum_nonneg : ∀ (l : List Int), (∀ i : Nat, i < l.length → 0 ≤ l.getD i 0) → 0 ≤ l.sum
  | [], _ => by simp
  | x :: t, h => by
    have h0 := h 0 (by simp)
    have ih := sum_nonneg t (fun i hi => by have := h (i + 1) (by simpa using hi); simpa using this)
    simp only [List.getD_cons_zero] at h0
    rw [List.sum_cons]
    omega
theorem le_sum : ∀ (l : List Int), (∀ i : Nat, i < l.length → 0 ≤ l.getD i 0) → ∀ i : Nat, i < l.length → l.getD i 0 ≤ l.sum
  | x :: t, h, i, hi => by
    have h0 := h 0 (by simp)
    have ht : ∀ i : Nat, i < t.length → 0 ≤ t.getD i 0 := fun i hi => by have := h (i + 1) (by simpa using hi); simpa using this
    have hs := sum_nonneg t ht
    simp only [List.getD_cons_zero] at h0
    rw [List.sum_cons]
    cases i with
    | zero => simp only [List.getD_cons_zero]; omega
    | succ i => have := le_sum t ht i (by simpa using hi); simp only [List.getD_cons_succ]; omega
theorem drop_nonneg (l : List Int) (h : ∀ i : Nat, i < l.length → 0 ≤ l.getD i 0) (j : Nat) : 0 ≤ (l.drop j).sum := by
  refine sum_nonneg _ (fun i hi => ?_)
  rw [List.length_drop] at hi
  have := h (j + i) (by omega)
  rw [List.getD_eq_getElem?_getD, List.getElem?_drop, ← List.getD_eq_getElem?_getD]
  exact this

section
variable (cs : List (List Int)) (tr : List Int) (K : Int) (low g b : List Int) (v : Int)

theorem all_l2 (h0 : cs.length ≠ 0) (h16 : cs.length ≤ 16) (hs : ∀ c ∈ cs, soundB c = true) (htr : ∀ x ∈ tr, 0 ≤ x ∧ x ≤ 255) (htl : tr.length ≤ 9223372036854775807) (hK : K ≤ 119) (hlow : ∀ i : Nat, i < cs.length → 0 ≤ low.getD i 0) (hlen : low.length = cs.length)
    (hg : sumOf g cs ≤ v) (hgl : g.length = cs.length) (hb : sumOf b cs = v) (hbl : b.length = cs.length) (opt : ∀ ss : List Int, ss.length = cs.length → ss.sum = K → (∀ i : Nat, i < cs.length → low.getD i 0 ≤ ss.getD i 0) → sumOf ss cs ≤ v) :
    ∀ (d : Nat) (mine : List Int) (j : Nat), j + d ≤ 1000 → mine.length = cs.length → mine.sum + d = K → (∀ i : Nat, i < cs.length → low.getD i 0 ≤ mine.getD i 0) →
    Ev (fun k => stowagelaw12_SolveAll.l2 k cs tr K g b v K K (d : Int) mine (j : Int)) true
  | 0, mine, j, hj, hm, hsum, hge => by
    refine Ev.step (f := fun k => (stowageref12_Sum.f k g cs).bind fun t161 => if v ≥ t161 then (stowageref12_Sum.f k mine cs).bind fun t162 => if v ≥ t162 then (stowageref12_Sum.f k b cs).bind fun t163 => some (v == t163) else some false else some false) (fun k => ?_) ?_
    · simp only [stowagelaw12_SolveAll.l2]
      rw [if_neg (by omega), if_pos trivial, if_pos trivial]
    · refine Ev.bind (sum_ev g cs (by omega) h16 hs) ?_
      refine Ev.congr (fun k => by rw [if_pos (show v ≥ sumOf g cs from hg)]) ?_
      refine Ev.bind (sum_ev mine cs (by omega) h16 hs) ?_
      refine Ev.congr (fun k => by rw [if_pos (show v ≥ sumOf mine cs from opt mine hm (by omega) hge)]) ?_
      refine Ev.bind (sum_ev b cs (by omega) h16 hs) ?_
      rw [hb, beq_self_eq_true]
      exact Ev.now _
  | d + 1, mine, j, hj, hm, hsum, hge => by
    have hnn : ∀ i : Nat, i < mine.length → 0 ≤ mine.getD i 0 := fun i hi => by have := hlow i (by omega); have := hge i (by omega); omega
    have next : ∀ p : Nat, p < cs.length → Ev (fun k => stowagelaw12_SolveAll.l2 k cs tr K g b v K K (d : Int) (mine.set p (mine.getD p 0 + 1)) ((j + 1 : Nat) : Int)) true := fun p hp =>
      all_l2 h0 h16 hs htr htl hK hlow hlen hg hgl hb hbl opt d _ (j + 1) (by omega) (by rw [List.length_set]; exact hm) (by rw [sum_set _ _ _ (by omega)]; omega) (fun i hi => by
        by_cases e : p = i
        · subst e; rw [SO.getD_set_self _ _ _ _ (by omega)]; have := hge p hi; omega
        · rw [SO.getD_set_ne _ _ _ _ _ e]; exact hge i hi)
    by_cases c1 : (j : Int) < (tr.length : Int)
    · have htj := htr _ (getD_mem tr j (by omega) 0)
      have e1 : Int.tmod (wrap64 (rd tr (j : Int))) (mine.length : Int) = ((tr.getD j 0 % (mine.length : Int)).toNat : Int) := by
        rw [rd_nat, w64 (by omega) (by omega), Int.tmod_eq_emod_of_nonneg htj.1, Int.toNat_of_nonneg (Int.emod_nonneg _ (by omega))]
      have hp : (tr.getD j 0 % (mine.length : Int)).toNat < mine.length := by
        have := Int.emod_lt_of_pos (tr.getD j 0) (show (0 : Int) < (mine.length : Int) by omega)
        have := Int.emod_nonneg (tr.getD j 0) (show (mine.length : Int) ≠ 0 by omega)
        omega
      generalize (tr.getD j 0 % (mine.length : Int)).toNat = p at *
      have h1 := le_sum mine hnn p hp
      have h2 := hnn p hp
      refine Ev.step (fun k => ?_) (next p (by omega))
      simp only [stowagelaw12_SolveAll.l2]
      rw [if_pos (by omega), if_pos c1, if_pos (by omega), if_neg (by omega), e1, if_pos (by omega), if_pos (by omega), rd_nat, w64 (x := mine.getD p 0 + 1) (by omega) (by omega), w64 (x := ((d + 1 : Nat) : Int) - 1) (by omega) (by omega), w64 (x := (j : Int) + 1) (by omega) (by omega), Int.toNat_natCast, show ((d + 1 : Nat) : Int) - 1 = (d : Int) by omega]
      rfl
    · have h1 := le_sum mine hnn 0 (by omega)
      have h2 := hnn 0 (by omega)
      refine Ev.step (fun k => ?_) (next 0 (by omega))
      simp only [stowagelaw12_SolveAll.l2]
      rw [if_pos (by omega), if_neg c1, if_pos (by omega), show rd mine 0 = mine.getD 0 0 from rd_nat mine 0, w64 (x := mine.getD 0 0 + 1) (by omega) (by omega), w64 (x := ((d + 1 : Nat) : Int) - 1) (by omega) (by omega), w64 (x := (j : Int) + 1) (by omega) (by omega), show ((d + 1 : Nat) : Int) - 1 = (d : Int) by omega]
      rfl

theorem all_l1 (h16 : cs.length ≤ 16) (hK : K ≤ 119) (hlow : ∀ i : Nat, i < low.length → 0 ≤ low.getD i 0) (hlen : low.length = cs.length) (hgl : g.length = cs.length) (hbl : b.length = cs.length)
    (hg : ∀ i : Nat, i < cs.length → low.getD i 0 ≤ g.getD i 0) (hb : ∀ i : Nat, i < cs.length → low.getD i 0 ≤ b.getD i 0) (left : Int) (hleft : 0 ≤ left)
    (next : Ev (fun k => stowagelaw12_SolveAll.l2 k cs tr K g b v K K left low 0) true) : ∀ (d i : Nat) (x18 x19 x20 : Int), i + d = cs.length → 0 ≤ x18 → 0 ≤ x19 → x20 ≤ 119 → x18 + (g.drop i).sum = K → x19 + (b.drop i).sum = K → x20 - (low.drop i).sum = left →
    Ev (fun k => stowagelaw12_SolveAll.l1 k cs tr K low g b v x18 x19 x20 low (i : Int)) true
  | 0, i, x18, x19, x20, hi, n18, n19, n20, e18, e19, e20 => by
    rw [List.drop_of_length_le (by omega), List.sum_nil] at e18 e19 e20
    obtain rfl : x18 = K := by omega
    obtain rfl : x19 = x18 := by omega
    obtain rfl : x20 = left := by omega
    refine Ev.step (fun k => ?_) next
    simp only [stowagelaw12_SolveAll.l1]
    rw [if_neg (by omega)]
  | d + 1, i, x18, x19, x20, hi, n18, n19, n20, e18, e19, e20 => by
    have hgn : ∀ j : Nat, j < g.length → 0 ≤ g.getD j 0 := fun j hj => by have := hlow j (by omega); have := hg j (by omega); omega
    have hbn : ∀ j : Nat, j < b.length → 0 ≤ b.getD j 0 := fun j hj => by have := hlow j (by omega); have := hb j (by omega); omega
    have d1 := drop_nonneg g hgn (i + 1)
    have d2 := drop_nonneg b hbn (i + 1)
    have d3 := drop_nonneg low hlow (i + 1)
    have g1 := hg i (by omega)
    have b1 := hb i (by omega)
    have l1 := hlow i (by omega)
    rw [drop_at g i (by omega) 0, List.sum_cons] at e18
    rw [drop_at b i (by omega) 0, List.sum_cons] at e19
    rw [drop_at low i (by omega) 0, List.sum_cons] at e20
    refine Ev.step (fun k => ?_) (all_l1 h16 hK hlow hlen hgl hbl hg hb left hleft next d (i + 1) (x18 + g.getD i 0) (x19 + b.getD i 0) (x20 - low.getD i 0) (by omega) (by omega) (by omega) (by omega) (by omega) (by omega) (by omega))
    simp only [stowagelaw12_SolveAll.l1]
    rw [if_pos (by omega), if_pos (by omega), if_pos (by omega), if_pos (by omega), rd_nat, rd_nat, rd_nat, if_neg (by omega), if_pos (by omega), if_neg (by omega), w64 (x := x18 + g.getD i 0) (by omega) (by omega), w64 (x := x19 + b.getD i 0) (by omega) (by omega), w64 (x := x20 - low.getD i 0) (by omega) (by omega), w64 (x := (i : Int) + 1) (by omega) (by omega)]
    rfl

/-- The least ones, out of the bytes. -/
def lowOf (l1 : List Int) (m : Nat) : List Int := (List.range m).map fun i => if i < l1.length then l1.getD i 0 % 8 else 0
theorem lowOf_length (l1 : List Int) (m : Nat) : (lowOf l1 m).length = m := by simp [lowOf]
theorem lowOf_get (l1 : List Int) (m i : Nat) (h : i < m) : (lowOf l1 m).getD i 0 = if i < l1.length then l1.getD i 0 % 8 else 0 := by
  rw [getD_at _ _ (by rw [lowOf_length]; exact h)]
  simp [lowOf]
theorem lowOf_succ (l1 : List Int) (i : Nat) : lowOf l1 (i + 1) = lowOf l1 i ++ [if i < l1.length then l1.getD i 0 % 8 else 0] := by
  simp [lowOf, List.range_succ]
theorem lowOf_nonneg (l1 : List Int) (m i : Nat) (h : i < m) : 0 ≤ (lowOf l1 m).getD i 0 := by
  rw [lowOf_get l1 m i h]
  split <;> omega

theorem all_end (hm : cs.length ≤ 9223372036854775807) (hc : ∀ c ∈ cs, c.length ≤ 9223372036854775807) (htr : ∀ x ∈ tr, 0 ≤ x ∧ x ≤ 255) (htl : tr.length ≤ 9223372036854775807) (hK : K ≤ 119) (hlow : ∀ i : Nat, i < low.length → 0 ≤ low.getD i 0) :
    Ev (fun k => (solve_Greedy.f k K low cs).bind fun bt133 => (solve_Best.f K low cs).bind fun bt137 => (stowagelaw12_awake.f).bind fun t142 => if t142 = true then stowagelaw12_SolveAll.j1 k cs tr K low bt133.1 bt133.2 bt137.1 bt137.2.1 (bt133.2 != bt137.2.2) else stowagelaw12_SolveAll.j1 k cs tr K low bt133.1 bt133.2 bt137.1 bt137.2.1 true) true := by
  refine Ev.bind (greedy_ev K low cs hm hc) ?_
  have e2 : (best K low cs).2.2 = (greedyE K low cs).2 := by
    unfold best greedyE
    split <;> rfl
  refine Ev.congr (f := fun k => stowagelaw12_SolveAll.j1 k cs tr K low (greedyE K low cs).1 (greedyE K low cs).2 (best K low cs).1 (best K low cs).2.1 false) (fun k => ?_) ?_
  · unfold solve_Best.f
    rw [Option.bind_some, show stowagelaw12_awake.f = some true from rfl, Option.bind_some, if_pos rfl, e2, bne_self_eq_false]
  · by_cases he : (rightE K low cs).2 = 0
    · obtain ⟨g1, g2, g3, g4, g5, g6, g7, g8, g9⟩ := right_good he
      obtain ⟨n, hn⟩ := Int.eq_ofNat_of_zero_le g9
      have hsm := sum_nonneg low hlow
      have eb : best K low cs = (SD.follow low (tab low cs n) n, V low cs n n, 0) := by
        unfold best
        rw [if_pos he, g8, hn, Int.toNat_natCast]
        rfl
      have eg : greedyE K low cs = (greedy cs low n, 0) := by
        unfold greedyE
        rw [if_pos he, g8, hn, Int.toNat_natCast]
      have hV := V_nonneg n low cs g5 g3 g7 n (Nat.le_refl _)
      obtain ⟨⟨o1, o2, o3, o4⟩, oo⟩ : _ ∧ _ := ⟨(opt n low cs g5 g7 n (Nat.le_refl _)).1 hV, (opt n low cs g5 g7 n (Nat.le_refl _)).2⟩
      obtain ⟨s1, s2⟩ := greedy_sum cs g3 n low g5
      have s3 := greedy_length cs n low
      rw [eb, eg]
      have l2 := all_l2 cs tr K low (greedy cs low n) (SD.follow low (tab low cs n) n) (V low cs n n) g3 g4 g7 htr htl hK (fun i hi => hlow i (by omega)) g5 ((oo _ (by omega) (by omega) s2).2) (by omega) o4 o1 (fun ss h1 h2 h3 => (oo ss h1 (by omega) h3).2) n low 0 (by omega) g5 (by omega) (fun i _ => Int.le_refl _)
      have l1 := all_l1 cs tr K low (greedy cs low n) (SD.follow low (tab low cs n) n) (V low cs n n) g4 hK hlow g5 (by omega) o1 s2 o3 (n : Int) (by omega) l2 cs.length 0 0 0 K (by omega) (by omega) (by omega) hK (by rw [List.drop_zero]; omega) (by rw [List.drop_zero]; omega) (by rw [List.drop_zero]; omega)
      refine Ev.step (fun k => ?_) l1
      simp only [stowagelaw12_SolveAll.j1, Bool.false_eq_true, if_false, if_true]
      rw [Option.bind_some, if_pos (by simp <;> omega), List.nil_append]
      rfl
    · have eb : best K low cs = ([], 0, (rightE K low cs).2) := by unfold best; rw [if_neg he]
      have eg : greedyE K low cs = ([], (rightE K low cs).2) := by unfold greedyE; rw [if_neg he]
      rw [eb, eg]
      refine Ev.step (f := fun _ => some _) (fun k => ?_) (Ev.now _)
      simp only [stowagelaw12_SolveAll.j1, Bool.false_eq_true, if_false]
      rw [if_neg he]
      rfl
theorem all_l0 (l1 : List Int) (hl1 : ∀ x ∈ l1, 0 ≤ x ∧ x ≤ 255) (hm : cs.length ≤ 5864062014806) (hc : ∀ c ∈ cs, c.length ≤ 9223372036854775807) (htr : ∀ x ∈ tr, 0 ≤ x ∧ x ≤ 255) (htl : tr.length ≤ 9223372036854775807) (hK : K ≤ 119) : ∀ (d i : Nat), i + d = cs.length →
    Ev (fun k => stowagelaw12_SolveAll.l0 k l1 cs tr K (lowOf l1 i) (i : Int)) true
  | 0, i, hi => by
    obtain rfl : i = cs.length := by omega
    refine Ev.step (fun k => ?_) (all_end cs tr K (lowOf l1 cs.length) (by omega) hc htr htl hK (fun i hi => lowOf_nonneg l1 _ i (by rwa [lowOf_length] at hi)))
    simp only [stowagelaw12_SolveAll.l0]
    rw [if_neg (by omega)]
  | d + 1, i, hi => by
    have ih := all_l0 l1 hl1 hm hc htr htl hK d (i + 1) (by omega)
    have hlen := lowOf_length l1 i
    rw [lowOf_succ] at ih
    refine Ev.step (fun k => ?_) ih
    simp only [stowagelaw12_SolveAll.l0]
    rw [if_pos (by omega)]
    by_cases c1 : i < l1.length
    · have hx := hl1 _ (getD_mem l1 i c1 0)
      rw [if_pos (show (i : Int) < (l1.length : Int) by omega), if_pos (by omega), if_pos (by omega), if_pos c1, rd_nat, Int.tmod_eq_emod_of_nonneg hx.1, w64 (x := l1.getD i 0 % 8) (by omega) (by omega), w64 (x := (i : Int) + 1) (by omega) (by omega)]
      rfl
    · rw [if_neg (show ¬ (i : Int) < (l1.length : Int) by omega), if_pos (by omega), if_neg c1, w64 (x := (i : Int) + 1) (by omega) (by omega)]
      rfl
end
theorem SolveAll (a : Int) (ha : 0 ≤ a ∧ a ≤ 255) (l1 : List Int) (cs : List (List Int)) (tr : List Int) (hl1 : ∀ x ∈ l1, 0 ≤ x ∧ x ≤ 255) (hm : cs.length ≤ 5864062014806) (hc : ∀ c ∈ cs, c.length ≤ 9223372036854775807) (htr : ∀ x ∈ tr, 0 ≤ x ∧ x ≤ 255) (htl : tr.length ≤ 9223372036854775807) : Ev (fun k => stowagelaw12_SolveAll.f k a l1 cs tr) true := by
  have h := all_l0 cs tr (a % 120) l1 hl1 hm hc htr htl (by omega) cs.length 0 (by omega)
  refine Ev.congr (fun k => ?_) h
  unfold stowagelaw12_SolveAll.f
  rw [Int.tmod_eq_emod_of_nonneg ha.1, w64 (by omega) (by omega)]
  rfl

theorem wf_u8 {x : Int} (h : (Lit.int .u8 x).wf = true) : 0 ≤ x ∧ x ≤ 255 := by
  simp [Lit.wf, IntKind.min, IntKind.max, IntKind.bits, IntKind.signed] at h
  omega
theorem all_walk (a0 : Int) (ha : (Lit.int .u8 a0).wf = true) (A1 : Option Addr) (c1 : Nat) (l1 : List Int) (A2 : Option Addr) (c2 : Nat) (l2 : List (List Int)) (A3 : Option Addr) (c3 : Nat) (l3 : List Int) (w : World) (hr1 : Kd.C (Kd.int .u8) w A1 l1.length l1) (hc1 : l1.length ≤ c1) (hr2 : Kd.C (Kd.slice 3 (Kd.int .i64)) w A2 l2.length l2) (hc2 : l2.length ≤ c2) (hr3 : Kd.C (Kd.int .u8) w A3 l3.length l3) (hc3 : l3.length ≤ c3)
    (hw1 : ∀ x ∈ l1, (Lit.int .u8 x).wf = true) (hw3 : ∀ x ∈ l3, (Lit.int .u8 x).wf = true) (hl : ∀ l ∈ l2, l.length ≤ 9223372036854775807 ∧ ∀ x ∈ l, (Lit.int .i64 x).wf = true) (hy : l2.length * 24 ≤ 140737488351232) :
    Calls Try.prog 5 #[.int .u8 a0, .slice A1 l1.length c1, .slice A2 l2.length c2, .slice A3 l3.length c3] w fun e w' => e = .returned (.bool true) ∧ Below w.heap.size w w' := by
  obtain ⟨k, hk⟩ := (SolveAll a0 (wf_u8 ha) l1 l2 l3 (fun x h => wf_u8 (hw1 x h)) (by omega) (fun l h => (hl l h).1) (fun x h => wf_u8 (hw3 x h)) hr3.2.1).rounds
  exact stowagelaw12_SolveAll.calls k a0 A1 c1 l1 A2 c2 l2 A3 c3 l3 true w hr1 hc1 hr2 hc2 hr3 hc3 hk

end Go.Proofs.Ytmkeffpgofjlnaa.Pure
