/- The best shares: what the table holds is the most that any shares bring; and slot by slot is as good where no gain ever grows. In numbers and lists alone. -/
import Derived.Test.YtmkeffpgofjlnaaSolveFns
namespace Go.Proofs.Ytmkeffpgofjlnaa.SO
open Go.Proofs.Ytmkeffpgofjlnaa.SD Go.Proofs.Ytmkeffpgofjlnaa.SR Go.Proofs.Ytmkeffpgofjlnaa.SF

/-- The most that they bring with k slots more than their least. -/
def V (ls : List Int) (cs : List (List Int)) (n k : Nat) : Int := (((tab ls cs n).headD []).getD k (0, 0)).1
theorem V_nil (n k : Nat) (h : k ≤ n) : V [] [] n k = if k = 0 then 0 else -1 := by
  unfold V tab
  simp only [List.headD_cons, baseRow]
  rw [getD_at _ _ (by simp; omega)]
  simp only [List.getElem_map, List.getElem_range]
  split <;> rfl
theorem cell_cons (l : Int) (ls : List Int) (c : List Int) (cs : List (List Int)) (n k : Nat) (h : k ≤ n) : ((tab (l :: ls) (c :: cs) n).headD []).getD k (0, 0) = bestN l c ((tab ls cs n).headD []) k (k + 1) := by
  simp only [tab, List.headD_cons, bestRow]
  rw [getD_at _ _ (by simp; omega)]
  simp only [List.getElem_map, List.getElem_range]
theorem bestN_spec (l : Int) (c : List Int) (rest : List (Int × Int)) (k : Nat) (hc : soundB c = true) : ∀ j, j ≤ k + 1 →
    (∀ t, t < j → 0 ≤ (rest.getD t (0, 0)).1 → (rest.getD t (0, 0)).1 + at_ c (l + ((k - t : Nat) : Int)) ≤ (bestN l c rest k j).1) ∧
    (bestN l c rest k j = (-1, 0) ∨ ∃ t, t < j ∧ 0 ≤ (rest.getD t (0, 0)).1 ∧ bestN l c rest k j = ((rest.getD t (0, 0)).1 + at_ c (l + ((k - t : Nat) : Int)), ((k - t : Nat) : Int)))
  | 0, _ => ⟨fun t h => by omega, .inl rfl⟩
  | j + 1, h => by
    obtain ⟨h1, h2⟩ := bestN_spec l c rest k hc j (by omega)
    have hb := at_bounds hc (l + ((k - j : Nat) : Int))
    have hlow : -1 ≤ (bestN l c rest k j).1 := by
      rcases h2 with h2 | ⟨t, _, ht, h2⟩
      · rw [h2]; exact Int.le_refl _
      · rw [h2]; have := at_bounds hc (l + ((k - t : Nat) : Int)); dsimp only; omega
    unfold bestN bestStep
    rw [show k - (k - j) = j by omega]
    split
    · rename_i hs
      refine ⟨fun t ht h0 => ?_, .inr ⟨j, by omega, hs.1, rfl⟩⟩
      dsimp only
      rcases Nat.lt_or_ge t j with h3 | h3
      · have := h1 t h3 h0; omega
      · obtain rfl : t = j := by omega
        omega
    · rename_i hs
      refine ⟨fun t ht h0 => ?_, ?_⟩
      · rcases Nat.lt_or_ge t j with h3 | h3
        · exact h1 t h3 h0
        · obtain rfl : t = j := by omega
          have : ¬ (bestN l c rest k t).1 < (rest.getD t (0, 0)).1 + at_ c (l + ((k - t : Nat) : Int)) := fun h4 => hs ⟨h0, h4⟩
          omega
      · rcases h2 with h2 | ⟨t, ht, h3, h4⟩
        · exact .inl h2
        · exact .inr ⟨t, by omega, h3, h4⟩

theorem sum_ge : ∀ (ls ss : List Int), ls.length = ss.length → (∀ i : Nat, i < ls.length → ls.getD i 0 ≤ ss.getD i 0) → ls.sum ≤ ss.sum
  | [], [], _, _ => Int.le_refl _
  | l :: ls, s :: ss, h, hi => by
    have h0 := hi 0 (by simp)
    have ih := sum_ge ls ss (by simpa using h) (fun i h2 => by have := hi (i + 1) (by simpa using h2); simpa using this)
    simp only [List.getD_cons_zero] at h0
    simp only [List.sum_cons]
    omega

theorem opt (n : Nat) : ∀ (ls : List Int) (cs : List (List Int)), ls.length = cs.length → (∀ c ∈ cs, soundB c = true) → ∀ k, k ≤ n →
    (0 ≤ V ls cs n k → (SD.follow ls (tab ls cs n) k).length = cs.length ∧ (SD.follow ls (tab ls cs n) k).sum = ls.sum + k ∧ (∀ i : Nat, i < cs.length → ls.getD i 0 ≤ (SD.follow ls (tab ls cs n) k).getD i 0) ∧ sumOf (SD.follow ls (tab ls cs n) k) cs = V ls cs n k) ∧
    (∀ ss : List Int, ss.length = cs.length → ss.sum = ls.sum + k → (∀ i : Nat, i < cs.length → ls.getD i 0 ≤ ss.getD i 0) → 0 ≤ V ls cs n k ∧ sumOf ss cs ≤ V ls cs n k)
  | [], [], _, _, k, hk => by
    rw [V_nil n k hk]
    refine ⟨fun h => ?_, fun ss h1 h2 h3 => ?_⟩
    · split at h
      · rename_i h0
        subst h0
        simp [SD.follow, sumOf]
      · omega
    · obtain rfl : ss = [] := List.eq_nil_of_length_eq_zero (by simpa using h1)
      simp at h2
      have : k = 0 := by omega
      rw [if_pos this]
      simp [sumOf]
  | l :: ls, c :: cs, hl, hs, k, hk => by
    have hl' : ls.length = cs.length := by simpa using hl
    have hs' : ∀ c ∈ cs, soundB c = true := fun c h => hs c (List.mem_cons_of_mem _ h)
    have hc := hs c List.mem_cons_self
    obtain ⟨b1, b2⟩ := bestN_spec l c ((tab ls cs n).headD []) k hc (k + 1) (Nat.le_refl _)
    have hV : V (l :: ls) (c :: cs) n k = (bestN l c ((tab ls cs n).headD []) k (k + 1)).1 := by unfold V; rw [cell_cons l ls c cs n k hk]
    refine ⟨fun h => ?_, fun ss h1 h2 h3 => ?_⟩
    · rw [hV] at h ⊢
      rcases b2 with b2 | ⟨t, ht, h0, b2⟩
      · rw [b2] at h; exact absurd h (by decide)
      · obtain ⟨i1, i2, i3, i4⟩ := (opt n ls cs hl' hs' t (by omega)).1 h0
        have hf : SD.follow (l :: ls) (tab (l :: ls) (c :: cs) n) k = (l + ((k - t : Nat) : Int)) :: SD.follow ls (tab ls cs n) t := by
          have e := cell_cons l ls c cs n k hk
          simp only [tab, List.headD_cons] at e
          simp only [tab, SD.follow]
          rw [e, b2]
          dsimp only
          rw [Int.toNat_natCast, show k - (k - t) = t by omega]
        rw [hf, b2]
        refine ⟨by simp [i1], ?_, fun i hi => ?_, ?_⟩
        · rw [List.sum_cons, List.sum_cons, i2]; omega
        · cases i with
          | zero => simp only [List.getD_cons_zero]; omega
          | succ i => simp only [List.getD_cons_succ]; exact i3 i (by simpa using hi)
        · simp only [sumOf]
          rw [i4]
          unfold V
          omega
    · rw [hV]
      cases ss with
      | nil => simp at h1
      | cons s ss =>
        have h30 := h3 0 (by simp)
        simp only [List.getD_cons_zero] at h30
        have h31 : ∀ i : Nat, i < cs.length → ls.getD i 0 ≤ ss.getD i 0 := fun i hi => by have := h3 (i + 1) (by simpa using hi); simpa using this
        have h1' : ss.length = cs.length := by simpa using h1
        have hge := sum_ge ls ss (by omega) (fun i hi => h31 i (by omega))
        simp only [List.sum_cons] at h2
        obtain ⟨m, hm⟩ := Int.eq_ofNat_of_zero_le (show 0 ≤ s - l by omega)
        have hmk : m ≤ k := by omega
        obtain ⟨r1, r2⟩ := (opt n ls cs hl' hs' (k - m) (by omega)).2 ss h1' (by omega) h31
        have := b1 (k - m) (by omega) r1
        rw [show k - (k - m) = m by omega] at this
        have e : l + (m : Int) = s := by omega
        rw [e] at this
        have hb := at_bounds hc s
        unfold V at r1 r2
        simp only [sumOf]
        exact ⟨by omega, by omega⟩
theorem V_nonneg (n : Nat) (ls : List Int) (cs : List (List Int)) (hl : ls.length = cs.length) (h0 : cs.length ≠ 0) (hs : ∀ c ∈ cs, soundB c = true) (k : Nat) (hk : k ≤ n) : 0 ≤ V ls cs n k := by
  cases ls with
  | nil => simp at hl; omega
  | cons l ls =>
    refine ((opt n (l :: ls) cs hl hs k hk).2 ((l + k) :: ls) (by simpa using hl) (by simp only [List.sum_cons]; omega) (fun i hi => ?_)).1
    cases i with
    | zero => simp only [List.getD_cons_zero]; omega
    | succ i => simp only [List.getD_cons_succ]; exact Int.le_refl _
theorem V_le (n : Nat) (ls : List Int) (cs : List (List Int)) (hl : ls.length = cs.length) (h0 : cs.length ≠ 0) (hs : ∀ c ∈ cs, soundB c = true) (k : Nat) (hk : k ≤ n) : V ls cs n k ≤ 4503599627370496 * cs.length := by
  have h := ((opt n ls cs hl hs k hk).1 (V_nonneg n ls cs hl h0 hs k hk)).2.2.2
  rw [← h]
  exact (sumOf_bounds _ cs hs).2

/-! ### Slot by slot, where no gain ever grows -/
def Concave (c : List Int) : Prop := ∀ s t : Int, 0 ≤ s → s ≤ t → gn c t ≤ gn c s
theorem pick_max (cs : List (List Int)) (out : List Int) : ∀ j i : Nat, i < j → gn (cs.getD i []) (out.getD i 0) ≤ gn (cs.getD (pick cs out j) []) (out.getD (pick cs out j) 0)
  | 0, i, h => by omega
  | j + 1, i, h => by
    unfold pick
    split
    · rename_i hgt
      rcases Nat.lt_or_ge i j with h1 | h1
      · have := pick_max cs out j i h1; omega
      · obtain rfl : i = j := by omega
        exact Int.le_refl _
    · rename_i hgt
      rcases Nat.lt_or_ge i j with h1 | h1
      · exact pick_max cs out j i h1
      · obtain rfl : i = j := by omega
        omega
theorem sumOf_set : ∀ (ss : List Int) (cs : List (List Int)) (i : Nat) (x : Int), i < ss.length → i < cs.length → sumOf (ss.set i x) cs = sumOf ss cs + at_ (cs.getD i []) x - at_ (cs.getD i []) (ss.getD i 0)
  | s :: ss, c :: cs, 0, x, _, _ => by simp only [List.set_cons_zero, sumOf, List.getD_cons_zero]; omega
  | s :: ss, c :: cs, i + 1, x, h1, h2 => by
    have := sumOf_set ss cs i x (by simpa using h1) (by simpa using h2)
    simp only [List.set_cons_succ, sumOf, List.getD_cons_succ]
    omega
theorem sum_set : ∀ (ss : List Int) (i : Nat) (x : Int), i < ss.length → (ss.set i x).sum = ss.sum + x - ss.getD i 0
  | s :: ss, 0, x, _ => by simp only [List.set_cons_zero, List.sum_cons, List.getD_cons_zero]; omega
  | s :: ss, i + 1, x, h => by
    have := sum_set ss i x (by simpa using h)
    simp only [List.set_cons_succ, List.sum_cons, List.getD_cons_succ]
    omega
theorem getD_set_self {α : Type} (l : List α) (i : Nat) (x d : α) (h : i < l.length) : (l.set i x).getD i d = x := by
  rw [List.getD_eq_getElem?_getD, List.getElem?_set_self h]; rfl
theorem getD_set_ne {α : Type} (l : List α) (i j : Nat) (x d : α) (h : i ≠ j) : (l.set i x).getD j d = l.getD j d := by
  rw [List.getD_eq_getElem?_getD, List.getElem?_set_ne h, ← List.getD_eq_getElem?_getD]
theorem exists_more : ∀ (ls ss : List Int), ls.length = ss.length → (∀ i : Nat, i < ls.length → ls.getD i 0 ≤ ss.getD i 0) → ls.sum < ss.sum → ∃ i, i < ls.length ∧ ls.getD i 0 < ss.getD i 0
  | [], [], _, _, h => by simp at h
  | l :: ls, s :: ss, h, hi, hs => by
    by_cases h0 : l < s
    · exact ⟨0, by simp, by simpa using h0⟩
    · have h00 := hi 0 (by simp)
      simp only [List.getD_cons_zero] at h00
      simp only [List.sum_cons] at hs
      obtain ⟨i, h1, h2⟩ := exists_more ls ss (by simpa using h) (fun i h2 => by have := hi (i + 1) (by simpa using h2); simpa using this) (by omega)
      exact ⟨i + 1, by simpa using h1, by simpa using h2⟩
theorem greedy_best (cs : List (List Int)) (hn : cs.length ≠ 0) (hs : ∀ c ∈ cs, soundB c = true) (hcv : ∀ c ∈ cs, Concave c) : ∀ (t : Nat) (out : List Int), out.length = cs.length → (∀ i : Nat, i < cs.length → 0 ≤ out.getD i 0) →
    ∀ ss : List Int, ss.length = cs.length → ss.sum = out.sum + t → (∀ i : Nat, i < cs.length → out.getD i 0 ≤ ss.getD i 0) → sumOf ss cs ≤ sumOf (greedy cs out t) cs
  | 0, out, ho, h0, ss, h1, h2, h3 => by
    have e : ss = out := by
      apply List.ext_getElem (by omega)
      intro i a b
      have hle := h3 i (by omega)
      rw [getD_at out i b, getD_at ss i a] at hle
      by_cases hlt : out[i] < ss[i]
      · have := sum_ge (out.set i ss[i]) ss (by rw [List.length_set]; omega) (fun j hj => by
          rw [List.length_set] at hj
          by_cases e : i = j
          · subst e; rw [getD_set_self _ _ _ _ b, getD_at ss i a]; exact Int.le_refl _
          · rw [getD_set_ne _ _ _ _ _ e]; exact h3 j (by omega))
        rw [sum_set out i _ b, getD_at out i b] at this
        omega
      · omega
    rw [e]; exact Int.le_refl _
  | t + 1, out, ho, h0, ss, h1, h2, h3 => by
    have hp := pick_lt cs out cs.length (by omega) cs.length (Nat.le_refl _)
    have hmax := pick_max cs out cs.length
    unfold greedy
    generalize hpe : pick cs out cs.length = p at *
    have hset : ∀ i : Nat, i < cs.length → 0 ≤ (out.set p (out.getD p 0 + 1)).getD i 0 := fun i hi => by
      by_cases e : p = i
      · subst e; rw [getD_set_self _ _ _ _ (by omega)]; have := h0 p hi; omega
      · rw [getD_set_ne _ _ _ _ _ e]; exact h0 i hi
    have ih := greedy_best cs hn hs hcv t (out.set p (out.getD p 0 + 1)) (by rw [List.length_set]; exact ho) hset
    have hsum : (out.set p (out.getD p 0 + 1)).sum = out.sum + 1 := by rw [sum_set out p _ (by omega)]; omega
    by_cases hsp : out.getD p 0 < ss.getD p 0
    · refine ih ss h1 (by rw [hsum]; omega) (fun i hi => ?_)
      by_cases e : p = i
      · subst e; rw [getD_set_self _ _ _ _ (by omega)]; omega
      · rw [getD_set_ne _ _ _ _ _ e]; exact h3 i hi
    · have hspe : ss.getD p 0 = out.getD p 0 := by have := h3 p hp; omega
      obtain ⟨q, hq, hqlt⟩ := exists_more out ss (by omega) (fun i hi => h3 i (by omega)) (by omega)
      have hpq : p ≠ q := fun e => by subst e; omega
      have key := ih ((ss.set q (ss.getD q 0 - 1)).set p (out.getD p 0 + 1)) (by rw [List.length_set, List.length_set]; exact h1)
        (by rw [sum_set _ p _ (by rw [List.length_set]; omega), getD_set_ne _ _ _ _ _ (Ne.symm hpq), sum_set ss q _ (by omega), hsum]; omega)
        (fun i hi => by
          by_cases e : p = i
          · subst e; rw [getD_set_self _ _ _ _ (by omega), getD_set_self _ _ _ _ (by rw [List.length_set]; omega)]; exact Int.le_refl _
          · rw [getD_set_ne _ _ _ _ _ e, getD_set_ne _ _ _ _ _ e]
            by_cases e2 : q = i
            · subst e2; rw [getD_set_self _ _ _ _ (by omega)]; omega
            · rw [getD_set_ne _ _ _ _ _ e2]; exact h3 i hi)
      rw [sumOf_set _ cs p _ (by rw [List.length_set]; omega) hp, getD_set_ne _ _ _ _ _ (Ne.symm hpq), sumOf_set ss cs q _ (by omega) (by omega), hspe] at key
      have hq0 := h0 q (by omega)
      have g1 := hcv _ (getD_mem cs q (by omega) []) (out.getD q 0) (ss.getD q 0 - 1) hq0 (by omega)
      have g2 := hmax q (by omega)
      have e1 : gn (cs.getD q []) (ss.getD q 0 - 1) = at_ (cs.getD q []) (ss.getD q 0) - at_ (cs.getD q []) (ss.getD q 0 - 1) := by
        unfold gn; rw [show ss.getD q 0 - 1 + 1 = ss.getD q 0 by omega]
      have e2 : gn (cs.getD p []) (out.getD p 0) = at_ (cs.getD p []) (out.getD p 0 + 1) - at_ (cs.getD p []) (out.getD p 0) := rfl
      omega

/-! ### What slot by slot gives -/
theorem greedy_sum (cs : List (List Int)) (hn : cs.length ≠ 0) : ∀ (t : Nat) (out : List Int), out.length = cs.length → (greedy cs out t).sum = out.sum + t ∧ ∀ i : Nat, i < cs.length → out.getD i 0 ≤ (greedy cs out t).getD i 0
  | 0, out, ho => ⟨by simp [greedy], fun i _ => Int.le_refl _⟩
  | t + 1, out, ho => by
    have hp := pick_lt cs out cs.length (by omega) cs.length (Nat.le_refl _)
    obtain ⟨h1, h2⟩ := greedy_sum cs hn t (out.set (pick cs out cs.length) (out.getD (pick cs out cs.length) 0 + 1)) (by rw [List.length_set]; exact ho)
    unfold greedy
    refine ⟨by rw [h1, sum_set _ _ _ (by omega)]; omega, fun i hi => ?_⟩
    have := h2 i hi
    by_cases e : pick cs out cs.length = i
    · rw [e] at this ⊢
      rw [getD_set_self _ _ _ _ (by omega)] at this
      omega
    · rw [getD_set_ne _ _ _ _ _ e] at this
      exact this

end Go.Proofs.Ytmkeffpgofjlnaa.SO
