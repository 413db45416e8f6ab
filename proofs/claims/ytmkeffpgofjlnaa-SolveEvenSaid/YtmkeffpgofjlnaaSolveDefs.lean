/- What solve.Best computes, in numbers and lists alone: the table of what the curves from i on bring at most. No program in sight. -/
import Derived.WalkKit
namespace Go.Proofs.Ytmkeffpgofjlnaa.SD

/-- How many hits a size brings. -/
def at_ (c : List Int) (s : Int) : Int := if c.length = 0 then 0 else if s < 0 then 0 else c.getD (min s ((c.length : Int) - 1)).toNat 0
/-- May it be a curve? -/
def soundFrom : Int → List Int → Bool
  | _, [] => true
  | last, h :: t => decide (last ≤ h) && (decide (h ≤ 4503599627370496) && soundFrom h t)
def soundB (c : List Int) : Bool := soundFrom 0 c && (decide (1 ≤ c.length) && decide (c.length ≤ 4096))
/-- What solve.right answers. -/
def rightE (total : Int) (least : List Int) (curves : List (List Int)) : Int × Int :=
  if total < 0 ∨ total > 512 ∨ curves.length = 0 ∨ curves.length > 16 ∨ least.length ≠ curves.length then (0, 1)
  else if least.any (fun n => decide (n < 0) || decide (n > total)) then (0, 1)
  else if curves.any (fun c => !soundB c) then (0, 2)
  else if total - least.sum < 0 then (0, 6)
  else (total - least.sum, 0)

/-- One try: so many more slots for this one, of k. -/
def bestStep (l : Int) (c : List Int) (rest : List (Int × Int)) (k : Nat) (st : Int × Int) (more : Nat) : Int × Int :=
  if 0 ≤ (rest.getD (k - more) (0, 0)).1 ∧ st.1 < (rest.getD (k - more) (0, 0)).1 + at_ c (l + more) then ((rest.getD (k - more) (0, 0)).1 + at_ c (l + more), (more : Int)) else st
/-- After j tries: with k slots, k - 1, .. -/
def bestN (l : Int) (c : List Int) (rest : List (Int × Int)) (k : Nat) : Nat → Int × Int
  | 0 => (-1, 0)
  | j + 1 => bestStep l c rest k (bestN l c rest k j) (k - j)
def bestRow (l : Int) (c : List Int) (rest : List (Int × Int)) (n : Nat) : List (Int × Int) := (List.range (n + 1)).map fun k => bestN l c rest k (k + 1)
def baseRow (n : Nat) : List (Int × Int) := (List.range (n + 1)).map fun k => if k = 0 then (0, 0) else (-1, 0)
/-- The rows of the curves, the last one that of none. -/
def tab : List Int → List (List Int) → Nat → List (List (Int × Int))
  | l :: ls, c :: cs, n => bestRow l c ((tab ls cs n).headD []) n :: tab ls cs n
  | _, _, n => [baseRow n]
def follow : List Int → List (List (Int × Int)) → Nat → List Int
  | l :: ls, row :: rows, k => (l + (row.getD k (0, 0)).2) :: follow ls rows (k - (row.getD k (0, 0)).2.toNat)
  | _, _, _ => []
/-- What solve.Best answers. -/
def best (total : Int) (least : List Int) (curves : List (List Int)) : List Int × Int × Int :=
  if (rightE total least curves).2 = 0 then
    (follow least (tab least curves (rightE total least curves).1.toNat) (rightE total least curves).1.toNat, (((tab least curves (rightE total least curves).1.toNat).headD []).getD (rightE total least curves).1.toNat (0, 0)).1, 0)
  else ([], 0, (rightE total least curves).2)

example : best 3 [0, 0] [[0, 5, 6], [0, 4, 8]] = ([1, 2], 13, 0) := by decide +kernel

theorem baseRow_length (n : Nat) : (baseRow n).length = n + 1 := by simp [baseRow]
theorem bestRow_length (l : Int) (c : List Int) (rest : List (Int × Int)) (n : Nat) : (bestRow l c rest n).length = n + 1 := by simp [bestRow]
theorem at_bounds {c : List Int} (hc : soundB c = true) (s : Int) : 0 ≤ at_ c s ∧ at_ c s ≤ 4503599627370496 := by
  have key : ∀ (c : List Int) (last : Int), 0 ≤ last → soundFrom last c = true → ∀ i : Nat, 0 ≤ c.getD i 0 ∧ c.getD i 0 ≤ 4503599627370496 := by
    intro c
    induction c with
    | nil => intro last _ _ i; simp
    | cons h t ih =>
      intro last h0 h1 i
      simp only [soundFrom, Bool.and_eq_true, decide_eq_true_eq] at h1
      cases i with
      | zero => simp only [List.getD_cons_zero]; omega
      | succ i => simp only [List.getD_cons_succ]; exact ih h (by omega) h1.2.2 i
  unfold soundB at hc
  simp only [Bool.and_eq_true] at hc
  unfold at_
  split
  · omega
  · split
    · omega
    · exact key c 0 (by omega) hc.1 _

/-- Row j of the table. -/
def tabAt (l1 : List Int) (l2 : List (List Int)) (n j : Nat) : List (Int × Int) := (tab l1 l2 n).getD j []
theorem tabAt_zero (l1 : List Int) (l2 : List (List Int)) (n : Nat) : (tab l1 l2 n).headD [] = tabAt l1 l2 n 0 := by
  unfold tabAt; cases tab l1 l2 n <;> rfl
theorem tabAt_last : ∀ (l1 : List Int) (l2 : List (List Int)) (n : Nat), l1.length = l2.length → tabAt l1 l2 n l2.length = baseRow n
  | [], [], n, _ => rfl
  | l :: ls, c :: cs, n, h => by
    have := tabAt_last ls cs n (by simpa using h)
    unfold tabAt at *
    simpa [tab] using this
theorem tabAt_step : ∀ (l1 : List Int) (l2 : List (List Int)) (n j : Nat), l1.length = l2.length → j < l2.length → tabAt l1 l2 n j = bestRow (l1.getD j 0) (l2.getD j []) (tabAt l1 l2 n (j + 1)) n
  | [], [], n, j, _, h => by simp at h
  | l :: ls, c :: cs, n, 0, h, h0 => by
    unfold tabAt
    simp only [tab, List.getD_cons_zero, List.getD_cons_succ]
    congr 1
    cases tab ls cs n <;> rfl
  | l :: ls, c :: cs, n, j + 1, h, h0 => by
    have := tabAt_step ls cs n j (by simpa using h) (by simpa using h0)
    unfold tabAt at *
    simpa [tab] using this

theorem tabAt_length (l1 : List Int) (l2 : List (List Int)) (n j : Nat) (hl : l1.length = l2.length) (hj : j ≤ l2.length) : (tabAt l1 l2 n j).length = n + 1 := by
  by_cases h : j = l2.length
  · subst h; rw [tabAt_last l1 l2 n hl, baseRow_length]
  · rw [tabAt_step l1 l2 n j hl (by omega), bestRow_length]
/-- From curve j on, with k slots more than the least. -/
def followAt (l1 : List Int) (l2 : List (List Int)) (n j k : Nat) : List Int := follow (l1.drop j) ((tab l1 l2 n).drop j) k
theorem tab_length : ∀ (l1 : List Int) (l2 : List (List Int)) (n : Nat), l1.length = l2.length → (tab l1 l2 n).length = l2.length + 1
  | [], [], n, _ => rfl
  | l :: ls, c :: cs, n, h => by
    have := tab_length ls cs n (by simpa using h)
    simp [tab, this]
theorem follow_end (l1 : List Int) (l2 : List (List Int)) (n k : Nat) (hl : l1.length = l2.length) : followAt l1 l2 n l2.length k = [] := by
  unfold followAt
  rw [← hl, List.drop_length]
  rfl
theorem follow_step (l1 : List Int) (l2 : List (List Int)) (n j k : Nat) (hl : l1.length = l2.length) (hj : j < l2.length) :
    followAt l1 l2 n j k = (l1.getD j 0 + ((tabAt l1 l2 n j).getD k (0, 0)).2) :: followAt l1 l2 n (j + 1) (k - ((tabAt l1 l2 n j).getD k (0, 0)).2.toNat) := by
  have ht := tab_length l1 l2 n hl
  unfold followAt
  rw [List.drop_eq_getElem_cons (by omega), List.drop_eq_getElem_cons (l := tab l1 l2 n) (by omega)]
  have e1 : l1.getD j 0 = l1[j] := by rw [List.getD_eq_getElem?_getD, List.getElem?_eq_getElem (by omega)]; rfl
  have e2 : tabAt l1 l2 n j = (tab l1 l2 n)[j] := by unfold tabAt; rw [List.getD_eq_getElem?_getD, List.getElem?_eq_getElem (by omega)]; rfl
  rw [e1, e2]
  rfl
/-- The bounds of a cell. -/
def Cell (B : Int) (n : Nat) (p : Int × Int) : Prop := -1 ≤ p.1 ∧ p.1 ≤ B ∧ 0 ≤ p.2 ∧ p.2 ≤ n
theorem bestN_cell (l : Int) (c : List Int) (rest : List (Int × Int)) (k n : Nat) (B : Int) (hB : 0 ≤ B) (hk : k ≤ n) (hc : soundB c = true) (hr : ∀ j, Cell B n (rest.getD j (0, 0))) : ∀ j, j ≤ k + 1 → Cell (B + 4503599627370496) n (bestN l c rest k j)
  | 0, _ => ⟨by simp [bestN], by simp [bestN]; omega, by simp [bestN], by simp [bestN]⟩
  | j + 1, h => by
    have ih := bestN_cell l c rest k n B hB hk hc hr j (by omega)
    unfold bestN bestStep
    have hr' := hr (k - (k - j))
    have ha := at_bounds hc (l + ((k - j : Nat) : Int))
    split
    · rename_i hs
      exact ⟨by have := hs.1; dsimp only; omega, by have := hr'.2.1; dsimp only; omega, by dsimp only; omega, by dsimp only; omega⟩
    · exact ih
theorem baseRow_cell (n j : Nat) : Cell 0 n ((baseRow n).getD j (0, 0)) := by
  rw [List.getD_eq_getElem?_getD]
  by_cases h : j < (baseRow n).length
  · rw [List.getElem?_eq_getElem h]
    simp only [baseRow, List.getElem_map, List.getElem_range, Option.getD_some]
    split
    · exact ⟨by decide, by decide, by decide, by dsimp only; omega⟩
    · exact ⟨by decide, by decide, by decide, by dsimp only; omega⟩
  · rw [List.getElem?_eq_none (by omega)]
    exact ⟨by decide, by decide, by decide, by simp⟩
theorem bestRow_cell (l : Int) (c : List Int) (rest : List (Int × Int)) (n : Nat) (B : Int) (hB : 0 ≤ B) (hc : soundB c = true) (hr : ∀ j, Cell B n (rest.getD j (0, 0))) (j : Nat) : Cell (B + 4503599627370496) n ((bestRow l c rest n).getD j (0, 0)) := by
  rw [List.getD_eq_getElem?_getD]
  by_cases h : j < (bestRow l c rest n).length
  · rw [List.getElem?_eq_getElem h]
    simp only [bestRow_length] at h
    simp only [bestRow, List.getElem_map, List.getElem_range, Option.getD_some]
    exact bestN_cell l c rest j n B hB (by omega) hc hr (j + 1) (by omega)
  · rw [List.getElem?_eq_none (by omega)]
    exact ⟨by decide, by simp; omega, by decide, by simp⟩
theorem tabAt_cell (l1 : List Int) (l2 : List (List Int)) (n : Nat) (hl : l1.length = l2.length) (hs : ∀ c ∈ l2, soundB c = true) : ∀ (d j : Nat), j + d = l2.length → ∀ i, Cell (4503599627370496 * d) n ((tabAt l1 l2 n j).getD i (0, 0))
  | 0, j, h, i => by
    obtain rfl : j = l2.length := by omega
    rw [tabAt_last l1 l2 n hl]
    exact baseRow_cell n i
  | d + 1, j, h, i => by
    rw [tabAt_step l1 l2 n j hl (by omega)]
    have ih := tabAt_cell l1 l2 n hl hs d (j + 1) (by omega)
    have hm : l2.getD j [] ∈ l2 := by
      rw [List.getD_eq_getElem?_getD, List.getElem?_eq_getElem (by omega)]
      exact List.getElem_mem _
    have := bestRow_cell (l1.getD j 0) (l2.getD j []) (tabAt l1 l2 n (j + 1)) n _ (by omega) (hs _ hm) ih i
    rw [show (4503599627370496 : Int) * ((d + 1 : Nat) : Int) = 4503599627370496 * (d : Int) + 4503599627370496 by omega]
    exact this

theorem bestN_snd (l : Int) (c : List Int) (rest : List (Int × Int)) (k : Nat) : ∀ j, (bestN l c rest k j).2 ≤ k
  | 0 => by simp [bestN]
  | j + 1 => by
    have ih := bestN_snd l c rest k j
    unfold bestN bestStep
    split
    · dsimp only; omega
    · exact ih
theorem tabAt_snd (l1 : List Int) (l2 : List (List Int)) (n j k : Nat) (hl : l1.length = l2.length) (hj : j < l2.length) (hk : k ≤ n) : ((tabAt l1 l2 n j).getD k (0, 0)).2 ≤ k := by
  rw [tabAt_step l1 l2 n j hl hj, List.getD_eq_getElem?_getD, List.getElem?_eq_getElem (by rw [bestRow_length]; omega)]
  simp only [bestRow, List.getElem_map, List.getElem_range, Option.getD_some]
  exact bestN_snd _ _ _ k (k + 1)

end Go.Proofs.Ytmkeffpgofjlnaa.SD
