/- Blocks of the call's own in memory: what one holds, and that it stays. -/
import Derived.Test.YtmkeffpgofjlnaaQ0
import Derived.Test.YtmkeffpgofjlnaaSolveDefs
import Derived.Below
import Derived.Deep.OwnRows
namespace Go.Proofs.Ytmkeffpgofjlnaa.SM
open Go.RowKit Go.Proofs.YtmkeffpgofjlnaaW.PrintWords Go.Proofs.YtmkeffpgofjlnaaW.PrintLast Go.Proofs.YtmkeffpgofjlnaaW.PrintMore

/-- Block g holds these cells (of type t), and is not frozen. -/
def Holds (w : World) (g : Nat) (t : TypeId) (c : Array Value) : Prop := w.heap[g]? = some (.cells c t (0, 0))
/-- Numbers as cells. -/
def ints (l : List Int) : Array Value := (l.map (Value.int .i64)).toArray
theorem ints_get (l : List Int) (j : Nat) (h : j < l.length) : (ints l)[j]? = some (.int .i64 (l.getD j 0)) := by
  simp [ints, List.getElem?_eq_getElem h]
theorem ints_size (l : List Int) : (ints l).size = l.length := by simp [ints]
theorem ints_set (l : List Int) (j : Nat) (x : Int) : (ints l).setIfInBounds j (.int .i64 x) = ints (l.set j x) := by
  simp [ints, List.map_set]

variable {w w1 : World} {g : Nat} {t : TypeId} {c : Array Value}
theorem Holds.cell (h : Holds w g t c) {j : Nat} {v : Value} (hj : c[j]? = some v) : w.cell? ⟨g, j, none⟩ = some v := by
  unfold World.cell?
  rw [show w.heap[g]? = some (.cells c t (0, 0)) from h]
  exact hj
theorem Holds.lt (h : Holds w g t c) : g < w.heap.size := (Array.getElem?_eq_some_iff.1 h).1
theorem Holds.frozen (h : Holds w g t c) (j : Nat) : w.frozen? ⟨g, j, none⟩ = false := by
  unfold World.frozen?
  rw [show w.heap[g]? = some (.cells c t (0, 0)) from h]
  simp
theorem Holds.far (h : Holds w g t c) {p : Addr} (hp : g ≠ p.block) (u : Value) : Holds (w.setCell p u) g t c := by
  unfold Holds; rw [Below.heap_setCell w p u g hp]; exact h
theorem Holds.set (h : Holds w g t c) (j : Nat) (u : Value) : Holds (w.setCell ⟨g, j, none⟩ u) g t (c.setIfInBounds j u) := by
  unfold Holds at *
  simp only [World.setCell, Array.getElem?_modify, h, if_true, Option.map_some]
  first | rfl | simp
theorem Holds.alloc (h : Holds w g t c) (o : Obj) : Holds (w.alloc o) g t c := by
  have hl := h.lt
  unfold Holds at *
  show (w.heap.push o)[g]? = _
  rw [Array.getElem?_push_lt hl]
  rw [Array.getElem?_eq_getElem hl] at h
  exact h
theorem Holds.new (w : World) (t : TypeId) (c : Array Value) : Holds (w.alloc (.cells c t)) w.heap.size t c := by
  show (w.heap.push (.cells c t))[w.heap.size]? = _
  rw [Array.getElem?_push_size]
theorem size_set (w : World) (p : Addr) (u : Value) : (w.setCell p u).heap.size = w.heap.size := by simp [World.setCell]
/-- A block that is made where the store that follows it has been told ahead of it. -/
theorem Holds.new' (w : World) (t : TypeId) (c : Array Value) (p : Addr) (u : Value) : Holds ((w.setCell p u).alloc (.cells c t)) w.heap.size t c := by
  have := Holds.new (w.setCell p u) t c
  rwa [size_set] at this
theorem Holds.drewN (h : Holds w g t c) (n : Nat) : Holds (w.drewN n) g t c := h
theorem Holds.below (h : Holds w g t c) {B : Nat} (hb : Below B w w1) (hg : g < B) : Holds w1 g t c := by
  unfold Holds; rw [hb.block g hg]; exact h

theorem Holds.drew (h : Holds w g t c) : Holds w.drew g t c := h
theorem two_new (w : World) (t : TypeId) (a b : Array Value) : Holds ((w.alloc (.cells a t)).alloc (.cells b t)).drew w.heap.size t a ∧ Holds ((w.alloc (.cells a t)).alloc (.cells b t)).drew (w.heap.size + 1) t b := by
  refine ⟨((Holds.new w t a).alloc _).drew, ?_⟩
  have := Holds.new (w.alloc (.cells a t)) t b
  have e : (w.alloc (.cells a t)).heap.size = w.heap.size + 1 := by show (w.heap.push _).size = _; rw [Array.size_push]
  rw [e] at this
  exact this.drew
theorem two_below {w0 w : World} (h : Below w0.heap.size w0 w) (x y : Obj) : Below w0.heap.size w0 ((w.alloc x).alloc y).drew := below_drew1 (below_alloc (below_alloc h x) y)

/-- A line of numbers, filled in from the left. -/
def lineTo (f : Nat → Int) (k n : Nat) : List Int := (List.range (n + 1)).map fun j => if j < k then f j else 0
theorem lineTo_length (f : Nat → Int) (k n : Nat) : (lineTo f k n).length = n + 1 := by simp [lineTo]
theorem lineTo_set (f : Nat → Int) (k n : Nat) : (lineTo f k n).set k (f k) = lineTo f (k + 1) n := by
  apply List.ext_getElem
  · simp [lineTo]
  · intro j h1 h2
    simp only [List.length_set, lineTo_length] at h1
    rw [List.getElem_set]
    by_cases h : k = j
    · subst h; simp [lineTo]
    · rw [if_neg h]
      simp only [lineTo, List.getElem_map, List.getElem_range]
      by_cases h3 : j < k
      · rw [if_pos h3, if_pos (by omega)]
      · rw [if_neg h3, if_neg (by omega)]
theorem lineTo_zero (f : Nat → Int) (n : Nat) : ints (lineTo f 0 n) = madeCells #[.int .i64 0] (n + 1) := by
  apply Array.ext
  · simp [ints, lineTo, madeCells]
  · intro j h1 h2
    simp [ints, lineTo, madeCells, Nat.mod_one]
theorem lineTo_one (f : Nat → Int) (n : Nat) (h : f 0 = 0) : lineTo f 1 n = lineTo f 0 n := by
  apply List.ext_getElem
  · simp [lineTo]
  · intro j h1 h2
    simp only [lineTo, List.getElem_map, List.getElem_range]
    by_cases h3 : j < 1
    · rw [if_pos h3, if_neg (by omega), show j = 0 by omega, h]
    · rw [if_neg h3, if_neg (by omega)]
theorem lineTo_all (f : Nat → Int) (n : Nat) : lineTo f (n + 1) n = (List.range (n + 1)).map f := by
  apply List.ext_getElem
  · simp [lineTo]
  · intro j h1 h2
    simp only [lineTo_length] at h1
    simp only [lineTo, List.getElem_map, List.getElem_range]
    rw [if_pos h1]
theorem lineTo_get (f : Nat → Int) (k n j : Nat) (h : j ≤ n) : (lineTo f k n).getD j 0 = if j < k then f j else 0 := by
  rw [List.getD_eq_getElem?_getD, List.getElem?_eq_getElem (by rw [lineTo_length]; omega)]
  simp [lineTo]

/-- Blocks as they were, but these two. -/
def Same (w w1 : World) (a b : Nat) : Prop := w1.heap.size = w.heap.size ∧ ∀ g, g ≠ a → g ≠ b → w1.heap[g]? = w.heap[g]?
theorem Same.refl (w : World) (a b : Nat) : Same w w a b := ⟨rfl, fun _ _ _ => rfl⟩
theorem Same.holds {a b : Nat} (hs : Same w w1 a b) (h : Holds w g t c) (ha : g ≠ a) (hb : g ≠ b) : Holds w1 g t c := by
  unfold Holds; rw [hs.2 g ha hb]; exact h
theorem Same.drewN {a b : Nat} (hs : Same w w1 a b) (n : Nat) : Same w (w1.drewN n) a b := hs
theorem Same.setA {a b : Nat} (hs : Same w w1 a b) (j : Nat) (u : Value) : Same w (w1.setCell ⟨a, j, none⟩ u) a b :=
  ⟨by rw [← hs.1]; simp [World.setCell], fun g ha hb => by rw [Below.heap_setCell _ _ _ _ ha]; exact hs.2 g ha hb⟩
theorem Same.setB {a b : Nat} (hs : Same w w1 a b) (j : Nat) (u : Value) : Same w (w1.setCell ⟨b, j, none⟩ u) a b :=
  ⟨by rw [← hs.1]; simp [World.setCell], fun g ha hb => by rw [Below.heap_setCell _ _ _ _ hb]; exact hs.2 g ha hb⟩
theorem Same.trans {a b : Nat} {w2 : World} (h1 : Same w w1 a b) (h2 : Same w1 w2 a b) : Same w w2 a b :=
  ⟨h2.1.trans h1.1, fun g ha hb => (h2.2 g ha hb).trans (h1.2 g ha hb)⟩

/-! ### A block of the call's own, as a row that is read -/
theorem C_ints {w : World} {g : Nat} {t : TypeId} {l : List Int} (hm : l.length ≤ 9223372036854775807) (h : Holds w g t (ints l)) : Kd.C (Kd.int .i64) w (some ⟨g, 0, none⟩) l.length l := by
  refine ⟨rfl, hm, fun _ => ⟨_, rfl, fun j p hj => ⟨[.int .i64 p], rfl, rfl, fun i u hu => ?_⟩⟩⟩
  obtain ⟨hl, hp⟩ := List.getElem?_eq_some_iff.1 hj
  have hi : i = 0 := by
    rcases i with _ | i
    · rfl
    · simp at hu
  subst hi
  have hu' : u = .int .i64 p := by simpa using hu.symm
  rw [hu', show ((Kd.int .i64).sz) = 1 from rfl, Nat.mul_one, Nat.add_zero]
  have e : (⟨g, 0, none⟩ : Addr).add j = ⟨g, j, none⟩ := by unfold Addr.add; split <;> simp_all
  rw [e, h.cell (ints_get l j hl), List.getD_eq_getElem?_getD, hj]
  rfl
/-- A slice value that reads as these numbers. -/
def RowV (w : World) (v : Value) (xs : List Int) : Prop := ∃ A c, v = .slice A xs.length c ∧ xs.length ≤ c ∧ Kd.C (Kd.int .i64) w A xs.length xs
theorem RowV.below {w w1 : World} {v : Value} {xs : List Int} (h : RowV w v xs) (hb : Below w.heap.size w w1) : RowV w1 v xs := by
  obtain ⟨A, c, e, h1, h2⟩ := h
  exact ⟨A, c, e, h1, Kd.C_below h2 hb⟩
theorem C_rows {w : World} {g : Nat} {t : TypeId} {vs : List Value} {ls : List (List Int)} (hm : ls.length ≤ 9223372036854775807) (h : Holds w g t vs.toArray) (hl : vs.length = ls.length) (hv : ∀ j, j < ls.length → RowV w (vs.getD j undef) (ls.getD j [])) : Kd.C (Kd.slice 3 (Kd.int .i64)) w (some ⟨g, 0, none⟩) ls.length ls := by
  refine ⟨rfl, hm, fun _ => ⟨_, rfl, fun j p hj => ?_⟩⟩
  obtain ⟨hlt, hp⟩ := List.getElem?_eq_some_iff.1 hj
  obtain ⟨A, c, e1, e2, e3⟩ := hv j hlt
  have ep : ls.getD j [] = p := by rw [List.getD_eq_getElem?_getD, hj]; rfl
  rw [ep] at e1 e2 e3
  refine ⟨[.slice A p.length c], rfl, ⟨A, c, rfl, e2, e3⟩, fun i u hu => ?_⟩
  have hi : i = 0 := by
    rcases i with _ | i
    · rfl
    · simp at hu
  subst hi
  have hu' : u = .slice A p.length c := by simpa using hu.symm
  rw [hu', show ((Kd.slice 3 (Kd.int .i64)).sz) = 1 from rfl, Nat.mul_one, Nat.add_zero]
  have e : (⟨g, 0, none⟩ : Addr).add j = ⟨g, j, none⟩ := by unfold Addr.add; split <;> simp_all
  rw [e]
  refine h.cell ?_
  rw [← e1, List.getElem?_toArray, List.getD_eq_getElem?_getD, List.getElem?_eq_getElem (by omega)]
  rfl

end Go.Proofs.Ytmkeffpgofjlnaa.SM
