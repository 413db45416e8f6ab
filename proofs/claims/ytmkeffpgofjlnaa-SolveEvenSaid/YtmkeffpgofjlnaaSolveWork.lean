/- The two tables in memory, whole from a row on, and with one row in work. -/
import Derived.Test.YtmkeffpgofjlnaaSolveMem
namespace Go.Proofs.Ytmkeffpgofjlnaa.SM
open Go.RowKit Go.Proofs.YtmkeffpgofjlnaaW.PrintWords Go.Proofs.YtmkeffpgofjlnaaW.PrintLast Go.Proofs.YtmkeffpgofjlnaaW.PrintMore

/-- A row (block b) of this table, apart from the tables' own blocks. -/
def Row (w : World) (gm gf lo n : Nat) (M : Array Value) (j b : Nat) (xs : List Int) : Prop :=
  M[j]? = some (.slice (some ⟨b, 0, none⟩) (n + 1) (n + 1)) ∧ b ≠ gm ∧ b ≠ gf ∧ lo ≤ b ∧ Holds w b 3 (ints xs)
/-- From row ii on both tables are done. -/
def Tabs (w : World) (gm gf lo n m : Nat) (T : Nat → List (Int × Int)) (ii : Nat) : Prop :=
  gm ≠ gf ∧ lo ≤ gm ∧ lo ≤ gf ∧ ∃ (MV FV : Array Value), Holds w gm 22 MV ∧ Holds w gf 22 FV ∧ MV.size = m + 1 ∧ FV.size = m ∧
  (∀ j, ii ≤ j → j ≤ m → ∃ b, Row w gm gf lo n MV j b ((T j).map (·.1))) ∧
  (∀ j, ii ≤ j → j < m → ∃ b, Row w gm gf lo n FV j b ((T j).map (·.2)))
/-- Behind row i both are done; row i is in work. -/
def Work (w : World) (gm gf lo n m : Nat) (T : Nat → List (Int × Int)) (i b0 c0 : Nat) (xs ys : List Int) : Prop :=
  gm ≠ gf ∧ lo ≤ gm ∧ lo ≤ gf ∧ b0 ≠ c0 ∧ ∃ (MV FV : Array Value), Holds w gm 22 MV ∧ Holds w gf 22 FV ∧ MV.size = m + 1 ∧ FV.size = m ∧
  Row w gm gf lo n MV i b0 xs ∧ Row w gm gf lo n FV i c0 ys ∧
  (∀ j, i < j → j ≤ m → ∃ b, Row w gm gf lo n MV j b ((T j).map (·.1)) ∧ b ≠ b0 ∧ b ≠ c0) ∧
  (∀ j, i < j → j < m → ∃ b, Row w gm gf lo n FV j b ((T j).map (·.2)) ∧ b ≠ b0 ∧ b ≠ c0)

variable {w : World} {gm gf lo n m : Nat} {T : Nat → List (Int × Int)} {i b0 c0 : Nat} {xs ys : List Int}
theorem Row.far {M : Array Value} {j b : Nat} (h : Row w gm gf lo n M j b xs) {p : Addr} (hp : b ≠ p.block) (u : Value) : Row (w.setCell p u) gm gf lo n M j b xs :=
  ⟨h.1, h.2.1, h.2.2.1, h.2.2.2.1, h.2.2.2.2.far hp u⟩
theorem Row.drewN {M : Array Value} {j b : Nat} (h : Row w gm gf lo n M j b xs) (k : Nat) : Row (w.drewN k) gm gf lo n M j b xs := h
theorem Row.alloc {M : Array Value} {j b : Nat} (h : Row w gm gf lo n M j b xs) (o : Obj) : Row (w.alloc o) gm gf lo n M j b xs :=
  ⟨h.1, h.2.1, h.2.2.1, h.2.2.2.1, h.2.2.2.2.alloc o⟩
theorem Row.below {M : Array Value} {j b : Nat} {w1 : World} (h : Row w gm gf lo n M j b xs) (hb : Below w.heap.size w w1) : Row w1 gm gf lo n M j b xs :=
  ⟨h.1, h.2.1, h.2.2.1, h.2.2.2.1, h.2.2.2.2.below hb h.2.2.2.2.lt⟩
theorem Work.below {w1 : World} (h : Work w gm gf lo n m T i b0 c0 xs ys) (hb : Below w.heap.size w w1) : Work w1 gm gf lo n m T i b0 c0 xs ys := by
  obtain ⟨h1, h2, h3, h4, MV, FV, h5, h6, h7, h8, h9, h10, h11, h12⟩ := h
  exact ⟨h1, h2, h3, h4, MV, FV, h5.below hb h5.lt, h6.below hb h6.lt, h7, h8, h9.below hb, h10.below hb,
    fun j a b => let ⟨x, y, z⟩ := h11 j a b; ⟨x, y.below hb, z⟩, fun j a b => let ⟨x, y, z⟩ := h12 j a b; ⟨x, y.below hb, z⟩⟩
theorem Tabs.below {w1 : World} {ii : Nat} (h : Tabs w gm gf lo n m T ii) (hb : Below w.heap.size w w1) : Tabs w1 gm gf lo n m T ii := by
  obtain ⟨h1, h2, h3, MV, FV, h5, h6, h7, h8, h11, h12⟩ := h
  exact ⟨h1, h2, h3, MV, FV, h5.below hb h5.lt, h6.below hb h6.lt, h7, h8,
    fun j a b => let ⟨x, y⟩ := h11 j a b; ⟨x, y.below hb⟩, fun j a b => let ⟨x, y⟩ := h12 j a b; ⟨x, y.below hb⟩⟩
theorem Work.setM (h : Work w gm gf lo n m T i b0 c0 xs ys) (k : Nat) (x : Int) : Work (w.setCell ⟨b0, k, none⟩ (.int .i64 x)) gm gf lo n m T i b0 c0 (xs.set k x) ys := by
  obtain ⟨h1, h2, h3, h4, MV, FV, h5, h6, h7, h8, h9, h10, h11, h12⟩ := h
  refine ⟨h1, h2, h3, h4, MV, FV, h5.far (Ne.symm h9.2.1) _, h6.far (Ne.symm h9.2.2.1) _, h7, h8, ⟨h9.1, h9.2.1, h9.2.2.1, h9.2.2.2.1, ?_⟩, h10.far (Ne.symm h4) _,
    fun j a b => let ⟨x, y, z⟩ := h11 j a b; ⟨x, y.far z.1 _, z⟩, fun j a b => let ⟨x, y, z⟩ := h12 j a b; ⟨x, y.far z.1 _, z⟩⟩
  rw [← ints_set]
  exact h9.2.2.2.2.set k _
theorem Work.setF (h : Work w gm gf lo n m T i b0 c0 xs ys) (k : Nat) (x : Int) : Work (w.setCell ⟨c0, k, none⟩ (.int .i64 x)) gm gf lo n m T i b0 c0 xs (ys.set k x) := by
  obtain ⟨h1, h2, h3, h4, MV, FV, h5, h6, h7, h8, h9, h10, h11, h12⟩ := h
  refine ⟨h1, h2, h3, h4, MV, FV, h5.far (Ne.symm h10.2.1) _, h6.far (Ne.symm h10.2.2.1) _, h7, h8, h9.far h4 _, ⟨h10.1, h10.2.1, h10.2.2.1, h10.2.2.2.1, ?_⟩,
    fun j a b => let ⟨x, y, z⟩ := h11 j a b; ⟨x, y.far z.2 _, z⟩, fun j a b => let ⟨x, y, z⟩ := h12 j a b; ⟨x, y.far z.2 _, z⟩⟩
  rw [← ints_set]
  exact h10.2.2.2.2.set k _
theorem Work.done (h : Work w gm gf lo n m T i b0 c0 ((T i).map (·.1)) ((T i).map (·.2))) : Tabs w gm gf lo n m T i := by
  obtain ⟨h1, h2, h3, h4, MV, FV, h5, h6, h7, h8, h9, h10, h11, h12⟩ := h
  refine ⟨h1, h2, h3, MV, FV, h5, h6, h7, h8, fun j a b => ?_, fun j a b => ?_⟩
  · rcases Nat.lt_or_ge i j with h | h
    · obtain ⟨x, y, _⟩ := h11 j h b; exact ⟨x, y⟩
    · obtain rfl : i = j := by omega
      exact ⟨b0, h9⟩
  · rcases Nat.lt_or_ge i j with h | h
    · obtain ⟨x, y, _⟩ := h12 j h b; exact ⟨x, y⟩
    · obtain rfl : i = j := by omega
      exact ⟨c0, h10⟩
/-- The first row laid: that of no curve. -/
theorem Tabs.start {MV FV : Array Value} {b : Nat} (h1 : gm ≠ gf) (h2 : lo ≤ gm) (h3 : lo ≤ gf) (H1 : Holds w gm 22 MV) (H2 : Holds w gf 22 FV) (s1 : MV.size = m + 1) (s2 : FV.size = m) (h : Row w gm gf lo n MV m b ((T m).map (·.1))) : Tabs w gm gf lo n m T m := by
  refine ⟨h1, h2, h3, MV, FV, H1, H2, s1, s2, ?_, ?_⟩
  · intro j ha hc
    have e : j = m := by omega
    subst e
    exact ⟨b, h⟩
  · intro j ha hc
    exact absurd hc (by omega)
theorem put_self {M : Array Value} {i : Nat} (h : i < M.size) (u : Value) : (M.setIfInBounds i u)[i]? = some u := by
  rw [Array.getElem?_setIfInBounds_self_of_lt h]
theorem Row.put {M : Array Value} {j b : Nat} (h : Row w gm gf lo n M j b xs) (i : Nat) (u : Value) (hij : i ≠ j) : Row w gm gf lo n (M.setIfInBounds i u) j b xs :=
  ⟨by rw [Array.getElem?_setIfInBounds_ne hij]; exact h.1, h.2⟩
/-- Two rows made (in whatever order) and laid into the tables: the next row is in work. -/
theorem Tabs.next (h : Tabs w gm gf lo n m T (i + 1)) (hi : i < m) (_hlo : lo ≤ w.heap.size) (w' : World) (b0 c0 : Nat) (z : Array Value) (zs : List Int) (hz : ints zs = z) (hb : w.heap.size ≤ b0) (hc : w.heap.size ≤ c0) (hbc : b0 ≠ c0)
    (hkeep : ∀ g, g < w.heap.size → g ≠ gm → g ≠ gf → w'.heap[g]? = w.heap[g]?)
    (hm : ∀ MV, Holds w gm 22 MV → Holds w' gm 22 (MV.setIfInBounds i (.slice (some ⟨b0, 0, none⟩) (n + 1) (n + 1))))
    (hf : ∀ FV, Holds w gf 22 FV → Holds w' gf 22 (FV.setIfInBounds i (.slice (some ⟨c0, 0, none⟩) (n + 1) (n + 1))))
    (hb' : Holds w' b0 3 z) (hc' : Holds w' c0 3 z) : Work w' gm gf lo n m T i b0 c0 zs zs := by
  obtain ⟨h1, h2, h3, MV, FV, h5, h6, h7, h8, h11, h12⟩ := h
  subst hz
  have g1 := h5.lt
  have g2 := h6.lt
  refine ⟨h1, h2, h3, hbc, _, _, hm MV h5, hf FV h6, by rw [Array.size_setIfInBounds]; exact h7, by rw [Array.size_setIfInBounds]; exact h8, ⟨put_self (by omega) _, by omega, by omega, by omega, hb'⟩, ⟨put_self (by omega) _, by omega, by omega, by omega, hc'⟩, fun j a b => ?_, fun j a b => ?_⟩
  · obtain ⟨x, y⟩ := h11 j (by omega) b
    have hx := y.2.2.2.2.lt
    refine ⟨x, ?_, by omega, by omega⟩
    have y' := y.put i (.slice (some ⟨b0, 0, none⟩) (n + 1) (n + 1)) (by omega)
    exact ⟨y'.1, y'.2.1, y'.2.2.1, y'.2.2.2.1, by unfold Holds; rw [hkeep x hx y.2.1 y.2.2.1]; exact y.2.2.2.2⟩
  · obtain ⟨x, y⟩ := h12 j (by omega) b
    have hx := y.2.2.2.2.lt
    refine ⟨x, ?_, by omega, by omega⟩
    have y' := y.put i (.slice (some ⟨c0, 0, none⟩) (n + 1) (n + 1)) (by omega)
    exact ⟨y'.1, y'.2.1, y'.2.2.1, y'.2.2.2.1, by unfold Holds; rw [hkeep x hx y.2.1 y.2.2.1]; exact y.2.2.2.2⟩

theorem Tabs.next2 (h : Tabs w gm gf lo n m T (i + 1)) (hi : i < m) (hlo : lo ≤ w.heap.size) (b0 c0 : Nat) (zs : List Int) (hz : ints zs = madeCells #[.int .i64 0] (n + 1)) (hbc : (b0 = w.heap.size ∧ c0 = w.heap.size + 1) ∨ (b0 = w.heap.size + 1 ∧ c0 = w.heap.size)) :
    Work ((((w.setCell ⟨gm, i, none⟩ (.slice (some ⟨b0, 0, none⟩) (n + 1) (n + 1))).setCell ⟨gf, i, none⟩ (.slice (some ⟨c0, 0, none⟩) (n + 1) (n + 1))).alloc (.cells (madeCells #[.int .i64 0] (n + 1)) 3)).alloc (.cells (madeCells #[.int .i64 0] (n + 1)) 3)).drew gm gf lo n m T i b0 c0 zs zs := by
  have hsz : ((w.setCell ⟨gm, i, none⟩ (.slice (some ⟨b0, 0, none⟩) (n + 1) (n + 1))).setCell ⟨gf, i, none⟩ (.slice (some ⟨c0, 0, none⟩) (n + 1) (n + 1))).heap.size = w.heap.size := by rw [size_set, size_set]
  have hn := two_new ((w.setCell ⟨gm, i, none⟩ (.slice (some ⟨b0, 0, none⟩) (n + 1) (n + 1))).setCell ⟨gf, i, none⟩ (.slice (some ⟨c0, 0, none⟩) (n + 1) (n + 1))) 3 (madeCells #[.int .i64 0] (n + 1)) (madeCells #[.int .i64 0] (n + 1))
  rw [hsz] at hn
  have hne := h.1
  refine h.next hi hlo _ b0 c0 _ zs hz (by omega) (by omega) (by omega) ?_ ?_ ?_ ?_ ?_
  · intro g hg h1 h2
    show ((((w.setCell _ _).setCell _ _).heap.push _).push _)[g]? = _
    rw [Array.getElem?_push_lt (by rw [Array.size_push, hsz]; omega), Array.getElem_push_lt (by rw [hsz]; omega), ← Array.getElem?_eq_getElem (by rw [hsz]; omega)]
    rw [Below.heap_setCell _ _ _ _ h2, Below.heap_setCell _ _ _ _ h1]
  · intro MV hM
    exact ((((hM.set i _).far (p := ⟨gf, i, none⟩) hne _).alloc _).alloc _).drew
  · intro FV hF
    exact ((((hF.far (p := ⟨gm, i, none⟩) (Ne.symm hne) _).set i _).alloc _).alloc _).drew
  · rcases hbc with ⟨e, _⟩ | ⟨e, _⟩
    · subst e; exact hn.1
    · subst e; exact hn.2
  · rcases hbc with ⟨_, e⟩ | ⟨_, e⟩
    · subst e; exact hn.2
    · subst e; exact hn.1
theorem lineTo_set0 (f : Nat → Int) (k n : Nat) : (lineTo f k n).set k 0 = lineTo f k n := by
  apply List.ext_getElem
  · simp
  · intro j h1 h2
    rw [List.getElem_set]
    by_cases h : k = j
    · subst h; simp [lineTo]
    · rw [if_neg h]

/-- What a round of the inmost loop reads and writes. -/
theorem Work.look (h : Work w gm gf lo n m T i b0 c0 xs ys) (hi : i < m) (hT : (T (i + 1)).length = n + 1) : ∃ b1,
    w.cell? ⟨gm, i, none⟩ = some (.slice (some ⟨b0, 0, none⟩) (n + 1) (n + 1)) ∧ w.cell? ⟨gf, i, none⟩ = some (.slice (some ⟨c0, 0, none⟩) (n + 1) (n + 1)) ∧
    w.cell? ⟨gm, i + 1, none⟩ = some (.slice (some ⟨b1, 0, none⟩) (n + 1) (n + 1)) ∧
    (∀ q, q ≤ n → w.cell? ⟨b1, q, none⟩ = some (.int .i64 ((T (i + 1)).getD q (0, 0)).1)) ∧
    (∀ j, j < xs.length → w.cell? ⟨b0, j, none⟩ = some (.int .i64 (xs.getD j 0)) ∧ w.frozen? ⟨b0, j, none⟩ = false) ∧
    (∀ j, j < ys.length → w.cell? ⟨c0, j, none⟩ = some (.int .i64 (ys.getD j 0)) ∧ w.frozen? ⟨c0, j, none⟩ = false) ∧ b0 ≠ c0 ∧ lo ≤ b0 ∧ lo ≤ c0 := by
  obtain ⟨h1, h2, h3, h4, MV, FV, h5, h6, h7, h8, h9, h10, h11, h12⟩ := h
  obtain ⟨b1, hr, _⟩ := h11 (i + 1) (by omega) (by omega)
  refine ⟨b1, h5.cell h9.1, h6.cell h10.1, h5.cell hr.1, fun q hq => ?_, fun j hj => ⟨h9.2.2.2.2.cell (ints_get _ _ hj), h9.2.2.2.2.frozen j⟩, fun j hj => ⟨h10.2.2.2.2.cell (ints_get _ _ hj), h10.2.2.2.2.frozen j⟩, h4, h9.2.2.2.1, h10.2.2.2.1⟩
  have := hr.2.2.2.2.cell (ints_get ((T (i + 1)).map (·.1)) q (by rw [List.length_map]; omega))
  rw [this]
  congr 2
  rw [List.getD_eq_getElem?_getD, List.getD_eq_getElem?_getD, List.getElem?_map]
  cases (T (i + 1))[q]? <;> rfl

theorem Tabs.lookF {ii j : Nat} (h : Tabs w gm gf lo n m T ii) (hj : ii ≤ j) (hm : j < m) (hT : (T j).length = n + 1) : ∃ b,
    w.cell? ⟨gf, j, none⟩ = some (.slice (some ⟨b, 0, none⟩) (n + 1) (n + 1)) ∧ ∀ q, q ≤ n → w.cell? ⟨b, q, none⟩ = some (.int .i64 ((T j).getD q (0, 0)).2) := by
  obtain ⟨_, _, _, MV, FV, h5, h6, h7, h8, h11, h12⟩ := h
  obtain ⟨b, hr⟩ := h12 j hj hm
  refine ⟨b, h6.cell hr.1, fun q hq => ?_⟩
  have := hr.2.2.2.2.cell (ints_get ((T j).map (·.2)) q (by rw [List.length_map]; omega))
  rw [this]
  congr 2
  rw [List.getD_eq_getElem?_getD, List.getD_eq_getElem?_getD, List.getElem?_map]
  cases (T j)[q]? <;> rfl
theorem Tabs.lookM {ii j : Nat} (h : Tabs w gm gf lo n m T ii) (hj : ii ≤ j) (hm : j ≤ m) (hT : (T j).length = n + 1) : ∃ b,
    w.cell? ⟨gm, j, none⟩ = some (.slice (some ⟨b, 0, none⟩) (n + 1) (n + 1)) ∧ ∀ q, q ≤ n → w.cell? ⟨b, q, none⟩ = some (.int .i64 ((T j).getD q (0, 0)).1) := by
  obtain ⟨_, _, _, MV, FV, h5, h6, h7, h8, h11, h12⟩ := h
  obtain ⟨b, hr⟩ := h11 j hj hm
  refine ⟨b, h5.cell hr.1, fun q hq => ?_⟩
  have := hr.2.2.2.2.cell (ints_get ((T j).map (·.1)) q (by rw [List.length_map]; omega))
  rw [this]
  congr 2
  rw [List.getD_eq_getElem?_getD, List.getD_eq_getElem?_getD, List.getElem?_map]
  cases (T j)[q]? <;> rfl

end Go.Proofs.Ytmkeffpgofjlnaa.SM
