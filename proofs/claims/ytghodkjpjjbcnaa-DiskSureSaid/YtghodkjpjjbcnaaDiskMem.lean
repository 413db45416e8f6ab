/- A disk in memory: its struct, its two rows of sectors, its row of writes; and what a call leaves as it was. -/
import Derived.Test.YtghodkjpjjbcnaaQ0
import Derived.Below
import Derived.Lib.Hide
import Derived.Deep.MidRow
import Derived.Deep.AppendLies
namespace Go.Proofs.Ytghodkjpjjbcnaa.DM
open Go.RowKit Go.Proofs.YtghodkjpjjbcnaaW.PrintWords Go.Proofs.YtghodkjpjjbcnaaW.PrintLast Go.Proofs.YtghodkjpjjbcnaaW.PrintMore

/-! ### What a call leaves as it was -/
/-- Blocks below the base, and those of Ex, are as they were. -/
structure Kept (base : Nat) (Ex : Nat → Prop) (w w' : World) : Prop where
  os : w'.os = w.os
  tape : w'.tape = w.tape
  output : w'.output = w.output
  size : w.heap.size ≤ w'.heap.size
  block : ∀ k, k < w.heap.size → (k < base ∨ Ex k) → w'.heap[k]? = w.heap[k]?
variable {base : Nat} {Ex Ex' : Nat → Prop} {w w' w'' : World}
theorem Kept.refl (base : Nat) (Ex : Nat → Prop) (w : World) : Kept base Ex w w := ⟨rfl, rfl, rfl, Nat.le_refl _, fun _ _ _ => rfl⟩
theorem Kept.trans (h : Kept base Ex w w') (h' : Kept base Ex w' w'') : Kept base Ex w w'' :=
  ⟨h'.os.trans h.os, h'.tape.trans h.tape, h'.output.trans h.output, Nat.le_trans h.size h'.size, fun k hk he => (h'.block k (Nat.lt_of_lt_of_le hk h.size) he).trans (h.block k hk he)⟩
theorem Kept.weaken (h : Kept base Ex w w') (he : ∀ k, Ex' k → k < base ∨ Ex k) : Kept base Ex' w w' :=
  ⟨h.os, h.tape, h.output, h.size, fun k hk hx => h.block k hk (hx.elim .inl (he k))⟩
theorem Kept.of_below {B : Nat} (h : Below B w w') (hb : base ≤ B) (he : ∀ k, Ex k → k < B) : Kept base Ex w w' :=
  ⟨h.os, h.tape, h.output, h.size, fun k _ hx => h.block k (hx.elim (fun h => Nat.lt_of_lt_of_le h hb) (he k))⟩
theorem Kept.of_below_now (h : Below w.heap.size w w') : Kept base Ex w w' :=
  ⟨h.os, h.tape, h.output, h.size, fun k hk _ => h.block k hk⟩
/-- Behind the call: all that lay below the base. -/
theorem Kept.to_below (h : Kept base Ex w w') (hb : base ≤ w.heap.size) : Below base w w' :=
  ⟨h.os, h.tape, h.output, h.size, fun k hk => h.block k (Nat.lt_of_lt_of_le hk hb) (.inl hk)⟩
theorem Kept.drew (h : Kept base Ex w w') : Kept base Ex w w'.drew := ⟨h.os, h.tape, h.output, h.size, h.block⟩
theorem Kept.drewN (h : Kept base Ex w w') (n : Nat) : Kept base Ex w (w'.drewN n) := h.trans (.of_below_now (pw_below_drewN (Below.refl _ _) n))
theorem Kept.alloc (h : Kept base Ex w w') (o : Obj) : Kept base Ex w (w'.alloc o) := h.trans (.of_below_now ((Below.refl _ _).alloc (Nat.le_refl _) o))
theorem size_set (w : World) (p : Addr) (u : Value) : (w.setCell p u).heap.size = w.heap.size := by simp [World.setCell]
theorem size_alloc (w : World) (o : Obj) : (w.alloc o).heap.size = w.heap.size + 1 := by show (w.heap.push o).size = _; rw [Array.size_push]
theorem Kept.setCell (h : Kept base Ex w w') {p : Addr} (hp : base ≤ p.block) (he : ¬ Ex p.block) (u : Value) : Kept base Ex w (w'.setCell p u) :=
  h.trans ⟨rfl, rfl, rfl, by rw [size_set]; exact Nat.le_refl _, fun k _ hx => Below.heap_setCell _ _ _ _ (fun e => by subst e; exact hx.elim (fun h => by omega) he)⟩
theorem setCells_world (b : Nat) : ∀ (vs : List Value) (o : Nat) (w : World), (w.setCells b o vs).os = w.os ∧ (w.setCells b o vs).tape = w.tape ∧ (w.setCells b o vs).output = w.output ∧ (w.setCells b o vs).heap.size = w.heap.size ∧ ∀ k, k ≠ b → (w.setCells b o vs).heap[k]? = w.heap[k]?
  | [], _, _ => ⟨rfl, rfl, rfl, rfl, fun _ _ => rfl⟩
  | v :: r, o, w => by
    obtain ⟨h1, h2, h3, h4, h5⟩ := setCells_world b r (o + 1) (w.setCell ⟨b, o, none⟩ v)
    rw [World.setCells]
    exact ⟨h1, h2, h3, h4.trans (size_set _ _ _), fun k hk => (h5 k hk).trans (Below.heap_setCell _ _ _ _ hk)⟩
theorem Kept.setCells (h : Kept base Ex w w') {b : Nat} (hb : base ≤ b) (he : ¬ Ex b) (o : Nat) (vs : List Value) : Kept base Ex w (w'.setCells b o vs) := by
  obtain ⟨h1, h2, h3, h4, h5⟩ := setCells_world b vs o w'
  exact h.trans ⟨h1, h2, h3, by rw [h4]; exact Nat.le_refl _, fun k _ hx => h5 k (fun e => by subst e; exact hx.elim (fun h => by omega) he)⟩
theorem Kept.grown (h : Kept base Ex w w') {row : Option Nat} (hg : w'.grownBy w'' row) (hr : ∀ k, row = some k → base ≤ k ∧ ¬ Ex k) : Kept base Ex w w'' :=
  h.trans ⟨hg.os, hg.tape, hg.output, hg.size, fun k hk hx => hg.block k hk (fun e => by
    have := hr k e.symm
    exact hx.elim (fun h => by omega) this.2)⟩
theorem Kept.cell (h : Kept base Ex w w') {p : Addr} (hp : p.block < w.heap.size) (he : p.block < base ∨ Ex p.block) : w'.cell? p = w.cell? p := World.cell?_of_block (h.block _ hp he)

/-! ### A row of sectors -/
def cellsOf (s : List Int) : List Value := s.map (Value.int .u8)
theorem cellsOf_length (s : List Int) : (cellsOf s).length = s.length := by simp [cellsOf]
theorem cellsOf_one (s : List Int) : ∀ v ∈ cellsOf s, v.oneCell' = true := by
  intro v hv
  obtain ⟨x, _, rfl⟩ := List.mem_map.1 hv
  rfl
theorem range_move {w w' : World} {b o : Nat} {cs : List Value} (h : w.rangeAt b o cs) (hm : w'.heap[b]? = w.heap[b]?) : w'.rangeAt b o cs := fun j v hv => by
  rw [World.cell?_of_block (w := w) (w' := w') hm]; exact h j v hv
theorem there_move {w w' : World} {b o n : Nat} (h : w.there b o n) (hm : w'.heap[b]? = w.heap[b]?) : w'.there b o n := fun j hj => by
  rw [World.cell?_of_block (w := w) (w' := w') hm, World.frozen?_of_block (w := w) (w' := w') hm]; exact h j hj
theorem range_lt {w : World} {b o : Nat} {cs : List Value} (h : w.rangeAt b o cs) (hl : 0 < cs.length) : b < w.heap.size :=
  World.block_lt_of_cell? w _ (h 0 _ (List.getElem?_eq_getElem hl))
theorem there_lt {w : World} {b o n : Nat} (h : w.there b o n) (hn : 0 < n) : b < w.heap.size := by
  obtain ⟨u, hu⟩ := Option.isSome_iff_exists.1 (h 0 hn).1
  exact World.block_lt_of_cell? w _ hu
theorem there_sub {w : World} {b n : Nat} (h : w.there b 0 n) (o m : Nat) (hm : o + m ≤ n) : w.there b o m := fun j hj => by
  have := h (o + j) (by omega)
  rwa [Nat.zero_add] at this
/-- Sectors of 64 bytes, one behind the other. -/
def Secs (w : World) (g : Nat) (l : List (List Int)) : Prop :=
  (∀ k, k < l.length → (l.getD k []).length = 64 ∧ w.rangeAt g (k * 64) (cellsOf (l.getD k []))) ∧ w.there g 0 (l.length * 64)
theorem Secs.move {g : Nat} {l : List (List Int)} (h : Secs w g l) (hm : w'.heap[g]? = w.heap[g]?) : Secs w' g l :=
  ⟨fun k hk => ⟨(h.1 k hk).1, range_move (h.1 k hk).2 hm⟩, there_move h.2 hm⟩
theorem getD_set_self {α : Type} (l : List α) (i : Nat) (x d : α) (h : i < l.length) : (l.set i x).getD i d = x := by
  rw [List.getD_eq_getElem?_getD, List.getElem?_set_self h]; rfl
theorem getD_set_ne {α : Type} (l : List α) (i j : Nat) (x d : α) (h : i ≠ j) : (l.set i x).getD j d = l.getD j d := by
  rw [List.getD_eq_getElem?_getD, List.getElem?_set_ne h, ← List.getD_eq_getElem?_getD]
theorem Secs.set {g : Nat} {l : List (List Int)} (h : Secs w g l) (k : Nat) (s : List Int) (hk : k < l.length) (hs : s.length = 64) : Secs (w.setCells g (k * 64) (cellsOf s)) g (l.set k s) := by
  refine ⟨fun j hj => ?_, ?_⟩
  · rw [List.length_set] at hj
    by_cases e : k = j
    · subst e
      rw [getD_set_self _ _ _ _ hj]
      exact ⟨hs, World.rangeAt_setCells_same _ _ _ _ (by rw [cellsOf_length, hs]; exact there_sub h.2 _ _ (by omega))⟩
    · rw [getD_set_ne _ _ _ _ _ e]
      refine ⟨(h.1 j hj).1, World.rangeAt_setCells_apart (h.1 j hj).2 _ _ _ (.inr ?_)⟩
      rw [cellsOf_length, cellsOf_length, hs, (h.1 j hj).1]
      omega
  · rw [List.length_set]
    exact World.there_setCells h.2 _ _ _
/-- All of them in one. -/
def flat (l : List (List Int)) : List Value := l.flatMap cellsOf
theorem flat_get : ∀ (l : List (List Int)), (∀ k, k < l.length → (l.getD k []).length = 64) → (flat l).length = l.length * 64 ∧ ∀ k j, k < l.length → j < 64 → (flat l)[k * 64 + j]? = (cellsOf (l.getD k []))[j]?
  | [], _ => ⟨rfl, fun k j hk => by simp at hk⟩
  | s :: l, h => by
    have h0 : s.length = 64 := by simpa using h 0 (by simp)
    obtain ⟨h1, h2⟩ := flat_get l (fun k hk => by have := h (k + 1) (by simpa using hk); simpa using this)
    have hf : flat (s :: l) = cellsOf s ++ flat l := by simp [flat]
    refine ⟨by rw [hf, List.length_append, cellsOf_length, h0, h1, List.length_cons]; omega, fun k j hk hj => ?_⟩
    rw [hf]
    cases k with
    | zero =>
      rw [Nat.zero_mul, Nat.zero_add, List.getElem?_append_left (by rw [cellsOf_length]; omega)]
      rfl
    | succ k =>
      rw [List.getElem?_append_right (by rw [cellsOf_length]; omega), cellsOf_length, h0, show (k + 1) * 64 + j - 64 = k * 64 + j by omega, h2 k j (by simpa using hk) hj]
      rfl
theorem flat_one (l : List (List Int)) : ∀ v ∈ flat l, v.oneCell' = true := by
  intro v hv
  obtain ⟨s, _, h⟩ := List.mem_flatMap.1 hv
  exact cellsOf_one s v h
theorem Secs.flat {g : Nat} {l : List (List Int)} (h : Secs w g l) : w.rangeAt g 0 (flat l) := by
  obtain ⟨f1, f2⟩ := flat_get l (fun k hk => (h.1 k hk).1)
  intro j v hv
  have hj : j < l.length * 64 := by have := (List.getElem?_eq_some_iff.1 hv).1; rwa [f1] at this
  have e : j = j / 64 * 64 + j % 64 := by omega
  have hk : j / 64 < l.length := by omega
  rw [e, f2 _ _ hk (by omega)] at hv
  have := (h.1 _ hk).2 _ v hv
  rw [Nat.zero_add]
  rwa [← e] at this
theorem Secs.of_flat {g : Nat} {l : List (List Int)} (hl : ∀ k, k < l.length → (l.getD k []).length = 64) (h : w.rangeAt g 0 (DM.flat l)) (ht : w.there g 0 (l.length * 64)) : Secs w g l := by
  obtain ⟨f1, f2⟩ := flat_get l hl
  refine ⟨fun k hk => ⟨hl k hk, fun j v hv => ?_⟩, ht⟩
  have hj : j < 64 := by have := (List.getElem?_eq_some_iff.1 hv).1; rwa [cellsOf_length, hl k hk] at this
  have := h (k * 64 + j) v (by rw [f2 k j hk hj]; exact hv)
  rwa [Nat.zero_add] at this
/-- Behind a copy of all of another row. -/
theorem Secs.copy {g : Nat} {l l' : List (List Int)} (h : Secs w g l) (hl : ∀ k, k < l'.length → (l'.getD k []).length = 64) (he : l'.length = l.length) : Secs (w.setCells g 0 (DM.flat l')) g l' := by
  obtain ⟨f1, _⟩ := flat_get l' hl
  exact .of_flat hl (World.rangeAt_setCells_same _ _ _ _ (by rw [f1, he]; exact h.2)) (World.there_setCells (by rw [he]; exact h.2) _ _ _)

/-! ### A disk -/
structure D where
  las : List (List Int)
  now : List (List Int)
  pen : List (Int × List Int)
  lim : Int
  off : Bool
def penCells (pen : List (Int × List Int)) : List Value := pen.flatMap fun p => .int .i64 p.1 :: cellsOf p.2
theorem penCells_snoc (pen : List (Int × List Int)) (p : Int × List Int) : penCells (pen ++ [p]) = penCells pen ++ (.int .i64 p.1 :: cellsOf p.2) := by simp [penCells]
/-- The cells of one of them. -/
theorem penCells_get : ∀ (pen : List (Int × List Int)), (∀ p ∈ pen, p.2.length = 64) → (penCells pen).length = pen.length * 65 ∧ ∀ k j, k < pen.length → j < 65 → (penCells pen)[k * 65 + j]? = (Value.int .i64 (pen.getD k (0, [])).1 :: cellsOf (pen.getD k (0, [])).2)[j]?
  | [], _ => ⟨rfl, fun k j hk => by simp at hk⟩
  | p :: pen, h => by
    have h0 := h p List.mem_cons_self
    obtain ⟨h1, h2⟩ := penCells_get pen (fun q hq => h q (List.mem_cons_of_mem _ hq))
    have hf : penCells (p :: pen) = (.int .i64 p.1 :: cellsOf p.2) ++ penCells pen := by simp [penCells]
    have hl : (Value.int .i64 p.1 :: cellsOf p.2).length = 65 := by rw [List.length_cons, cellsOf_length, h0]
    refine ⟨by rw [hf, List.length_append, hl, h1, List.length_cons]; omega, fun k j hk hj => ?_⟩
    rw [hf]
    cases k with
    | zero =>
      rw [Nat.zero_mul, Nat.zero_add, List.getElem?_append_left (by omega)]
      rfl
    | succ k =>
      rw [List.getElem?_append_right (by omega), hl, show (k + 1) * 65 + j - 65 = k * 65 + j by omega, h2 k j (by simpa using hk) hj]
      rfl
/-- The disk d, by its blocks. -/
structure In (w : World) (gd gl gn : Nat) (pv : Value) (d : D) : Prop where
  len : d.las.length = d.now.length
  pos : 1 ≤ d.now.length
  most : d.now.length ≤ 4096
  c0 : w.cell? ⟨gd, 0, none⟩ = some (.slice (some ⟨gl, 0, none⟩) d.now.length d.now.length)
  c1 : w.cell? ⟨gd, 1, none⟩ = some (.slice (some ⟨gn, 0, none⟩) d.now.length d.now.length)
  c2 : w.cell? ⟨gd, 2, none⟩ = some pv
  c3 : w.cell? ⟨gd, 3, none⟩ = some (.int .i64 d.lim)
  c4 : w.cell? ⟨gd, 4, none⟩ = some (.bool d.off)
  fr : ∀ j, j < 5 → w.frozen? ⟨gd, j, none⟩ = false
  las : Secs w gl d.las
  now : Secs w gn d.now
  pen : w.ownsRow 0 63 65 pv d.pen.length (penCells d.pen)
  pok : ∀ p ∈ d.pen, 0 ≤ p.1 ∧ p.1 < d.now.length ∧ p.2.length = 64
  lo : -1 ≤ d.lim
  dl : gd ≠ gl
  dn : gd ≠ gn
  ln : gl ≠ gn
  pd : ∀ b, pv.ownBlock = some b → b ≠ gd ∧ b ≠ gl ∧ b ≠ gn
/-- Its blocks. -/
def Foot (gd gl gn : Nat) (pv : Value) (k : Nat) : Prop := k = gd ∨ k = gl ∨ k = gn ∨ pv.ownBlock = some k
theorem In.move {gd gl gn : Nat} {pv : Value} {d : D} (h : In w gd gl gn pv d) (hm : ∀ k, Foot gd gl gn pv k → w'.heap[k]? = w.heap[k]?) : In w' gd gl gn pv d := by
  have hd := hm gd (.inl rfl)
  have hc : ∀ j, w'.cell? ⟨gd, j, none⟩ = w.cell? ⟨gd, j, none⟩ := fun j => World.cell?_of_block hd
  exact { h with c0 := (hc 0).trans h.c0, c1 := (hc 1).trans h.c1, c2 := (hc 2).trans h.c2, c3 := (hc 3).trans h.c3, c4 := (hc 4).trans h.c4, fr := fun j hj => (World.frozen?_of_block (w := w) (w' := w') (a := ⟨gd, j, none⟩) hd).trans (h.fr j hj), las := h.las.move (hm gl (.inr (.inl rfl))), now := h.now.move (hm gn (.inr (.inr (.inl rfl)))), pen := own_move h.pen (fun k hk => hm k (.inr (.inr (.inr hk)))) }
theorem In.lt {gd gl gn : Nat} {pv : Value} {d : D} (h : In w gd gl gn pv d) : ∀ k, Foot gd gl gn pv k → k < w.heap.size := by
  intro k hk
  have hp := h.pos
  have hl := h.len
  rcases hk with rfl | rfl | rfl | hk
  · exact World.block_lt_of_cell? _ _ h.c0
  · exact there_lt h.las.2 (by omega)
  · exact there_lt h.now.2 (by omega)
  · exact (h.pen.lt k hk).2
/-- The disk d at gd, its blocks all from the base on, none of Ex. -/
def At (w : World) (base : Nat) (Ex : Nat → Prop) (gd : Nat) (d : D) : Prop := ∃ gl gn pv, In w gd gl gn pv d ∧ ∀ k, Foot gd gl gn pv k → base ≤ k ∧ ¬ Ex k
theorem At.move {gd : Nat} {d : D} (h : At w base Ex gd d) (hm : ∀ k, k < w.heap.size → base ≤ k → ¬ Ex k → w'.heap[k]? = w.heap[k]?) : At w' base Ex gd d := by
  obtain ⟨gl, gn, pv, h1, h2⟩ := h
  exact ⟨gl, gn, pv, h1.move (fun k hk => hm k (h1.lt k hk) (h2 k hk).1 (h2 k hk).2), h2⟩
theorem At.below {gd : Nat} {d : D} (h : At w base Ex gd d) (hb : Below w.heap.size w w') : At w' base Ex gd d := h.move (fun k hk _ _ => hb.block k hk)
theorem At.setCell {gd : Nat} {d : D} (h : At w base Ex gd d) {p : Addr} (hp : Ex p.block ∨ p.block < base) (u : Value) : At (w.setCell p u) base Ex gd d :=
  h.move (fun k _ hb he => Below.heap_setCell _ _ _ _ (fun e => by subst e; exact hp.elim he (by omega)))
/-- More blocks are others'. -/
theorem At.more {gd : Nat} {d : D} (h : At w base Ex gd d) (he : ∀ k, Ex' k → k < w.heap.size → Ex k ∨ k < base) : At w base Ex' gd d := by
  obtain ⟨gl, gn, pv, h1, h2⟩ := h
  refine ⟨gl, gn, pv, h1, fun k hk => ⟨(h2 k hk).1, fun hx => ?_⟩⟩
  have := h2 k hk
  exact (he k hx (h1.lt k hk)).elim this.2 (by omega)

/-! ### One field stored -/
theorem cell_field (w : World) (gd j : Nat) (u v : Value) (h : w.cell? ⟨gd, j, none⟩ = some v) (i : Nat) : (w.setCell ⟨gd, j, none⟩ u).cell? ⟨gd, i, none⟩ = if i = j then some u else w.cell? ⟨gd, i, none⟩ := by
  by_cases e : i = j
  · subst e; rw [if_pos rfl]; exact World.cell?_setCell_same _ _ _ h
  · rw [if_neg e]
    exact World.cell?_setCell_other _ _ _ _ (fun he => e (by injection he with _ h2 _; exact h2.symm))
theorem frozen_field (w : World) (gd j : Nat) (u : Value) (i : Nat) : (w.setCell ⟨gd, j, none⟩ u).frozen? ⟨gd, i, none⟩ = w.frozen? ⟨gd, i, none⟩ := by simp
theorem In.setLim {gd gl gn : Nat} {pv : Value} {d : D} (h : In w gd gl gn pv d) (x : Int) (hx : -1 ≤ x) : In (w.setCell ⟨gd, 3, none⟩ (.int .i64 x)) gd gl gn pv { d with lim := x } := by
  have hc := cell_field w gd 3 (.int .i64 x) _ h.c3
  exact { len := h.len, pos := h.pos, most := h.most, c0 := (hc 0).trans h.c0, c1 := (hc 1).trans h.c1, c2 := (hc 2).trans h.c2, c3 := hc 3, c4 := (hc 4).trans h.c4, fr := fun j hj => (frozen_field w gd 3 _ j).trans (h.fr j hj), las := h.las.move (Below.heap_setCell _ _ _ _ (Ne.symm h.dl)), now := h.now.move (Below.heap_setCell _ _ _ _ (Ne.symm h.dn)), pen := own_move h.pen (fun k hk => Below.heap_setCell _ _ _ _ (h.pd k hk).1), pok := h.pok, lo := hx, dl := h.dl, dn := h.dn, ln := h.ln, pd := h.pd }
theorem In.setOff {gd gl gn : Nat} {pv : Value} {d : D} (h : In w gd gl gn pv d) (x : Bool) : In (w.setCell ⟨gd, 4, none⟩ (.bool x)) gd gl gn pv { d with off := x } := by
  have hc := cell_field w gd 4 (.bool x) _ h.c4
  exact { len := h.len, pos := h.pos, most := h.most, c0 := (hc 0).trans h.c0, c1 := (hc 1).trans h.c1, c2 := (hc 2).trans h.c2, c3 := (hc 3).trans h.c3, c4 := hc 4, fr := fun j hj => (frozen_field w gd 4 _ j).trans (h.fr j hj), las := h.las.move (Below.heap_setCell _ _ _ _ (Ne.symm h.dl)), now := h.now.move (Below.heap_setCell _ _ _ _ (Ne.symm h.dn)), pen := own_move h.pen (fun k hk => Below.heap_setCell _ _ _ _ (h.pd k hk).1), pok := h.pok, lo := h.lo, dl := h.dl, dn := h.dn, ln := h.ln, pd := h.pd }
/-- The row of writes is another one. -/
theorem In.setPen {gd gl gn : Nat} {pv pv' : Value} {d : D} (h : In w gd gl gn pv d) (pen : List (Int × List Int)) (hp : w.ownsRow 0 63 65 pv' pen.length (penCells pen)) (hok : ∀ p ∈ pen, 0 ≤ p.1 ∧ p.1 < d.now.length ∧ p.2.length = 64) (hd : ∀ b, pv'.ownBlock = some b → b ≠ gd ∧ b ≠ gl ∧ b ≠ gn) :
    In (w.setCell ⟨gd, 2, none⟩ pv') gd gl gn pv' { d with pen := pen } := by
  have hc := cell_field w gd 2 pv' _ h.c2
  exact { len := h.len, pos := h.pos, most := h.most, c0 := (hc 0).trans h.c0, c1 := (hc 1).trans h.c1, c2 := hc 2, c3 := (hc 3).trans h.c3, c4 := (hc 4).trans h.c4, fr := fun j hj => (frozen_field w gd 2 _ j).trans (h.fr j hj), las := h.las.move (Below.heap_setCell _ _ _ _ (Ne.symm h.dl)), now := h.now.move (Below.heap_setCell _ _ _ _ (Ne.symm h.dn)), pen := own_move hp (fun k hk => Below.heap_setCell _ _ _ _ (hd k hk).1), pok := hok, lo := h.lo, dl := h.dl, dn := h.dn, ln := h.ln, pd := hd }
/-- The row of writes is another one, in a world that may differ in the old one. -/
theorem In.newPen {gd gl gn : Nat} {pv pv' : Value} {d : D} (h : In w gd gl gn pv d) (hm : ∀ k, k = gd ∨ k = gl ∨ k = gn → w'.heap[k]? = w.heap[k]?) (pen : List (Int × List Int)) (hp : w'.ownsRow 0 63 65 pv' pen.length (penCells pen)) (hok : ∀ p ∈ pen, 0 ≤ p.1 ∧ p.1 < d.now.length ∧ p.2.length = 64) (hd : ∀ b, pv'.ownBlock = some b → b ≠ gd ∧ b ≠ gl ∧ b ≠ gn) :
    In (w'.setCell ⟨gd, 2, none⟩ pv') gd gl gn pv' { d with pen := pen } := by
  have e1 := hm gd (.inl rfl)
  have hc0 : ∀ j, w'.cell? ⟨gd, j, none⟩ = w.cell? ⟨gd, j, none⟩ := fun j => World.cell?_of_block e1
  have hc := cell_field w' gd 2 pv' _ ((hc0 2).trans h.c2)
  exact { len := h.len, pos := h.pos, most := h.most, c0 := (hc 0).trans ((hc0 0).trans h.c0), c1 := (hc 1).trans ((hc0 1).trans h.c1), c2 := hc 2, c3 := (hc 3).trans ((hc0 3).trans h.c3), c4 := (hc 4).trans ((hc0 4).trans h.c4),
          fr := fun j hj => (frozen_field w' gd 2 _ j).trans ((World.frozen?_of_block (w := w) (w' := w') (a := ⟨gd, j, none⟩) e1).trans (h.fr j hj)), las := (h.las.move (hm gl (.inr (.inl rfl)))).move (Below.heap_setCell _ _ _ _ (Ne.symm h.dl)), now := (h.now.move (hm gn (.inr (.inr rfl)))).move (Below.heap_setCell _ _ _ _ (Ne.symm h.dn)), pen := own_move hp (fun k hk => Below.heap_setCell _ _ _ _ (hd k hk).1), pok := hok, lo := h.lo, dl := h.dl, dn := h.dn, ln := h.ln, pd := hd }
/-- A sector is stored. -/
theorem In.setNow {gd gl gn : Nat} {pv : Value} {d : D} (h : In w gd gl gn pv d) (k : Nat) (s : List Int) (hk : k < d.now.length) (hs : s.length = 64) : In (w.setCells gn (k * 64) (cellsOf s)) gd gl gn pv { d with now := d.now.set k s } := by
  obtain ⟨_, _, _, _, hw⟩ := setCells_world gn (cellsOf s) (k * 64) w
  have hc : ∀ j, (w.setCells gn (k * 64) (cellsOf s)).cell? ⟨gd, j, none⟩ = w.cell? ⟨gd, j, none⟩ := fun j => World.cell?_of_block (hw gd h.dn)
  exact { len := by show d.las.length = (d.now.set k s).length; rw [List.length_set]; exact h.len, pos := by show 1 ≤ (d.now.set k s).length; rw [List.length_set]; exact h.pos, most := by show (d.now.set k s).length ≤ _; rw [List.length_set]; exact h.most,
          c0 := by show _ = some (Value.slice _ (d.now.set k s).length (d.now.set k s).length); rw [List.length_set]; exact (hc 0).trans h.c0, c1 := by show _ = some (Value.slice _ (d.now.set k s).length (d.now.set k s).length); rw [List.length_set]; exact (hc 1).trans h.c1, c2 := (hc 2).trans h.c2, c3 := (hc 3).trans h.c3, c4 := (hc 4).trans h.c4, fr := fun j hj => (World.frozen?_of_block (w := w) (a := ⟨gd, j, none⟩) (hw gd h.dn)).trans (h.fr j hj),
          las := h.las.move (hw gl h.ln), now := h.now.set k s hk hs, pen := own_move h.pen (fun b hb => hw b (h.pd b hb).2.2), pok := fun p hp => by show _ ∧ p.1 < ((d.now.set k s).length : Int) ∧ _; rw [List.length_set]; exact h.pok p hp, lo := h.lo, dl := h.dl, dn := h.dn, ln := h.ln, pd := h.pd }
theorem In.setLas {gd gl gn : Nat} {pv : Value} {d : D} (h : In w gd gl gn pv d) (k : Nat) (s : List Int) (hk : k < d.now.length) (hs : s.length = 64) : In (w.setCells gl (k * 64) (cellsOf s)) gd gl gn pv { d with las := d.las.set k s } := by
  obtain ⟨_, _, _, _, hw⟩ := setCells_world gl (cellsOf s) (k * 64) w
  have hc : ∀ j, (w.setCells gl (k * 64) (cellsOf s)).cell? ⟨gd, j, none⟩ = w.cell? ⟨gd, j, none⟩ := fun j => World.cell?_of_block (hw gd h.dl)
  exact { len := by show (d.las.set k s).length = d.now.length; rw [List.length_set]; exact h.len, pos := h.pos, most := h.most, c0 := (hc 0).trans h.c0, c1 := (hc 1).trans h.c1, c2 := (hc 2).trans h.c2, c3 := (hc 3).trans h.c3, c4 := (hc 4).trans h.c4, fr := fun j hj => (World.frozen?_of_block (w := w) (a := ⟨gd, j, none⟩) (hw gd h.dl)).trans (h.fr j hj),
          las := h.las.set k s (by rw [h.len]; exact hk) hs, now := h.now.move (hw gn (Ne.symm h.ln)), pen := own_move h.pen (fun b hb => hw b (h.pd b hb).2.1), pok := h.pok, lo := h.lo, dl := h.dl, dn := h.dn, ln := h.ln, pd := h.pd }
/-- All sectors are as they would last. -/
theorem In.copy {gd gl gn : Nat} {pv : Value} {d : D} (h : In w gd gl gn pv d) : In (w.setCells gn 0 (flat d.las)) gd gl gn pv { d with now := d.las } := by
  obtain ⟨_, _, _, _, hw⟩ := setCells_world gn (flat d.las) 0 w
  have hl := h.len
  have hc : ∀ j, (w.setCells gn 0 (flat d.las)).cell? ⟨gd, j, none⟩ = w.cell? ⟨gd, j, none⟩ := fun j => World.cell?_of_block (hw gd h.dn)
  exact { len := rfl, pos := by show 1 ≤ d.las.length; rw [hl]; exact h.pos, most := by show d.las.length ≤ _; rw [hl]; exact h.most, c0 := by show _ = some (Value.slice _ d.las.length d.las.length); rw [hl]; exact (hc 0).trans h.c0, c1 := by show _ = some (Value.slice _ d.las.length d.las.length); rw [hl]; exact (hc 1).trans h.c1, c2 := (hc 2).trans h.c2, c3 := (hc 3).trans h.c3, c4 := (hc 4).trans h.c4, fr := fun j hj => (World.frozen?_of_block (w := w) (a := ⟨gd, j, none⟩) (hw gd h.dn)).trans (h.fr j hj),
          las := h.las.move (hw gl h.ln), now := h.now.copy (fun k hk => (h.las.1 k hk).1) hl, pen := own_move h.pen (fun b hb => hw b (h.pd b hb).2.2), pok := fun p hp => by show _ ∧ p.1 < (d.las.length : Int) ∧ _; rw [hl]; exact h.pok p hp, lo := h.lo, dl := h.dl, dn := h.dn, ln := h.ln, pd := h.pd }

end Go.Proofs.Ytghodkjpjjbcnaa.DM
