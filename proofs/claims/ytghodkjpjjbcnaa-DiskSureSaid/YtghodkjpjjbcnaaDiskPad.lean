/- 64 bytes that are made and copied into; strings of bytes that are read. -/
import Derived.Test.YtghodkjpjjbcnaaDiskAt
import Derived.Laws.CopyOwn
namespace Go.Proofs.Ytghodkjpjjbcnaa.DO
open Go.RowKit Go.Proofs.Ytghodkjpjjbcnaa.DM Go.Proofs.YtghodkjpjjbcnaaW.PrintWords Go.Proofs.YtghodkjpjjbcnaaW.PrintLast Go.Proofs.YtghodkjpjjbcnaaW.PrintMore

/-- All blocks but one are as they were. -/
structure But (g : Nat) (w w' : World) : Prop where
  os : w'.os = w.os
  tape : w'.tape = w.tape
  output : w'.output = w.output
  size : w'.heap.size = w.heap.size
  block : ∀ k, k ≠ g → w'.heap[k]? = w.heap[k]?
theorem But.setCells (g o : Nat) (vs : List Value) (w : World) : But g w (w.setCells g o vs) := by
  obtain ⟨h1, h2, h3, h4, h5⟩ := setCells_world g vs o w
  exact ⟨h1, h2, h3, h4, h5⟩
theorem But.setCell (g j : Nat) (v : Value) (w : World) : But g w (w.setCell ⟨g, j, none⟩ v) := ⟨rfl, rfl, rfl, size_set _ _ _, fun _ hk => Below.heap_setCell _ _ _ _ hk⟩
theorem But.below {g : Nat} {w w' w0 : World} (h : But g w w') (hb : Below w0.heap.size w0 w) (hg : w0.heap.size ≤ g) : Below w0.heap.size w0 w' :=
  ⟨h.os.trans hb.os, h.tape.trans hb.tape, h.output.trans hb.output, by rw [h.size]; exact hb.size, fun k hk => (h.block k (by omega)).trans (hb.block k hk)⟩
theorem But.at {g : Nat} {w w' : World} (h : But g w w') {base : Nat} {Ex : Nat → Prop} {gd : Nat} {d : D} (hA : At w base Ex gd d) (hg : Ex g ∨ g < base) : At w' base Ex gd d :=
  hA.move (fun k _ hb he => h.block k (fun e => by subst e; exact hg.elim he (by omega)))
/-- 64 bytes: the first of l, then zeros. -/
def pad (l : List Int) : List Int := l.take 64 ++ List.replicate (64 - l.length) 0
theorem pad_length (l : List Int) : (pad l).length = 64 := by simp [pad]; omega
theorem pad_set (l : List Int) : ∀ j, j < 64 → (pad l).getD j 0 = if j < l.length then l.getD j 0 else 0 := by
  intro j hj
  unfold pad
  by_cases h : j < l.length
  · rw [if_pos h, List.getD_eq_getElem?_getD, List.getElem?_append_left (by rw [List.length_take]; omega), List.getElem?_take_of_lt hj, ← List.getD_eq_getElem?_getD]
  · rw [if_neg h, List.getD_eq_getElem?_getD, List.getElem?_append_right (by rw [List.length_take]; omega), List.length_take, List.getElem?_replicate_of_lt (by omega)]
    rfl
theorem copy_run {w : World} {gb c cl : Nat} {A : Option Addr} {l : List Int} {ty : TypeId} (ht : w.there gb 0 64) (hC : Kd.C (Kd.int .u8) w A l.length l) :
    ∃ v, (Builtin.copy_ #[22, 22] ty #[.slice (some ⟨gb, 0, none⟩) 64 c, .slice A l.length cl]).run Try.prog w = .ok v (w.setCells gb 0 (cellsOf (l.take 64))) := by
  have hsz : (Try.prog.info? 5).map (·.size) = some 1 := by
    have := info5
    cases h : Try.prog.info? 5 with
    | none => rw [h] at this; cases this
    | some i => rw [h] at this; simp only [Option.map_some, Option.some.injEq, Prod.mk.injEq] at this; simp [this.2.1]
  by_cases h0 : l.length = 0
  · obtain rfl : l = [] := List.eq_nil_of_length_eq_zero h0
    exact ⟨_, run_copy_none (P := Try.prog) w 22 22 ty 5 _ A 64 c 0 cl Try.underlying22 hsz (by decide)⟩
  · obtain ⟨ad, hA, hc⟩ := hC.2.2 (by omega)
    subst hA
    have hl : (cellsOf (l.take 64)).length = Nat.min l.length 64 := by
      rw [cellsOf_length, List.length_take]
      show min 64 l.length = min l.length 64
      omega
    have h64 : (cellsOf (l.take 64)).length ≤ 64 := by rw [cellsOf_length, List.length_take]; omega
    exact ⟨_, run_copy_cells (P := Try.prog) w 22 22 ty 5 gb 0 64 c ad l.length cl (cellsOf (l.take 64)) Try.underlying22 hsz hl (fun j v hj => by
      unfold cellsOf at hj
      rw [List.getElem?_map] at hj
      have hj2 : j < (l.take 64).length := by
        rcases Nat.lt_or_ge j (l.take 64).length with h | h
        · exact h
        · rw [List.getElem?_eq_none h] at hj; cases hj
      rw [List.length_take] at hj2
      rw [List.getElem?_take_of_lt (by omega), List.getElem?_eq_getElem (by omega)] at hj
      obtain ⟨c', h1, h2, h3⟩ := hc j _ (List.getElem?_eq_getElem (show j < l.length by omega))
      have e : c' = [.int .u8 l[j]] := h2
      have := h3 0 (.int .u8 l[j]) (by rw [e]; rfl)
      simp only [Option.map_some, Option.some.injEq] at hj
      rw [show ((Kd.int .u8).sz) = 1 from rfl, Nat.mul_one, Nat.add_zero] at this
      rw [← hj]
      exact this) (fun j hj => (ht (0 + j) (by omega) |> fun h => by rw [Nat.zero_add] at h; exact h.1)) (fun j hj => (ht (0 + j) (by omega) |> fun h => by rw [Nat.zero_add] at h; exact h.2)) (cellsOf_one _)⟩
theorem pad_range {w : World} {gb : Nat} {l : List Int} (hr : w.rangeAt gb 0 (cellsOf zero64)) (ht : w.there gb 0 64) : (w.setCells gb 0 (cellsOf (l.take 64))).rangeAt gb 0 (cellsOf (pad l)) ∧ (w.setCells gb 0 (cellsOf (l.take 64))).there gb 0 64 := by
  have hlen : (cellsOf (l.take 64)).length = min 64 l.length := by rw [cellsOf_length, List.length_take]
  refine ⟨fun j v hv => ?_, World.there_setCells ht _ _ _⟩
  have hj : j < 64 := by have := (List.getElem?_eq_some_iff.1 hv).1; rwa [cellsOf_length, pad_length] at this
  unfold cellsOf pad at hv
  rw [List.map_append] at hv
  by_cases h : j < (cellsOf (l.take 64)).length
  · rw [World.cell?_setCells_in gb (cellsOf (l.take 64)) 0 w (fun i hi => (ht (0 + i) (by omega) |> fun h => by rw [Nat.zero_add] at h; exact h.1)) j h]
    rw [List.getElem?_append_left (by rw [cellsOf_length] at h; simpa using h)] at hv
    rw [← hv]
    exact (List.getElem?_eq_getElem h).symm
  · rw [World.cell?_setCells_out gb (cellsOf (l.take 64)) 0 w ⟨gb, 0 + j, none⟩ (fun _ _ => .inr (by show 0 + _ ≤ 0 + j; omega))]
    rw [List.getElem?_append_right (by rw [cellsOf_length] at h; simpa using h)] at hv
    have hlt : j - ((l.take 64).map (Value.int .u8)).length < 64 - l.length := by
      rw [List.length_map, List.length_take]
      rw [hlen] at h
      omega
    rw [List.map_replicate, List.getElem?_replicate_of_lt hlt] at hv
    rw [← hv]
    refine hr j _ ?_
    unfold cellsOf zero64
    rw [List.map_replicate, List.getElem?_replicate_of_lt hj]
/-- The operation copy(made, src), in a plain region. -/
theorem wpList_pad {w : World} {ops : Array Oper} {rest : List Oper} {o : Oper} {a : Act} {Q : Exit → Act → World → Prop} (hgd : o.guard = none) (d s : Operand) (ho : o.op = .call { callee := .builtin .copy, args := #[d, s], argTypes := #[22, 22] })
    (gb c cl : Nat) (A : Option Addr) (l : List Int) (n : Nat) (hd : a.eval d = .slice (some ⟨gb, 0, none⟩) 64 c) (hs : a.eval s = .slice A n cl) (hnl : n = l.length) (hr : w.rangeAt gb 0 (cellsOf zero64)) (ht : w.there gb 0 64) (hC : Kd.C (Kd.int .u8) w A l.length l)
    (h : ∀ v w', w'.rangeAt gb 0 (cellsOf (pad l)) → w'.there gb 0 64 → But gb w w' → wpList Try.prog ops Q rest (a.put o.dst v) w') : wpList Try.prog ops Q (o :: rest) a w := by
  subst hnl
  refine wpList_plain hgd fun K hK => ?_
  obtain ⟨v, hrun⟩ := copy_run (c := c) (cl := cl) (ty := o.type) ht hC
  obtain ⟨p1, p2⟩ := pad_range (l := l) hr ht
  unfold Oper.wp execOp
  simp only [ho, resolve, invoke, builtin, Sem.run_bind, Sem.run_pure, Result.andThen_ok, List.map_toArray, List.map_cons, List.map_nil, hd, hs, hrun]
  exact hK _ _ (h v _ p1 p2 (But.setCells gb 0 _ w))
/-- string(b), of 64 bytes that lie there. -/
theorem str64 {w : World} {g c : Nat} {s : List Int} (hr : w.rangeAt g 0 (cellsOf s)) (hs : s.length = 64) : (convert 22 9 (.slice (some ⟨g, 0, none⟩) 64 c)).run Try.prog w = .ok (.string (strOfNums s)) w := by
  have hC : Kd.C (Kd.int .u8) w (some ⟨g, 0, none⟩) 64 s := by
    refine ⟨hs, by omega, fun _ => ⟨_, rfl, fun j p hj => ⟨[.int .u8 p], rfl, rfl, fun i u hu => ?_⟩⟩⟩
    have hi : i = 0 := by
      rcases i with _ | i
      · rfl
      · simp at hu
    subst hi
    have hu' : u = .int .u8 p := by simpa using hu.symm
    rw [hu', show ((Kd.int .u8).sz) = 1 from rfl, Nat.mul_one, Nat.add_zero, Addr.add_mid, Nat.zero_add]
    have := hr j (.int .u8 p) (by unfold cellsOf; rw [List.getElem?_map, hj]; rfl)
    rwa [Nat.zero_add] at this
  exact Kd.C_string Try.underlying22 Try.underlying5 Try.underlying9 hC

end Go.Proofs.Ytghodkjpjjbcnaa.DO
