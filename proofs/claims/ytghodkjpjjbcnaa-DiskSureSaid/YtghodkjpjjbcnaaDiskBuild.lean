/- A write's struct (a number and a sector) built, and a row of one of them. -/
import Derived.Test.YtghodkjpjjbcnaaDiskNew
import Derived.Laws.Tables
import Derived.Great.BuildSlice
namespace Go.Proofs.Ytghodkjpjjbcnaa.DO
open Go.RowKit Go.Proofs.Ytghodkjpjjbcnaa.DM Go.Proofs.YtghodkjpjjbcnaaW.PrintWords Go.Proofs.YtghodkjpjjbcnaaW.PrintLast Go.Proofs.YtghodkjpjjbcnaaW.PrintMore

theorem fold_set : ∀ (cs : List Value) (k off : Nat) (X : Array Value), ((cs.zipIdx k).foldl (fun (A : Array Value) (x : Value × Nat) => A.setIfInBounds (off + x.2) x.1) X).size = X.size ∧
    ∀ i, i < X.size → ((cs.zipIdx k).foldl (fun (A : Array Value) (x : Value × Nat) => A.setIfInBounds (off + x.2) x.1) X)[i]? = if off + k ≤ i ∧ i < off + k + cs.length then cs[i - off - k]? else X[i]?
  | [], k, off, X => ⟨rfl, fun i _ => by rw [if_neg (by simp)]; rfl⟩
  | c :: cs, k, off, X => by
    obtain ⟨h1, h2⟩ := fold_set cs (k + 1) off (X.setIfInBounds (off + k) c)
    rw [List.zipIdx_cons, List.foldl_cons]
    refine ⟨by rw [h1, Array.size_setIfInBounds], fun i hi => ?_⟩
    rw [h2 i (by rw [Array.size_setIfInBounds]; exact hi)]
    simp only [List.length_cons]
    by_cases e : i = off + k
    · subst e
      rw [if_neg (by omega), if_pos (by omega), Array.getElem?_setIfInBounds_self_of_lt hi, show off + k - off - k = 0 by omega]
      rfl
    · by_cases e2 : off + (k + 1) ≤ i ∧ i < off + (k + 1) + cs.length
      · rw [if_pos e2, if_pos (by omega), show i - off - k = (i - off - (k + 1)) + 1 by omega]
        rfl
      · rw [if_neg e2, if_neg (by omega), Array.getElem?_setIfInBounds_ne (by omega)]
theorem fold_all (cs : List Value) (X : Array Value) (h : cs.length = X.size) : (cs.zipIdx 0).foldl (fun (A : Array Value) (x : Value × Nat) => A.setIfInBounds (0 + x.2) x.1) X = cs.toArray := by
  obtain ⟨h1, h2⟩ := fold_set cs 0 0 X
  apply Array.ext_getElem?
  intro i
  by_cases hi : i < X.size
  · rw [h2 i hi, if_pos (by omega), Nat.sub_zero, Nat.sub_zero, List.getElem?_toArray]
  · rw [Array.getElem?_eq_none (by omega), Array.getElem?_eq_none (by simp; omega)]
theorem fold_tail (v : Value) (cs : List Value) (X : Array Value) (h : cs.length + 1 = X.size) : (cs.zipIdx 0).foldl (fun (A : Array Value) (x : Value × Nat) => A.setIfInBounds (1 + x.2) x.1) (X.setIfInBounds 0 v) = (v :: cs).toArray := by
  obtain ⟨h1, h2⟩ := fold_set cs 0 1 (X.setIfInBounds 0 v)
  rw [Array.size_setIfInBounds] at h1 h2
  apply Array.ext_getElem?
  intro i
  by_cases hi : i < X.size
  · rw [h2 i hi]
    by_cases e : i = 0
    · subst e
      rw [if_neg (by omega), Array.getElem?_setIfInBounds_self_of_lt hi]
      rfl
    · rw [if_pos (by omega), List.getElem?_toArray, show i = (i - 1 - 0) + 1 by omega]
      rfl
  · rw [Array.getElem?_eq_none (by omega), Array.getElem?_eq_none (by simp; omega)]

theorem info63 : (Try.prog.info? 63).map (fun i => (i.zero.map (·.cells.size), i.size, i.bytes)) = some (some 65, 65, 72) := by kernel_rfl
theorem places63 : ∃ fs, Try.prog.underlying 63 = some (.struct fs) ∧ fs.toList.mapM (fun f => (Try.prog.info? f.type).map fun i => (f.offset, i.size)) = some [(0, 1), (1, 64)] := ⟨_, Try.underlying63, by kernel_rfl⟩
theorem built63 (n : Int) (cs : List Value) (h : cs.length = 64) : Try.prog.built 63 [(0, .int .i64 n), (1, .agg cs.toArray)] = some (.int .i64 n :: cs).toArray := by
  obtain ⟨i, hi, hzz⟩ := Option.map_eq_some_iff.1 info63
  simp only [Prod.mk.injEq] at hzz
  obtain ⟨hz, hs, hb⟩ := hzz
  obtain ⟨z, hz0, hz1⟩ := Option.map_eq_some_iff.1 hz
  have ht := fold_tail (.int .i64 n) cs z.cells (by omega)
  obtain ⟨fs, hu, hp⟩ := places63
  unfold Program.built
  simp only [hi, hu, hz0, hp]
  have e1 : (Value.int .i64 n).cells = #[Value.int .i64 n] := rfl
  have e2 : (Value.agg cs.toArray).cells = cs.toArray := rfl
  simp only [Instr.fill, List.getElem?_toArray, List.getElem?_cons_zero, List.getElem?_cons_succ, e1, e2, List.size_toArray, h, hz1]
  have e3 : (#[Value.int .i64 n] : Array Value).zipIdx.foldl (fun (cs : Array Value) (x : Value × Nat) => cs.setIfInBounds (0 + x.2) x.1) z.cells = z.cells.setIfInBounds 0 (.int .i64 n) := by simp [Array.zipIdx]
  have e4 : ∀ X : Array Value, (cs.toArray).zipIdx.foldl (fun (cs : Array Value) (x : Value × Nat) => cs.setIfInBounds (1 + x.2) x.1) X = (cs.zipIdx 0).foldl (fun (cs : Array Value) (x : Value × Nat) => cs.setIfInBounds (1 + x.2) x.1) X := by
    intro X
    simp
  rw [e3, e4, ht]
  simp [hz1]
theorem build63 (n : Int) (cs : List Value) (h : cs.length = 64) (w : World) : (Instr.build 63 #[(0, .int .i64 n), (1, .agg cs.toArray)]).run Try.prog w = .ok (.agg (.int .i64 n :: cs).toArray) w :=
  run_build w 63 _ _ (built63 n cs h)
theorem slice63 (cs : List Value) (h : cs.length = 65) (w : World) : (Instr.buildSlice 57 1 #[(0, .agg cs.toArray)]).run Try.prog w = .ok (.slice (some ⟨w.heap.size, 0, none⟩) 1 1) (w.alloc (.cells cs.toArray 63)) := by
  obtain ⟨i, hi, hzz⟩ := Option.map_eq_some_iff.1 info63
  simp only [Prod.mk.injEq] at hzz
  obtain ⟨hz, hs, hb⟩ := hzz
  obtain ⟨z, hz0, hz1⟩ := Option.map_eq_some_iff.1 hz
  have hr : ∀ X : Array Value, X.size = 65 → Instr.fill (fun i => some (i * 65, 65)) X [(0, .agg cs.toArray)] = some cs.toArray := by
    intro X hX
    have ha := fold_all cs X (by omega)
    have e2 : (Value.agg cs.toArray).cells = cs.toArray := rfl
    have e4 : (cs.toArray).zipIdx.foldl (fun (cs : Array Value) (x : Value × Nat) => cs.setIfInBounds (0 + x.2) x.1) X = (cs.zipIdx 0).foldl (fun (cs : Array Value) (x : Value × Nat) => cs.setIfInBounds (0 + x.2) x.1) X := by simp
    simp only [Instr.fill, e2, List.size_toArray, h, hX, Nat.zero_mul]
    rw [e4, ha]
    simp
  exact run_buildSlice (P := Try.prog) w 57 63 1 _ _ i z Try.underlying57 hi hz0 (by rw [hs]; decide) (by rw [hs]; decide) (by rw [hs]; exact hr _ (by simp))

theorem yields_build63 {ops : Array Oper} {o : Oper} {a : Act} (hw : Region.wanted o (yielded ops a.tmps) = true) (x y : Operand) (ho : o.op = .build 63 #[(0, x), (1, y)]) (n : Int) (cs : List Value) (hx : a.eval x = .int .i64 n) (hy : a.eval y = .agg cs.toArray) (h : cs.length = 64) : Yields Try.prog ops o (.agg (.int .i64 n :: cs).toArray) a :=
  .inl ⟨hw, fun w => by
    have hb := build63 n cs h w
    unfold execOp
    simp only [ho, List.map_toArray, List.map_cons, List.map_nil, hx, hy, Sem.run_bind, hb, Result.andThen_ok, Sem.run_pure]⟩
theorem step_slice63 {ops : Array Oper} {o : Oper} {a : Act} {w : World} {K : Act → World → Prop} {Q : Exit → Act → World → Prop} {E : Prop} (hw : Region.wanted o (yielded ops a.tmps) = true) (x : Operand) (ho : o.op = .buildSlice 57 1 #[(0, x)]) (cs : List Value) (hx : a.eval x = .agg cs.toArray) (h : cs.length = 65)
    (hK : K (a.put o.dst (.slice (some ⟨w.heap.size, 0, none⟩) 1 1)) (w.alloc (.cells cs.toArray 63))) : if Region.wanted o (yielded ops a.tmps) = true then Oper.wp Try.prog o a w K Q else E := by
  rw [if_pos hw]
  have hb := slice63 cs h w
  unfold Oper.wp execOp
  simp only [ho, List.map_toArray, List.map_cons, List.map_nil, hx, Sem.run_bind, hb, Result.andThen_ok, Sem.run_pure]
  exact hK

end Go.Proofs.Ytghodkjpjjbcnaa.DO
