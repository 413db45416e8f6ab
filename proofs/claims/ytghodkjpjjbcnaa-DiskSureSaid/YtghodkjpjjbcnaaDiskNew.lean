/- disk.New, walked. -/
import Derived.Test.YtghodkjpjjbcnaaDiskOps
namespace Go.Proofs.Ytghodkjpjjbcnaa.DO
open Go.RowKit Go.Proofs.Ytghodkjpjjbcnaa.DM Go.Proofs.YtghodkjpjjbcnaaW.PrintWords Go.Proofs.YtghodkjpjjbcnaaW.PrintLast Go.Proofs.YtghodkjpjjbcnaaW.PrintMore

def Z64 : Array Value := (List.replicate 64 (.int .u8 0)).toArray
theorem info61 : (Try.prog.info? 61).map (fun i => (i.zero.map (·.cells), i.size, i.bytes)) = some (some Z64, 64, 64) := by kernel_rfl
theorem make61 (n : Nat) (hn : n ≤ 4096) (w : World) : (Instr.makeSlice 56 (.int .i64 (n : Int)) (.int .i64 (n : Int))).run Try.prog w = .ok (.slice (some ⟨w.heap.size, 0, none⟩) n n) (w.alloc (.cells (madeCells Z64 (n * 64)) 61)) := by
  obtain ⟨i, hi, hzz⟩ := Option.map_eq_some_iff.1 info61
  simp only [Prod.mk.injEq] at hzz
  obtain ⟨hz, hs, hb⟩ := hzz
  obtain ⟨z, hz0, hz1⟩ := Option.map_eq_some_iff.1 hz
  have hr := run_make (P := Try.prog) w 56 61 i z Try.underlying56 hi hz0 .i64 .i64 n n (by omega) (Int.le_refl _) (by rw [hb]; omega) (by omega)
  simp only [Int.toNat_natCast, hs, hz1] at hr
  exact hr
theorem made_get (n j : Nat) (h : j < n * 64) : (madeCells Z64 (n * 64))[j]? = some (.int .u8 0) := by
  have hz : Z64.size = 64 := by simp [Z64]
  have hlt : j < (madeCells Z64 (n * 64)).size := by rw [size_madeCells]; exact h
  rw [Array.getElem?_eq_getElem hlt]
  simp only [madeCells, Array.getElem_map, Array.getElem_range, hz]
  have hm : j % 64 < Z64.size := by rw [hz]; exact Nat.mod_lt _ (by decide)
  rw [getElem!_pos Z64 (j % 64) hm]
  have : ∀ (i : Nat) (hi : i < Z64.size), Z64[i] = Value.int .u8 0 := fun i hi => by
    have h1 : Z64[i] ∈ List.replicate 64 (Value.int .u8 0) := by
      have := Array.getElem_mem hi
      exact Array.mem_toList_iff.2 this
    exact (List.mem_replicate.1 h1).2
  rw [this]
/-- A new disk's sectors. -/
def zeros (n : Nat) : List (List Int) := List.replicate n (List.replicate 64 0)
theorem zeros_secs {w : World} {g n : Nat} (h : w.heap[g]? = some (.cells (madeCells Z64 (n * 64)) 61 (0, 0))) : Secs w g (zeros n) := by
  have hl : (zeros n).length = n := List.length_replicate
  have hk : ∀ k, k < n → (zeros n).getD k [] = List.replicate 64 0 := fun k hk => by
    unfold zeros
    rw [List.getD_eq_getElem?_getD, List.getElem?_replicate_of_lt hk]; rfl
  have hc : ∀ j, j < n * 64 → w.cell? ⟨g, j, none⟩ = some (.int .u8 0) := fun j hj => by
    rw [cell_of_row w g j _ _ _ h]; exact made_get n j hj
  have hf : ∀ j, w.frozen? ⟨g, j, none⟩ = false := fun j => by
    unfold World.frozen?
    rw [show w.heap[g]? = some (.cells (madeCells Z64 (n * 64)) 61 (0, 0)) from h]
    simp
  refine ⟨fun k h1 => ?_, fun j hj => ?_⟩
  · rw [hl] at h1
    rw [hk k h1]
    refine ⟨List.length_replicate, fun j v hv => ?_⟩
    have hj : j < 64 := by have := (List.getElem?_eq_some_iff.1 hv).1; simpa [cellsOf] using this
    have e : v = .int .u8 0 := by
      have : (cellsOf (List.replicate 64 (0 : Int)))[j]? = some (.int .u8 0) := by
        unfold cellsOf
        rw [List.map_replicate, List.getElem?_replicate_of_lt hj]
      rw [this] at hv
      exact (Option.some.inj hv).symm
    rw [e]
    exact hc _ (by omega)
  · rw [hl] at hj
    rw [Nat.zero_add, hc j hj]
    exact ⟨rfl, hf j⟩
def newD (n : Nat) : D := ⟨zeros n, zeros n, [], -1, false⟩

theorem new_bad (n : Int) (h : n < 1 ∨ 4096 < n) (w : World) : Calls Try.prog 9 #[.int .i64 n] w fun e w' => e = .returned (.tuple #[.pointer none, .int .i64 1]) ∧ w' = w := by
  by_cases c : n < 1
  · clear h
    go_enter Try.func9, Try.ntmps9
    go_wp2
    go_ret2
    exact ⟨rfl, rfl⟩
  · have c2 : 4096 < n := by omega
    clear h
    go_enter Try.func9, Try.ntmps9
    go_wp2
    go_ret2
    exact ⟨rfl, rfl⟩
theorem new_in {w : World} {g1 g2 n : Nat} (h1 : 1 ≤ n) (h2 : n ≤ 4096) (hg : (g1 = w.heap.size ∧ g2 = w.heap.size + 1) ∨ (g1 = w.heap.size + 1 ∧ g2 = w.heap.size)) :
    In (((w.alloc (.cells (madeCells Z64 (n * 64)) 61)).alloc (.cells (madeCells Z64 (n * 64)) 61)).alloc (.cells #[.slice (some ⟨g1, 0, none⟩) n n, .slice (some ⟨g2, 0, none⟩) n n, .slice none 0 0, .int .i64 (-1), .bool false] 59)).drew (w.heap.size + 2) g1 g2 (.slice none 0 0) (newD n) := by
  have b0 : ∀ (W : World) (o : Obj), (W.alloc o).heap[W.heap.size]? = some o := fun W o => by show (W.heap.push o)[W.heap.size]? = _; rw [Array.getElem?_push_size]
  have bl : ∀ (W : World) (o : Obj) (k : Nat), k < W.heap.size → (W.alloc o).heap[k]? = W.heap[k]? := fun W o k hk => Below.heap_alloc W o k hk
  generalize hA : w.alloc (.cells (madeCells Z64 (n * 64)) 61) = A
  generalize hB : A.alloc (.cells (madeCells Z64 (n * 64)) 61) = B
  have sA : A.heap.size = w.heap.size + 1 := by rw [← hA]; exact size_alloc _ _
  have sB : B.heap.size = w.heap.size + 2 := by rw [← hB, size_alloc, sA]
  have hz0 : B.heap[w.heap.size]? = some (.cells (madeCells Z64 (n * 64)) 61 (0, 0)) := by
    rw [← hB, bl A _ _ (by omega), ← hA]; exact b0 w _
  have hz1 : B.heap[w.heap.size + 1]? = some (.cells (madeCells Z64 (n * 64)) 61 (0, 0)) := by
    rw [← hB, ← sA]; exact b0 A _
  generalize hC : B.alloc (.cells #[.slice (some ⟨g1, 0, none⟩) n n, .slice (some ⟨g2, 0, none⟩) n n, .slice none 0 0, .int .i64 (-1), .bool false] 59) = C
  have hd : C.heap[w.heap.size + 2]? = some (.cells #[.slice (some ⟨g1, 0, none⟩) n n, .slice (some ⟨g2, 0, none⟩) n n, .slice none 0 0, .int .i64 (-1), .bool false] 59 (0, 0)) := by
    rw [← hC, ← sB]; exact b0 B _
  have hg1 : C.heap[g1]? = some (.cells (madeCells Z64 (n * 64)) 61 (0, 0)) := by
    rw [← hC, bl B _ _ (by omega)]
    rcases hg with ⟨h, _⟩ | ⟨h, _⟩ <;> rw [h] <;> assumption
  have hg2 : C.heap[g2]? = some (.cells (madeCells Z64 (n * 64)) 61 (0, 0)) := by
    rw [← hC, bl B _ _ (by omega)]
    rcases hg with ⟨_, h⟩ | ⟨_, h⟩ <;> rw [h] <;> assumption
  have hl : (zeros n).length = n := List.length_replicate
  have hcell : ∀ j, C.drew.cell? ⟨w.heap.size + 2, j, none⟩ = #[Value.slice (some ⟨g1, 0, none⟩) n n, .slice (some ⟨g2, 0, none⟩) n n, .slice none 0 0, .int .i64 (-1), .bool false][j]? := fun j => cell_of_row C _ j _ _ _ hd
  exact { len := rfl, pos := by show 1 ≤ (zeros n).length; omega, most := by show (zeros n).length ≤ 4096; omega,
          c0 := by rw [hcell]; show _ = some (Value.slice _ (zeros n).length (zeros n).length); rw [hl]; rfl, c1 := by rw [hcell]; show _ = some (Value.slice _ (zeros n).length (zeros n).length); rw [hl]; rfl, c2 := by rw [hcell]; rfl, c3 := by rw [hcell]; rfl, c4 := by rw [hcell]; rfl,
          fr := fun j _ => by
            show C.frozen? _ = false
            unfold World.frozen?
            rw [show C.heap[(⟨w.heap.size + 2, j, none⟩ : Addr).block]? = _ from hd]
            simp,
          las := (zeros_secs (w := C) hg1).move rfl, now := (zeros_secs (w := C) hg2).move rfl, pen := World.ownsRow_nil _ _ _ _, pok := fun p hp => by simp [newD] at hp, lo := Int.le_refl _, dl := by omega, dn := by omega, ln := by omega, pd := fun b hb => by simp [Value.ownBlock] at hb }
theorem new_foot {b g1 g2 : Nat} (hg : (g1 = b ∧ g2 = b + 1) ∨ (g1 = b + 1 ∧ g2 = b)) : ∀ k, Foot (b + 2) g1 g2 (.slice none 0 0) k → b ≤ k ∧ ¬ (fun _ : Nat => False) k := fun k hk => by
  refine ⟨?_, fun h => h⟩
  rcases hk with h | h | h | h
  · omega
  · omega
  · omega
  · simp [Value.ownBlock] at h
theorem new_below (w : World) (x y z : Obj) : Below w.heap.size w (((w.alloc x).alloc y).alloc z).drew :=
  below_drew1 (((((Below.refl _ w).alloc (Nat.le_refl _) x)).alloc (by rw [size_alloc]; omega) y).alloc (by rw [size_alloc, size_alloc]; omega) z)
set_option maxHeartbeats 1000000 in
theorem new_good (n : Nat) (h1 : 1 ≤ n) (h2 : n ≤ 4096) (w : World) : Calls Try.prog 9 #[.int .i64 (n : Int)] w fun e w' => ∃ gd, e = .returned (.tuple #[.pointer (some ⟨gd, 0, none⟩), .int .i64 0]) ∧ At w' w.heap.size (fun _ => False) gd (newD n) ∧ Below w.heap.size w w' := by
  have hmk := make61 n h2
  have c1 : ¬ ((n : Int) < 1) := by omega
  have c2 : ¬ (4096 < (n : Int)) := by omega
  have H1 := Lib.hid h1
  have H2 := Lib.hid h2
  clear h1 h2
  go_enter Try.func9, Try.ntmps9
  go_wp2_with fail
  go_region
  all_goals go_wp2_with fail
  all_goals go_ret2
  · exact ⟨_, rfl, ⟨_, _, _, new_in H1.out H2.out (.inl ⟨rfl, rfl⟩), new_foot (.inl ⟨rfl, rfl⟩)⟩, new_below w _ _ _⟩
  · exact ⟨_, rfl, ⟨_, _, _, new_in H1.out H2.out (.inr ⟨rfl, rfl⟩), new_foot (.inr ⟨rfl, rfl⟩)⟩, new_below w _ _ _⟩
end Go.Proofs.Ytghodkjpjjbcnaa.DO
