/- Facts that the functions' contracts share. (The kit's print tool wrote these lines; they are laid out in texts of this claim's own.) -/
import Derived.Test.YtghodkjpjjbcnaaProg
import Derived.Below
import Derived.Deep.Draws
import Derived.Deep.AppendLies
import Derived.Maps.AppendAt
import Derived.OwnWalk
import Derived.Laws.BytesArg
import Derived.Laws.MakeOwn
import Derived.Laws.OwnMore
import Derived.Deep.OwnRows
import Derived.Tactics
import Derived.Lib.ConvBytes
import Derived.Laws.Slices
import Derived.WalkKit
import Derived.KernelRfl
import Derived.RowKit3
import Derived.Deep.LoopGhost
import Derived.Deep.QuietTactic
import Derived.BigQuiet
import Derived.WideLaws
import Derived.Deep.DeepCutAuto
import Derived.Deep.CutBlock
import Derived.Deep.RegionHeld3
import Derived.Laws.Rows
import Derived.Lib.AppendStr
import Derived.ArgAppend
import Derived.Laws.IdiomCopy
import Derived.OrdersHeld
import Derived.Laws.BitsLemmas
import Derived.RowKit
import Derived.Test.YtghodkjpjjbcnaaWWords
import Derived.Test.YtghodkjpjjbcnaaWLast
import Derived.Test.YtghodkjpjjbcnaaWTab
import Derived.Test.YtghodkjpjjbcnaaWFour
import Derived.Test.YtghodkjpjjbcnaaWQPut
import Derived.Test.YtghodkjpjjbcnaaWApart
import Derived.Test.YtghodkjpjjbcnaaWArr
import Derived.Test.YtghodkjpjjbcnaaWZeros
import Derived.Test.YtghodkjpjjbcnaaWFoot
import Derived.Test.YtghodkjpjjbcnaaWKept
import Derived.Test.YtghodkjpjjbcnaaWShare
import Derived.Test.YtghodkjpjjbcnaaWN
import Derived.Test.YtghodkjpjjbcnaaWFootNe
import Derived.Test.YtghodkjpjjbcnaaWAt
import Derived.Test.YtghodkjpjjbcnaaWEqStruct
import Derived.Test.YtghodkjpjjbcnaaWRepsOne
import Derived.Test.YtghodkjpjjbcnaaWInv
import Derived.Test.YtghodkjpjjbcnaaWInvWords
import Derived.Test.YtghodkjpjjbcnaaWGuard
import Derived.Test.YtghodkjpjjbcnaaWNEv
import Derived.Test.YtghodkjpjjbcnaaWMore
namespace Go.Proofs.Ytghodkjpjjbcnaa.Q
open Go.RowKit Go.Proofs.YtghodkjpjjbcnaaW.PrintWords Go.Proofs.YtghodkjpjjbcnaaW.PrintLast Go.Proofs.YtghodkjpjjbcnaaW.PrintMore
attribute [local go_sem] max2_int min2_int max_two min_two max_three min_three max_four min_four   -- for this text's walks alone
set_option linter.unusedVariables false
set_option linter.unusedSimpArgs false

def errW : Option Int → Value
  | none => .nilIface
  | some c => .iface 0 (.int .i64 c)
theorem errW_none : errW none = .nilIface := rfl
theorem errW_some (c : Int) : errW (some c) = .iface 0 (.int .i64 c) := rfl

-- the values' own types
theorem info5 : (Try.prog.info? 5).map (fun i => (i.zero, i.size, i.bytes)) = some (some (.int .u8 0), 1, 1) := by kernel_rfl
theorem info9 : (Try.prog.info? 9).map (fun i => (i.zero, i.size, i.bytes)) = some (some (.string ⟨#[]⟩), 1, 16) := by kernel_rfl
-- the values' own types
/-! #### struct type 66 -/
structure S66 where
  f0 : Int
  f1 : ByteArray
def z66 : S66 := ⟨(0 : Int), (⟨#[]⟩ : ByteArray)⟩
def k66 : Kd S66 := Kd.iso (Kd.pair (Kd.int .i64) Kd.string) (fun x : S66 => (x.f0, x.f1))
theorem k66_open {w : World} {x : S66} {cs : List Value} (h : k66.K w x cs) : cs = [.int .i64 x.f0, .string x.f1] := by
  obtain ⟨_, _, rfl, rfl, rfl⟩ := h
  exact rfl
theorem k66_openM {w : World} {base : Nat} {ok : Nat → Prop} {x : S66} {cs : List Value} (h : k66.M w base ok x cs) : cs = [.int .i64 x.f0, .string x.f1] := by
  obtain ⟨_, _, rfl, rfl, rfl⟩ := h
  exact rfl
theorem k66_mk (w : World) (x : S66)  : k66.K w x [.int .i64 x.f0, .string x.f1] := ⟨[.int .i64 x.f0], [.string x.f1], rfl, rfl, rfl⟩
theorem k66_mkM (w : World) (base : Nat) (ok : Nat → Prop) (x : S66)  : k66.M w base ok x [.int .i64 x.f0, .string x.f1] := ⟨[.int .i64 x.f0], [.string x.f1], rfl, rfl, rfl⟩
def rd_T66 (xs : List S66) (i : Int) : S66 := xs.getD i.toNat z66
theorem at_T66 {w : World} {A : Option Addr} {n : Nat} {xs : List S66} (h : Kd.C k66 w A n xs) (i : Int) (h0 : 0 ≤ i) (h1 : i < n) : ∃ ad , A = some ad ∧ w.cell? (ad.add (i.toNat * 2)) = some (.int .i64 (rd_T66 xs i).f0) ∧ w.cell? ⟨(ad.add (i.toNat * 2)).block, (ad.add (i.toNat * 2)).off + 1, none⟩ = some (.string (rd_T66 xs i).f1) := by
  obtain ⟨ad, c, e, _, hK, hc0⟩ := Kd.C_get h z66 i h0 h1
  have hc : ∀ j u, c[j]? = some u → w.cell? (ad.add (i.toNat * 2 + j)) = some u := hc0
  obtain rfl := k66_open hK
  exact ⟨ad, e, hc 0 _ rfl, by rw [← add_field _ _ 1 (by omega)]; exact hc 1 _ rfl⟩
/-- A state of type 51 at block g of W; what its slices lead to came in by w0. -/
def IsS51 (w0 W : World) (g : Nat) (f0 : List ByteArray) (f1 : List (S66)) (f2 : Int) (f3 : Bool) : Prop := ∃ A0 c0, ∃ A1 c1, W.heap[g]? = some (.cells #[.slice A0 f0.length c0, .slice A1 f1.length c1, .int .i64 f2, .bool f3] 51 (0, 0)) ∧ w0.heap.size ≤ g ∧ Kd.C Kd.string w0 A0 f0.length f0 ∧ Kd.C k66 w0 A1 f1.length f1
theorem IsS51.grown {w0 W : World} {g : Nat} {f0 : List ByteArray} {f1 : List (S66)} {f2 : Int} {f3 : Bool} {W1 : World} {row : Option Nat} (h : IsS51 w0 W g f0 f1 f2 f3) (hw : W.grownBy W1 row) (hne : some g ≠ row) : IsS51 w0 W1 g f0 f1 f2 f3 := by
  obtain ⟨A0, c0, A1, c1, hb, hg, hr0, hr1⟩ := h
  exact ⟨A0, c0, A1, c1, blk_grown hb hw hne, hg, hr0, hr1⟩
theorem IsS51.own_neN {w0 W : World} {g : Nat} {f0 : List ByteArray} {f1 : List (S66)} {f2 : Int} {f3 : Bool} {α : Type} {d : Kd α} {e : Nat} {base : Nat} {ok : Nat → Prop} {v : Value} {xs : List α} (h : IsS51 w0 W g f0 f1 f2 f3) (ho : Kd.N d e W base ok v xs) (ht : e ≠ 51) : some g ≠ v.ownBlock := by
  obtain ⟨A0, c0, A1, c1, hb, hg, hr0, hr1⟩ := h
  exact Kd.N_ne ho hb ht
theorem IsS51.fresh {w0 W : World} {g : Nat} {f0 : List ByteArray} {f1 : List (S66)} {f2 : Int} {f3 : Bool} (h : IsS51 w0 W g f0 f1 f2 f3) : ∀ k, W.heap.size ≤ k → k ≠ g := by
  obtain ⟨A0, c0, A1, c1, hb, hg, hr0, hr1⟩ := h
  exact Kd.freshB hb
theorem IsS51.kept {w0 W : World} {g : Nat} {f0 : List ByteArray} {f1 : List (S66)} {f2 : Int} {f3 : Bool} {W1 : World} {S : Nat → Prop} (h : IsS51 w0 W g f0 f1 f2 f3) (hk : Kept W W1 S) (hne : ¬ S g) : IsS51 w0 W1 g f0 f1 f2 f3 := by
  obtain ⟨A0, c0, A1, c1, hb, hg, hr0, hr1⟩ := h
  exact ⟨A0, c0, A1, c1, blk_kept hb hk hne, hg, hr0, hr1⟩
theorem IsS51.below {w0 W : World} {g : Nat} {f0 : List ByteArray} {f1 : List (S66)} {f2 : Int} {f3 : Bool} {W1 : World} (h : IsS51 w0 W g f0 f1 f2 f3) (hw : Below W.heap.size W W1) : IsS51 w0 W1 g f0 f1 f2 f3 := h.grown (grown_of_below hw none) (by simp)
theorem IsS51.alloc {w0 W : World} {g : Nat} {f0 : List ByteArray} {f1 : List (S66)} {f2 : Int} {f3 : Bool} (h : IsS51 w0 W g f0 f1 f2 f3) (o : Obj) : IsS51 w0 (W.alloc o) g f0 f1 f2 f3 := h.below (below_alloc (Below.refl _ _) o)
theorem IsS51.drewN {w0 W : World} {g : Nat} {f0 : List ByteArray} {f1 : List (S66)} {f2 : Int} {f3 : Bool} (h : IsS51 w0 W g f0 f1 f2 f3) (m : Nat) : IsS51 w0 (W.drewN m) g f0 f1 f2 f3 := h
theorem IsS51.drew {w0 W : World} {g : Nat} {f0 : List ByteArray} {f1 : List (S66)} {f2 : Int} {f3 : Bool} (h : IsS51 w0 W g f0 f1 f2 f3) : IsS51 w0 W.drew g f0 f1 f2 f3 := h
theorem IsS51.at_ {w0 W : World} {g : Nat} {f0 : List ByteArray} {f1 : List (S66)} {f2 : Int} {f3 : Bool} {w' : World} {m : Nat} (hq : W.drewN m = w') (h : IsS51 w0 W g f0 f1 f2 f3) : IsS51 w0 w' g f0 f1 f2 f3 := by subst hq; exact IsS51.drewN h m
theorem IsS51.apart {w0 W : World} {g : Nat} {f0 : List ByteArray} {f1 : List (S66)} {f2 : Int} {f3 : Bool} {α : Type} {d : Kd α} {e : Nat} {base : Nat} {ok : Nat → Prop} {v : Value} {xs : List α} (h : IsS51 w0 W g f0 f1 f2 f3) (ho : d.R e W base ok v xs) (ht : ∀ q, q ∈ e :: d.E → q ≠ 51) : d.R e W base (fun k => ok k ∧ k ≠ g) v xs := by
  obtain ⟨A0, c0, A1, c1, hb, hg, hr0, hr1⟩ := h
  exact Kd.R_types ho hb ht
theorem IsS51.own_ne {w0 W : World} {g : Nat} {f0 : List ByteArray} {f1 : List (S66)} {f2 : Int} {f3 : Bool} {α : Type} {d : Kd α} {e : Nat} {base : Nat} {ok : Nat → Prop} {v : Value} {xs : List α} (h : IsS51 w0 W g f0 f1 f2 f3) (ho : d.R e W base ok v xs) (ht : e ≠ 51) : some g ≠ v.ownBlock := by
  obtain ⟨A0, c0, A1, c1, hb, hg, hr0, hr1⟩ := h
  exact Kd.R_ne ho hb ht
theorem IsS51.apartQ {w0 W : World} {g : Nat} {f0 : List ByteArray} {f1 : List (S66)} {f2 : Int} {f3 : Bool} {α : Type} {d : Kd α} {e : Nat} {base : Nat} {ok : Nat → Prop} {v : Value} {xs : List α} (h : IsS51 w0 W g f0 f1 f2 f3) (ho : d.Q e W base ok v xs) (ht : ∀ q, q ∈ e :: d.E → q ≠ 51) : d.Q e W base (fun k => ok k ∧ k ≠ g) v xs := by
  obtain ⟨A0, c0, A1, c1, hb, hg, hr0, hr1⟩ := h
  exact Kd.Q_types ho hb ht
theorem IsS51.own_neQ {w0 W : World} {g : Nat} {f0 : List ByteArray} {f1 : List (S66)} {f2 : Int} {f3 : Bool} {α : Type} {d : Kd α} {e : Nat} {base : Nat} {ok : Nat → Prop} {v : Value} {xs : List α} (h : IsS51 w0 W g f0 f1 f2 f3) (ho : d.Q e W base ok v xs) (ht : e ≠ 51) : some g ≠ v.ownBlock := by
  obtain ⟨A0, c0, A1, c1, hb, hg, hr0, hr1⟩ := h
  exact Kd.Q_ne ho hb ht
theorem IsS51.apartS {w0 W : World} {g : Nat} {f0 : List ByteArray} {f1 : List (S66)} {f2 : Int} {f3 : Bool} {α : Type} {d : Kd α} {e : Nat} {base : Nat} {ok : Nat → Prop} {v : Value} {xs : List α} (h : IsS51 w0 W g f0 f1 f2 f3) (ho : d.S e W base ok v xs) (ht : ∀ q, q ∈ e :: d.E → q ≠ 51) : d.S e W base (fun k => ok k ∧ k ≠ g) v xs := by
  obtain ⟨A0, c0, A1, c1, hb, hg, hr0, hr1⟩ := h
  exact Kd.S_types ho hb ht
theorem IsS51.own_neS {w0 W : World} {g : Nat} {f0 : List ByteArray} {f1 : List (S66)} {f2 : Int} {f3 : Bool} {α : Type} {d : Kd α} {e : Nat} {base : Nat} {ok : Nat → Prop} {v : Value} {xs : List α} (h : IsS51 w0 W g f0 f1 f2 f3) (ho : d.S e W base ok v xs) (ht : e ≠ 51) : some g ≠ v.ownBlock := by
  obtain ⟨A0, c0, A1, c1, hb, hg, hr0, hr1⟩ := h
  exact Kd.S_ne ho hb ht
theorem IsS51.lt {w0 W : World} {g : Nat} {f0 : List ByteArray} {f1 : List (S66)} {f2 : Int} {f3 : Bool} (h : IsS51 w0 W g f0 f1 f2 f3) : g < W.heap.size := by
  obtain ⟨A0, c0, A1, c1, hb, hg, hr0, hr1⟩ := h
  exact blk_lt hb
theorem IsS51.ge {w0 W : World} {g : Nat} {f0 : List ByteArray} {f1 : List (S66)} {f2 : Int} {f3 : Bool} (h : IsS51 w0 W g f0 f1 f2 f3) : w0.heap.size ≤ g := by
  obtain ⟨A0, c0, A1, c1, hb, hg, hr0, hr1⟩ := h
  exact hg
theorem IsS51.ne_blk {w0 W : World} {g : Nat} {f0 : List ByteArray} {f1 : List (S66)} {f2 : Int} {f3 : Bool} {a : Nat} {cs : Array Value} {t : TypeId} {fr : Nat × Nat} (h : IsS51 w0 W g f0 f1 f2 f3) (hb2 : W.heap[a]? = some (.cells cs t fr)) (ht : t ≠ 51) : g ≠ a := by
  obtain ⟨A0, c0, A1, c1, hb, hg, hr0, hr1⟩ := h
  rintro rfl
  rw [hb] at hb2
  injection hb2 with hb2
  injection hb2 with _ ht2
  exact ht ht2.symm
theorem IsS51.far {w0 W : World} {g : Nat} {f0 : List ByteArray} {f1 : List (S66)} {f2 : Int} {f3 : Bool} {p : Addr} (h : IsS51 w0 W g f0 f1 f2 f3) (hne : g ≠ p.block) (u : Value) : IsS51 w0 (W.setCell p u) g f0 f1 f2 f3 := by
  obtain ⟨A0, c0, A1, c1, hb, hg, hr0, hr1⟩ := h
  exact ⟨A0, c0, A1, c1, blk_far hb hne u, hg, hr0, hr1⟩
theorem cellS51_0 {W : World} {g : Nat} {A0 : Option Addr} {c0 : Nat} {A1 : Option Addr} {c1 : Nat} {f0 : List ByteArray} {f1 : List (S66)} {f2 : Int} {f3 : Bool} (h : W.heap[g]? = some (.cells #[.slice A0 f0.length c0, .slice A1 f1.length c1, .int .i64 f2, .bool f3] 51 (0, 0))) : W.cell? ⟨g, 0, none⟩ = some (.slice A0 f0.length c0) := (blk_cell h 0).trans rfl
theorem cellS51_1 {W : World} {g : Nat} {A0 : Option Addr} {c0 : Nat} {A1 : Option Addr} {c1 : Nat} {f0 : List ByteArray} {f1 : List (S66)} {f2 : Int} {f3 : Bool} (h : W.heap[g]? = some (.cells #[.slice A0 f0.length c0, .slice A1 f1.length c1, .int .i64 f2, .bool f3] 51 (0, 0))) : W.cell? ⟨g, 1, none⟩ = some (.slice A1 f1.length c1) := (blk_cell h 1).trans rfl
theorem cellS51_2 {W : World} {g : Nat} {A0 : Option Addr} {c0 : Nat} {A1 : Option Addr} {c1 : Nat} {f0 : List ByteArray} {f1 : List (S66)} {f2 : Int} {f3 : Bool} (h : W.heap[g]? = some (.cells #[.slice A0 f0.length c0, .slice A1 f1.length c1, .int .i64 f2, .bool f3] 51 (0, 0))) : W.cell? ⟨g, 2, none⟩ = some (.int .i64 f2) := (blk_cell h 2).trans rfl
theorem IsS51.set_2 {w0 W : World} {g : Nat} {f0 : List ByteArray} {f1 : List (S66)} {f2 : Int} {f3 : Bool} (h : IsS51 w0 W g f0 f1 f2 f3) (x : Int) : IsS51 w0 (W.setCell ⟨g, 2, none⟩ (.int .i64 x)) g f0 f1 x f3 := by
  obtain ⟨A0, c0, A1, c1, hb, hg, hr0, hr1⟩ := h
  exact ⟨A0, c0, A1, c1, by simpa using blk_set hb 2 (.int .i64 x), hg, hr0, hr1⟩
theorem cellS51_3 {W : World} {g : Nat} {A0 : Option Addr} {c0 : Nat} {A1 : Option Addr} {c1 : Nat} {f0 : List ByteArray} {f1 : List (S66)} {f2 : Int} {f3 : Bool} (h : W.heap[g]? = some (.cells #[.slice A0 f0.length c0, .slice A1 f1.length c1, .int .i64 f2, .bool f3] 51 (0, 0))) : W.cell? ⟨g, 3, none⟩ = some (.bool f3) := (blk_cell h 3).trans rfl
theorem IsS51.set_3 {w0 W : World} {g : Nat} {f0 : List ByteArray} {f1 : List (S66)} {f2 : Int} {f3 : Bool} (h : IsS51 w0 W g f0 f1 f2 f3) (x : Bool) : IsS51 w0 (W.setCell ⟨g, 3, none⟩ (.bool x)) g f0 f1 f2 x := by
  obtain ⟨A0, c0, A1, c1, hb, hg, hr0, hr1⟩ := h
  exact ⟨A0, c0, A1, c1, by simpa using blk_set hb 3 (.bool x), hg, hr0, hr1⟩
theorem IsS51.new (w0 W : World) (A0 : Option Addr) (c0 : Nat) (A1 : Option Addr) (c1 : Nat) (f0 : List ByteArray) (f1 : List (S66)) (f2 : Int) (f3 : Bool) (hB : Below w0.heap.size w0 W) (hr0 : Kd.C Kd.string w0 A0 f0.length f0) (hr1 : Kd.C k66 w0 A1 f1.length f1) : IsS51 w0 (W.alloc (.cells #[.slice A0 f0.length c0, .slice A1 f1.length c1, .int .i64 f2, .bool f3] 51)) W.heap.size f0 f1 f2 f3 := ⟨A0, c0, A1, c1, by simpa using heap_alloc_new W _, hB.size, hr0, hr1⟩

end Go.Proofs.Ytghodkjpjjbcnaa.Q
