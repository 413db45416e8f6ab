/- Words for the walks that write many texts. -/
import Derived.Test.YtghodkjpjjbcnaaLimitsWalk
import Derived.Test.YtghodkjpjjbcnaaOwnWalk
namespace Go.Proofs.Ytghodkjpjjbcnaa.DO
open Go.RowKit Go.Proofs.Ytghodkjpjjbcnaa.DM Go.Proofs.YtghodkjpjjbcnaaW.PrintWords Go.Proofs.YtghodkjpjjbcnaaW.PrintLast Go.Proofs.YtghodkjpjjbcnaaW.PrintMore

theorem info9 : (Try.prog.info? 9).map (fun i => (i.zero, i.size, i.bytes)) = some (some (.string ByteArray.empty), 1, 16) := by kernel_rfl
/-- A row of a row of rows. -/
theorem at_row {q : Nat} {k : IntKind} {w : World} {A : Option Addr} {n : Nat} {l : List (List Int)} (h : Kd.C (Kd.slice q (Kd.int k)) w A n l) (i : Nat) (hi : i < l.length) : ∃ ad Ai ci, A = some ad ∧ w.cell? (ad.add i) = some (.slice Ai (l.getD i []).length ci) ∧ Kd.C (Kd.int k) w Ai (l.getD i []).length (l.getD i []) := by
  obtain ⟨ad, e, hc⟩ := h.2.2 (by have := h.1; omega)
  obtain ⟨cs, _, ⟨Ai, ci, e2, _, hC⟩, hu⟩ := hc i (l.getD i []) (by rw [List.getD_eq_getElem?_getD, List.getElem?_eq_getElem hi]; rfl)
  subst e2
  refine ⟨ad, Ai, ci, e, ?_, hC⟩
  have := hu 0 _ rfl
  rwa [show i * (Kd.slice q (Kd.int k)).sz + 0 = i by show i * 1 + 0 = i; omega] at this
/-- A number of an argument. -/
theorem at_num {k : IntKind} {w : World} {A : Option Addr} {l : List Int} (h : Kd.C (Kd.int k) w A l.length l) (i : Nat) (hi : i < l.length) : ∃ ad, A = some ad ∧ w.cell? (ad.add i) = some (.int k (l.getD i 0)) := by
  obtain ⟨ad, e, hc⟩ := h.2.2 (by omega)
  obtain ⟨cs, _, h2, hu⟩ := hc i (l.getD i 0) (by rw [List.getD_eq_getElem?_getD, List.getElem?_eq_getElem hi]; rfl)
  refine ⟨ad, e, ?_⟩
  have e2 : cs = [.int k (l.getD i 0)] := h2
  subst e2
  have := hu 0 _ rfl
  rwa [show i * (Kd.int k).sz + 0 = i by show i * 1 + 0 = i; omega] at this
theorem crash_at2 {w : World} {base : Nat} {Ex : Nat → Prop} {gd : Nat} {d : D} (h : At w base Ex gd d) (hE : ∀ k, Ex k → k < w.heap.size) (hb : base ≤ w.heap.size) (hp : d.pen.length ≤ 1000000) (Ak : Option Addr) (ck : Nat) (keep : List Bool) (hk : Kd.C Kd.bool w Ak keep.length keep) (hkf : ∀ ad, Ak = some ad → 0 < keep.length → ad.block < base ∨ Ex ad.block) :
    Calls Try.prog 14 #[.pointer (some ⟨gd, 0, none⟩), .slice Ak keep.length ck] w fun e w' => e = .returned (.tuple #[]) ∧ At w' base Ex gd (crD d keep) ∧ DM.Kept base Ex w w' := by
  obtain ⟨gl, gn, pv, hI, hF⟩ := h
  refine (crash_good hI hp Ak ck keep hk (fun ad ha h0 q hq e => ?_)).mono ?_
  · have h1 := hF q hq
    rcases hkf ad ha h0 with h | h
    · omega
    · exact h1.2 (e ▸ h)
  rintro e w' ⟨h1, h2⟩
  exact ⟨h1, h2.at hF hE hb⟩
/-- An argument's cells lie below what a call makes. -/
theorem bools_lt {w : World} {A : Option Addr} {l : List Bool} (h : Kd.C Kd.bool w A l.length l) (ad : Addr) (ha : A = some ad) (h0 : 0 < l.length) : ad.block < w.heap.size := by
  obtain ⟨ad', e, hx⟩ := Kd.at_bool h 0 (by omega) (by omega)
  rw [ha] at e
  cases e
  have := World.block_lt_of_cell? _ _ hx
  exact this
/-- A disk of L sectors behind at most i writes, with power. -/
def Got (L : Nat) (d : D) (i : Nat) : Prop := d.now.length = L ∧ d.pen.length ≤ i ∧ d.off = false ∧ d.lim = -1 ∧ laid d.las d.pen = d.now
theorem Got.new (L : Nat) : Got L (newD L) 0 := ⟨by show (zeros L).length = L; exact List.length_replicate, Nat.le_refl _, rfl, rfl, rfl⟩
theorem spD_free {d : D} (h : d.lim = -1) : spD d = d := by
  unfold spD
  rw [if_neg (by omega), if_neg (by omega)]
theorem Got.write {L i : Nat} {d : D} (h : Got L d i) (n : Nat) (s : List Int) : Got L (wrD d n s) (i + 1) := by
  obtain ⟨h1, h2, h3, h4, h5⟩ := h
  have e : wrD d n s = { d with now := d.now.set n s, pen := d.pen ++ [((n : Int), s)] } := by unfold wrD; rw [spD_free h4]
  rw [e]
  refine ⟨?_, ?_, h3, h4, ?_⟩
  · show (d.now.set n s).length = L
    rw [List.length_set]; exact h1
  · show (d.pen ++ [((n : Int), s)]).length ≤ _
    rw [List.length_append]; simp; exact h2
  · show laid d.las (d.pen ++ [((n : Int), s)]) = d.now.set n s
    rw [laid_snoc, h5, Int.toNat_natCast]
/-- Behind a flush. -/
theorem Got.flush {L i : Nat} {d : D} (h : Got L d i) : ({ spD d with las := laid d.las d.pen, pen := [] } : D) = ⟨d.now, d.now, [], -1, false⟩ := by
  obtain ⟨h1, h2, h3, h4, h5⟩ := h
  rw [spD_free h4, h5]
  show (⟨d.now, d.now, [], d.lim, d.off⟩ : D) = _
  rw [h3, h4]
theorem crash_clean (now : List (List Int)) (keep : List Bool) : crD ⟨now, now, [], -1, false⟩ keep = ⟨now, now, [], -1, false⟩ := rfl
theorem At.now64 {w : World} {base : Nat} {Ex : Nat → Prop} {gd : Nat} {d : D} (h : At w base Ex gd d) (k : Nat) (hk : k < d.now.length) : (d.now.getD k []).length = 64 := by
  obtain ⟨_, _, _, hI, _⟩ := h
  exact (hI.now.1 k hk).1
/-- The first i sectors, as texts. -/
def wasL (d : D) (i : Nat) : List Value := (List.range i).map fun k => Value.string (strOfNums (d.now.getD k []))
theorem wasL_length (d : D) (i : Nat) : (wasL d i).length = i := by simp [wasL]
theorem wasL_succ (d : D) (i : Nat) : wasL d (i + 1) = wasL d i ++ [.string (strOfNums (d.now.getD i []))] := by simp [wasL, List.range_succ]
theorem wasL_get (d : D) (i j : Nat) (h : j < i) : (wasL d i)[j]? = some (.string (strOfNums (d.now.getD j []))) := by simp [wasL, h]
/-- A row that grew is none of the disk's. -/
theorem At.grown {W w' : World} {base gd g : Nat} {d : D} {v : Value} (h : At W base (fun k => v.ownBlock = some k) gd d) (hg : W.grownBy w' v.ownBlock) (h3 : v.ownBlock = some g ∨ W.heap.size ≤ g) : At w' base (fun k => k = g) gd d := by
  obtain ⟨gl, gn, pv, h1, h2⟩ := h
  refine ⟨gl, gn, pv, h1.move (fun k hk => hg.block k (h1.lt k hk) (fun e => (h2 k hk).2 e.symm)), fun k hk => ⟨(h2 k hk).1, fun e => ?_⟩⟩
  have e2 : k = g := e
  subst e2
  rcases h3 with h3 | h3
  · exact (h2 k hk).2 h3
  · have := h1.lt k hk
    omega
theorem below_grown {w W w' : World} {row : Option Nat} (h : Below w.heap.size w W) (hg : W.grownBy w' row) (hr : ∀ k, row = some k → w.heap.size ≤ k) : Below w.heap.size w w' :=
  ((DM.Kept.of_below_now (Ex := fun _ => False) (base := w.heap.size) h).grown hg (fun k hk => ⟨hr k hk, id⟩)).to_below (Nat.le_refl _)
/-- A disk on which all is flushed. -/
def clean (now : List (List Int)) : D := ⟨now, now, [], -1, false⟩
end Go.Proofs.Ytghodkjpjjbcnaa.DO
