/- An argument that is a slice of slices of numbers, read as a list of lists. -/
import Derived.Test.YtghodkjpjjbcnaaQ0
import Derived.Test.YtghodkjpjjbcnaaWSized
import Derived.Deep.Matrix
import Derived.SizedLaws
namespace Go.Proofs.Ytghodkjpjjbcnaa.RR
open Go.RowKit Go.ChangeShapes Go.WideShapes Go.Proofs.YtghodkjpjjbcnaaW.PrintWords

theorem open_rows {H : Type} {enc : TypeId × Value → H} {P : Program} {W : World} {base : Nat} {held : Bool} {t e q : TypeId} {k : IntKind} {a : Option Addr} {len cap : Nat} {d : DataW H} {ps : List MemPlace} {ts : List TypeId} {ds : List (DataW H)} {j : Nat}
    (hsz : (DataW.weightsEach P ts ds).all (· ≤ reachBytes) = true) (ht : ts[j]? = some t) (hd : ds[j]? = some d) (hu : P.underlying t = some (.slice e)) (he : P.underlying e = some (.slice q)) (hq : P.underlying q = some (.int k)) (ce : P.cellsOf e = 1) (cq : P.cellsOf q = 1) (hB : P.bytesOf e = 24)
    (h : DataW.Trod enc P W base (fun _ => true) held t (.slice a len cap) d ps) :
    ∃ ls : List (List Int), len = ls.length ∧ Kd.C (Kd.slice q (Kd.int k)) W a ls.length ls ∧ ls.length ≤ cap ∧ (∀ l ∈ ls, l.length ≤ 9223372036854775807 ∧ ∀ x ∈ l, (Lit.int k x).wf = true) ∧ ls.length * 24 ≤ 140737488351232 := by
  obtain ⟨fuel, hf⟩ := h
  rcases Deep.open_int_rows hu he hq ce cq hf with ⟨hcs, _⟩ | ⟨x, l, c, A, L, C, Z, hcs, _, hl, hm, hx, hrow⟩
  · simp [Value.cells] at hcs
    obtain ⟨rfl, rfl, rfl⟩ := hcs
    exact ⟨[], rfl, ⟨rfl, by simp, fun h => absurd h (Nat.lt_irrefl 0)⟩, Nat.le_refl _, by simp, by simp⟩
  · simp [Value.cells] at hcs
    obtain ⟨rfl, rfl, rfl⟩ := hcs
    have hm' : cap ≤ 9223372036854775807 := hm
    have hget : ∀ r, r < len → ((List.range len).map fun r => (Z r).take (L r))[r]? = some ((Z r).take (L r)) := by
      intro r hr
      rw [List.getElem?_map, List.getElem?_range hr]
      rfl
    have htl : ∀ r, r < len → ((Z r).take (L r)).length = L r := by
      intro r hr
      obtain ⟨_, h2, _, h4, _⟩ := hrow r (by omega)
      rw [List.length_take]
      omega
    refine ⟨(List.range len).map fun r => (Z r).take (L r), by simp, ⟨rfl, by simp; omega, fun _ => ⟨x, rfl, fun r p hp => ?_⟩⟩, by simpa using hl, fun y hy => ?_, ?_⟩
    · have hr : r < len := by
        have := (List.getElem?_eq_some_iff.1 hp).1
        simpa using this
      rw [hget r hr] at hp
      injection hp with hp
      subst hp
      obtain ⟨h1, h2, h3, h4, h5, h6, h7⟩ := hrow r (by omega)
      have h3' : C r ≤ 9223372036854775807 := h3
      refine ⟨[.slice (A r) (L r) (C r)], rfl, ⟨A r, C r, by rw [htl r hr], by rw [htl r hr]; exact h2, ⟨rfl, by rw [htl r hr]; omega, fun hn => ?_⟩⟩, fun i u hi => ?_⟩
      · rw [htl r hr] at hn
        cases hA : A r with
        | none => have := h6 hA; omega
        | some a' =>
          refine ⟨a', rfl, fun i p hp => ⟨[.int k p], rfl, rfl, fun i' u hu' => ?_⟩⟩
          have hi' : i' = 0 := by
            rcases i' with _ | i'
            · rfl
            · simp at hu'
          subst hi'
          have hu2 : u = .int k p := by simpa using hu'.symm
          have hlt : i < L r := by have := (List.getElem?_eq_some_iff.1 hp).1; rw [htl r hr] at this; exact this
          have hc := (h7 a' hA).2 i (by omega)
          have e0 : i * (Kd.int k).sz + 0 = i := by show i * 1 + 0 = i; omega
          rw [hu2, e0, hc, List.getD_eq_getElem?_getD]
          rw [List.getElem?_take_of_lt hlt] at hp
          rw [hp]
          rfl
      · have hi' : i = 0 := by
          rcases i with _ | i
          · rfl
          · simp at hi
        subst hi'
        have hu2 : u = .slice (A r) (L r) (C r) := by simpa using hi.symm
        have e0 : r * (Kd.slice q (Kd.int k)).sz + 0 = r := by show r * 1 + 0 = r; omega
        rw [hu2, e0]
        exact h1
    · obtain ⟨r, hr, rfl⟩ := List.mem_map.1 hy
      have hr' : r < len := List.mem_range.1 hr
      obtain ⟨h1, h2, h3, h4, h5, h6, h7⟩ := hrow r (by omega)
      have h3' : C r ≤ 9223372036854775807 := h3
      exact ⟨by rw [htl r hr']; omega, fun n hn => h5 n (List.mem_of_mem_take hn)⟩
    · obtain ⟨hx, _⟩ := Prod.mk.inj hx
      subst hx
      have z := sized_slice hsz ht hd hu
      rw [hB] at z
      simp only [List.length_map, List.length_range] at z ⊢
      exact Nat.le_trans (Nat.mul_le_mul_right _ (by omega)) z

end Go.Proofs.Ytghodkjpjjbcnaa.RR
