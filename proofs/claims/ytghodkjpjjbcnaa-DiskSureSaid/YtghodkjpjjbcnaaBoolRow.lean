/- An argument that is a slice of booleans, read as a list. -/
import Derived.Test.YtghodkjpjjbcnaaQ0
import Derived.Test.YtghodkjpjjbcnaaWSized
import Derived.Deep.Grids
import Derived.SizedLaws
namespace Go.Proofs.Ytghodkjpjjbcnaa.RR
open Go.RowKit Go.ChangeShapes Go.WideShapes Go.Proofs.YtghodkjpjjbcnaaW.PrintWords

theorem open_boolrow {H : Type} {enc : TypeId × Value → H} {P : Program} {W : World} {base : Nat} {held : Bool} {t e : TypeId} {a : Option Addr} {len cap : Nat} {d : DataW H} {ps : List MemPlace}
    (hu : P.underlying t = some (.slice e)) (he : P.underlying e = some .bool) (ce : P.cellsOf e = 1)
    (h : DataW.Trod enc P W base (fun _ => true) held t (.slice a len cap) d ps) :
    ∃ l : List Bool, len = l.length ∧ Kd.C Kd.bool W a l.length l ∧ l.length ≤ cap := by
  obtain ⟨fuel, hf⟩ := h
  rcases Deep.open_bools hu he ce hf with ⟨hcs, _⟩ | ⟨x, l, c, B, hcs, _, hl, hm, _, hcell⟩
  · simp [Value.cells] at hcs
    obtain ⟨rfl, rfl, rfl⟩ := hcs
    exact ⟨[], rfl, ⟨rfl, by simp, fun h => absurd h (Nat.lt_irrefl 0)⟩, Nat.le_refl _⟩
  · simp [Value.cells] at hcs
    obtain ⟨rfl, rfl, rfl⟩ := hcs
    have hm' : cap ≤ 9223372036854775807 := hm
    refine ⟨(List.range len).map B, by simp, ⟨rfl, by simp; omega, fun _ => ⟨x, rfl, fun r p hp => ⟨[.bool p], rfl, rfl, fun i u hu' => ?_⟩⟩⟩, by simpa using hl⟩
    have hi : i = 0 := by
      rcases i with _ | i
      · rfl
      · simp at hu'
    subst hi
    have hu2 : u = .bool p := by simpa using hu'.symm
    have hr : r < len := by
      have := (List.getElem?_eq_some_iff.1 hp).1
      simpa using this
    rw [List.getElem?_map, List.getElem?_range hr] at hp
    injection hp with hp
    subst hp
    have e0 : r * Kd.bool.sz + 0 = r := by show r * 1 + 0 = r; omega
    rw [hu2, e0]
    exact hcell r (by omega)
end Go.Proofs.Ytghodkjpjjbcnaa.RR
