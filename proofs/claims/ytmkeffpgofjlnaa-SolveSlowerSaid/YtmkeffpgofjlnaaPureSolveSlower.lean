/- The law SolveSlower: where no gain ever grows, slot by slot is as good as the best: for any numbers and lists. -/
import Derived.Test.YtmkeffpgofjlnaaQLawSolveSlower
import Derived.Test.YtmkeffpgofjlnaaSolveOpt
namespace Go.Proofs.Ytmkeffpgofjlnaa.Pure
open Go.RowKit Go.Proofs.Ytmkeffpgofjlnaa.Q Go.Proofs.Ytmkeffpgofjlnaa.SD Go.Proofs.Ytmkeffpgofjlnaa.SR Go.Proofs.Ytmkeffpgofjlnaa.SF Go.Proofs.Ytmkeffpgofjlnaa.SO Go.Proofs.YtmkeffpgofjlnaaW.PrintWords Go.Proofs.YtmkeffpgofjlnaaW.PrintLast Go.Proofs.YtmkeffpgofjlnaaW.PrintMore

theorem slower_awake : stowagelaw12_awake.f = some true := rfl

/-- A curve in the making: from 0 on, its gains never grow, none is below the last one. -/
structure Slow (c : List Int) (last : Int) : Prop where
  len : 1 ≤ c.length
  len2 : c.length ≤ 101
  zero : c.getD 0 0 = 0
  l0 : 0 ≤ last
  l1 : last ≤ 65535
  up : ∀ i : Nat, i + 1 < c.length → last ≤ c.getD (i + 1) 0 - c.getD i 0 ∧ c.getD (i + 1) 0 - c.getD i 0 ≤ 65535
  slow : ∀ i : Nat, i + 2 < c.length → c.getD (i + 2) 0 - c.getD (i + 1) 0 ≤ c.getD (i + 1) 0 - c.getD i 0
theorem Slow.start : Slow [0] 65535 := ⟨by decide, by decide, rfl, by decide, by decide, fun i h => by simp at h, fun i h => by simp at h⟩
theorem getD_app (c : List Int) (x : Int) (i : Nat) : (c ++ [x]).getD i 0 = if i < c.length then c.getD i 0 else if i = c.length then x else 0 := by
  rw [List.getD_eq_getElem?_getD]
  by_cases h : i < c.length
  · rw [if_pos h, List.getElem?_append_left h, ← List.getD_eq_getElem?_getD]
  · rw [if_neg h, List.getElem?_append_right (by omega)]
    by_cases h2 : i = c.length
    · rw [if_pos h2, h2, Nat.sub_self]; rfl
    · rw [if_neg h2, List.getElem?_eq_none (by simp; omega)]; rfl
theorem Slow.more {c : List Int} {last x : Int} (h : Slow c last) (hx0 : 0 ≤ x) (hx : x ≤ last) (hl : c.length ≤ 100) : Slow (c ++ [c.getD (c.length - 1) 0 + x]) x := by
  have hlen := h.len
  refine ⟨by simp, by simp; omega, ?_, hx0, by have := h.l1; omega, fun i hi => ?_, fun i hi => ?_⟩
  · rw [getD_app, if_pos (by omega)]; exact h.zero
  · simp only [List.length_append, List.length_cons, List.length_nil] at hi
    rw [getD_app, getD_app, if_pos (show i < c.length by omega)]
    by_cases e : i + 1 < c.length
    · rw [if_pos e]; have := h.up i e; omega
    · rw [if_neg e, if_pos (by omega), show c.length - 1 = i by omega]
      have := h.l1
      omega
  · simp only [List.length_append, List.length_cons, List.length_nil] at hi
    rw [getD_app, getD_app, getD_app, if_pos (show i < c.length by omega), if_pos (show i + 1 < c.length by omega)]
    by_cases e : i + 2 < c.length
    · rw [if_pos e]; exact h.slow i e
    · rw [if_neg e, if_pos (by omega), show c.length - 1 = i + 1 by omega]
      have := h.up i (by omega)
      omega
theorem Slow.bound {c : List Int} {last : Int} (h : Slow c last) : ∀ i : Nat, i < c.length → 0 ≤ c.getD i 0 ∧ c.getD i 0 ≤ 65535 * (i : Int)
  | 0, _ => by rw [h.zero]; omega
  | i + 1, hi => by
    have ih := Slow.bound h i (by omega)
    have := h.up i hi
    have := h.l0
    omega
theorem Slow.sound {c : List Int} {last : Int} (h : Slow c last) : soundB c = true := by
  have := h.len2
  refine (soundB_iff c).2 ⟨h.len, by omega, fun i hi => ?_, fun i hi => ?_⟩
  · have := h.bound i hi; omega
  · have := h.up i hi; have := h.l0; omega
theorem Slow.gn {c : List Int} {last : Int} (h : Slow c last) (s : Nat) : gn c (s : Int) = if s + 1 < c.length then c.getD (s + 1) 0 - c.getD s 0 else 0 := by
  have hl := h.len
  unfold SF.gn at_
  rw [if_neg (show ¬ c.length = 0 by omega), if_neg (show ¬ c.length = 0 by omega), if_neg (by omega), if_neg (by omega)]
  by_cases e : s + 1 < c.length
  · rw [if_pos e, Int.min_eq_left (by omega), Int.min_eq_left (by omega), show ((s : Int) + 1).toNat = s + 1 by omega, Int.toNat_natCast]
  · rw [if_neg e, Int.min_eq_right (by omega)]
    rw [show min (s : Int) ((c.length : Int) - 1) = (c.length : Int) - 1 by omega]
    omega
theorem Slow.step {c : List Int} {last : Int} (h : Slow c last) (s : Nat) : SF.gn c ((s + 1 : Nat) : Int) ≤ SF.gn c (s : Int) := by
  rw [h.gn, h.gn]
  by_cases e : s + 1 + 1 < c.length
  · rw [if_pos e, if_pos (by omega)]; exact h.slow s e
  · rw [if_neg e]
    split
    · rename_i h2; have := h.up s h2; have := h.l0; omega
    · exact Int.le_refl _
theorem Slow.concave {c : List Int} {last : Int} (h : Slow c last) : Concave c := by
  have key : ∀ d s : Nat, SF.gn c ((s + d : Nat) : Int) ≤ SF.gn c (s : Int) := by
    intro d
    induction d with
    | zero => intro s; exact Int.le_refl _
    | succ d ih => intro s; have := ih s; have := h.step (s + d); rw [← Nat.add_assoc]; omega
  intro s t h0 h1
  obtain ⟨a, rfl⟩ := Int.eq_ofNat_of_zero_le h0
  obtain ⟨b, rfl⟩ := Int.eq_ofNat_of_zero_le (Int.le_trans h0 h1)
  have := key (b - a) a
  rwa [show a + (b - a) = b by omega] at this

theorem slower_ev (c : List Int) (last : Int) (h : Slow c last) : ∀ (d i : Nat), i + d = c.length → Ev (fun k => stowageref12_Slower.l0 k c (i : Int)) true
  | 0, i, hi => by
    refine Ev.step (f := fun _ => some _) (fun k => ?_) (Ev.now _)
    simp only [stowageref12_Slower.l0]
    rw [if_neg (by omega)]
  | d + 1, i, hi => by
    have hl := h.len2
    refine Ev.step (f := fun k => (stowageref12_gain.f k c ((i + 1 : Nat) : Int)).bind fun t125 => (stowageref12_gain.f k c (i : Int)).bind fun t126 => if t125 > t126 then some false else stowageref12_Slower.l0 k c ((i + 1 : Nat) : Int)) (fun k => ?_) ?_
    · simp only [stowageref12_Slower.l0]
      rw [if_pos (by omega), w64 (by omega) (by omega)]
      rfl
    · refine Ev.bind (gain_ev c _ h.sound (by omega) (by omega)) (Ev.bind (gain_ev c _ h.sound (by omega) (by omega)) ?_)
      have := h.step i
      exact Ev.congr (fun k => by rw [if_neg (by omega)]) (slower_ev c last h d (i + 1) (by omega))

section
variable (a : Int) (ha : 0 ≤ a ∧ a ≤ 255)
include ha

omit ha in
theorem slower_l2 (cs : List (List Int)) (hcs : ∀ c ∈ cs, ∃ last, Slow c last) (hl : cs.length ≤ 12) (g : List Int) (v : Int) (hg : g.length = cs.length) (hv : sumOf g cs = v) : ∀ (d i : Nat), i + d = cs.length →
    Ev (fun k => stowagelaw12_SolveSlower.l2 k cs g 0 v 0 (i : Int)) true
  | 0, i, hi => by
    refine Ev.step (f := fun k => (stowageref12_Sum.f k g cs).bind fun t167 => some (t167 == v)) (fun k => ?_) (Ev.bind (sum_ev g cs (by omega) (by omega) (fun c h => (hcs c h).elim fun _ h => h.sound)) ?_)
    · simp only [stowagelaw12_SolveSlower.l2]
      rw [if_neg (by omega), slower_awake, Option.bind_some, if_pos rfl, if_pos trivial, if_pos trivial]
    · rw [hv, beq_self_eq_true]
      exact Ev.now _
  | d + 1, i, hi => by
    obtain ⟨last, hS⟩ := hcs _ (getD_mem cs i (by omega) [])
    refine Ev.step (f := fun k => (stowageref12_Slower.f k (cs.getD i [])).bind fun t169 => if t169 = true then (stowageref11_Sound.f k (cs.getD i [])).bind fun t171 => if t171 = true then stowagelaw12_SolveSlower.l2 k cs g 0 v 0 ((i + 1 : Nat) : Int) else some false else some false) (fun k => ?_) ?_
    · simp only [stowagelaw12_SolveSlower.l2]
      rw [if_pos (by omega), if_pos (by omega), rdL_nat, w64 (by omega) (by omega)]
      rfl
    · have hb := slower_ev _ last hS (cs.getD i []).length 0 (by omega)
      have hs := rsound_ev (cs.getD i [])
      rw [hS.sound] at hs
      refine Ev.bind (show Ev (fun k => stowageref12_Slower.f k (cs.getD i [])) true from hb) ?_
      refine Ev.congr (fun k => by rw [if_pos rfl]) (Ev.bind hs ?_)
      exact Ev.congr (fun k => by rw [if_pos rfl]) (slower_l2 cs hcs hl g v hg hv d (i + 1) (by omega))

theorem slower_end (cs : List (List Int)) (hcs : ∀ c ∈ cs, ∃ last, Slow c last) (hl : cs.length ≤ 12) (x1 : List (List Int)) (x6 : Int) : Ev (fun k => stowagelaw12_SolveSlower.j1 k a x1 cs x6 false) true := by
  by_cases h0 : cs.length = 0
  · refine Ev.step (f := fun _ => some _) (fun k => ?_) (Ev.now _)
    simp only [stowagelaw12_SolveSlower.j1, Bool.false_eq_true, if_false]
    rw [if_pos (by omega), slower_awake]
    rfl
  · have hs : ∀ c ∈ cs, soundB c = true := fun c h => (hcs c h).elim fun _ h => h.sound
    have hlen : ∀ c ∈ cs, c.length ≤ 9223372036854775807 := fun c h => (hcs c h).elim fun _ h => by have := h.len2; omega
    have hrep : ∀ x ∈ List.replicate cs.length (0 : Int), x = 0 := fun x hx => (List.mem_replicate.1 hx).2
    have hzsum : ∀ n : Nat, (List.replicate n (0 : Int)).sum = 0 := by
      intro n
      induction n with
      | zero => rfl
      | succ n ih => rw [List.replicate_succ, List.sum_cons, ih]; rfl
    have hr : rightE a (List.replicate cs.length 0) cs = (a, 0) := by
      unfold rightE
      rw [if_neg (by rw [List.length_replicate]; omega), if_neg, if_neg, hzsum, if_neg (by omega), Int.sub_zero]
      · simp only [List.any_eq_true, Bool.not_eq_true', not_exists, not_and, Bool.not_eq_false]
        exact hs
      · simp only [List.any_eq_true, Bool.or_eq_true, decide_eq_true_eq, not_exists, not_and]
        intro x hx
        have := hrep x hx
        omega
    obtain ⟨n, hn⟩ := Int.eq_ofNat_of_zero_le ha.1
    subst hn
    have eb : best (n : Int) (List.replicate cs.length 0) cs = (SD.follow (List.replicate cs.length 0) (tab (List.replicate cs.length 0) cs n) n, V (List.replicate cs.length 0) cs n n, 0) := by
      unfold best
      rw [hr, if_pos rfl]
      rfl
    have eg : greedyE (n : Int) (List.replicate cs.length 0) cs = (greedy cs (List.replicate cs.length 0) n, 0) := by
      unfold greedyE
      rw [hr, if_pos rfl]
      rfl
    have hg := greedy_ev (n : Int) (List.replicate cs.length 0) cs (by omega) hlen
    rw [eg] at hg
    have hlr : (List.replicate cs.length (0 : Int)).length = cs.length := List.length_replicate
    have hV := V_nonneg n _ cs hlr h0 hs n (Nat.le_refl _)
    have o := opt n _ cs hlr hs n (Nat.le_refl _)
    obtain ⟨o1, o2, o3, o4⟩ := o.1 hV
    obtain ⟨s1, s2⟩ := greedy_sum cs h0 n _ hlr
    have s3 := greedy_length cs n (List.replicate cs.length 0)
    have up := (o.2 _ (by omega) s1 s2).2
    have dn := greedy_best cs h0 hs (fun c h => (hcs c h).elim fun _ h => h.concave) n _ hlr (fun i hi => by rw [getD_at _ _ (by omega)]; simp) _ o1 o2 o3
    have fin := slower_l2 cs hcs hl (greedy cs (List.replicate cs.length 0) n) (V (List.replicate cs.length 0) cs n n) (by omega) (by omega) cs.length 0 (by omega)
    refine Ev.step (f := fun k => (solve_Greedy.f k (n : Int) (List.replicate cs.length 0) cs).bind fun bt157 => stowagelaw12_SolveSlower.l2 k cs bt157.1 bt157.2 (V (List.replicate cs.length 0) cs n n) 0 0) (fun k => ?_) (Ev.bind hg fin)
    simp only [stowagelaw12_SolveSlower.j1, Bool.false_eq_true, if_false]
    rw [if_neg (by omega), if_pos (by omega), if_pos (by omega), Option.bind_some, w64 (by omega) (by omega), Int.toNat_natCast]
    unfold solve_Best.f
    rw [eb]
    rfl

omit ha in
theorem slower_l1 (x1 : List (List Int)) (hx : ∀ l ∈ x1, l.length ≤ 9223372036854775807 ∧ ∀ x ∈ l, 0 ≤ x ∧ x ≤ 65535) (cs : List (List Int)) (hl : cs.length < 12) (i : Nat) (hi : i < x1.length) (hil : i < 12)
    (next : ∀ c last, Slow c last → Ev (fun k => stowagelaw12_SolveSlower.l0 k a x1 (cs ++ [c]) ((i + 1 : Nat) : Int)) true) : ∀ (d : Nat) (c : List Int) (last : Int), c.length + d = 101 → Slow c last →
    Ev (fun k => stowagelaw12_SolveSlower.l1 k a x1 cs (i : Int) c last ((c.length - 1 : Nat) : Int)) true
  | d, c, last, hd, hS => by
    obtain ⟨hgl, hgx⟩ := hx _ (getD_mem x1 i hi [])
    have hr : rd_L3 x1 (i : Int) = x1.getD i [] := by simp [rd_L3]
    have hlen := hS.len
    have done : Ev (fun k => stowagelaw12_SolveSlower.j3 k a x1 cs (i : Int) c last ((c.length - 1 : Nat) : Int) false) true := by
      refine Ev.step (fun k => ?_) (next c last hS)
      simp only [stowagelaw12_SolveSlower.j3, Bool.false_eq_true, if_false]
      rw [if_pos (by omega), w64 (by omega) (by omega)]
      rfl
    by_cases c1 : ((c.length - 1 : Nat) : Int) < ((x1.getD i []).length : Int)
    · by_cases c2 : ((c.length - 1 : Nat) : Int) < 100
      · cases d with
        | zero => omega
        | succ d =>
          have hgi := hgx _ (getD_mem (x1.getD i []) (c.length - 1) (by omega) 0)
          have hb := hS.bound (c.length - 1) (by omega)
          have h0 := hS.l0
          have h1 := hS.l1
          refine Ev.step (f := fun k => stowagelaw12_SolveSlower.j3 k a x1 cs (i : Int) c last ((c.length - 1 : Nat) : Int) true) (fun k => ?_) ?_
          · simp only [stowagelaw12_SolveSlower.l1]
            rw [if_pos (by omega), if_pos (by omega), hr, if_pos c1, decide_eq_true c2]
          · by_cases c3 : (x1.getD i []).getD (c.length - 1) 0 < last
            · have ih := slower_l1 x1 hx cs hl i hi hil next d _ _ (by simp; omega) (hS.more hgi.1 (by omega) (by omega))
              refine Ev.step (fun k => ?_) ih
              simp only [stowagelaw12_SolveSlower.j3, if_true]
              rw [if_pos (by omega), if_pos (by omega), if_pos (by omega), hr, if_pos c1, rd_nat, w64 (x := (x1.getD i []).getD (c.length - 1) 0) (by omega) (by omega), if_pos c3, if_pos (by omega), if_pos (by omega), rd_nat, w64 (x := c.getD (c.length - 1) 0 + (x1.getD i []).getD (c.length - 1) 0) (by omega) (by omega), w64 (x := ((c.length - 1 : Nat) : Int) + 1) (by omega) (by omega)]
              rw [show (((c ++ [c.getD (c.length - 1) 0 + (x1.getD i []).getD (c.length - 1) 0]).length - 1 : Nat) : Int) = ((c.length - 1 : Nat) : Int) + 1 by simp; omega]
            · have ih := slower_l1 x1 hx cs hl i hi hil next d _ _ (by simp; omega) (hS.more h0 (Int.le_refl _) (by omega))
              refine Ev.step (fun k => ?_) ih
              simp only [stowagelaw12_SolveSlower.j3, if_true]
              rw [if_pos (by omega), if_pos (by omega), if_pos (by omega), hr, if_pos c1, rd_nat, w64 (x := (x1.getD i []).getD (c.length - 1) 0) (by omega) (by omega), if_neg c3, if_pos (by omega), if_pos (by omega), rd_nat, w64 (x := c.getD (c.length - 1) 0 + last) (by omega) (by omega), w64 (x := ((c.length - 1 : Nat) : Int) + 1) (by omega) (by omega)]
              rw [show (((c ++ [c.getD (c.length - 1) 0 + last]).length - 1 : Nat) : Int) = ((c.length - 1 : Nat) : Int) + 1 by simp; omega]
      · refine Ev.step (fun k => ?_) done
        simp only [stowagelaw12_SolveSlower.l1]
        rw [if_pos (by omega), if_pos (by omega), hr, if_pos c1, decide_eq_false c2]
    · refine Ev.step (fun k => ?_) done
      simp only [stowagelaw12_SolveSlower.l1]
      rw [if_pos (by omega), if_pos (by omega), hr, if_neg c1]

theorem slower_l0 (x1 : List (List Int)) (hx : ∀ l ∈ x1, l.length ≤ 9223372036854775807 ∧ ∀ x ∈ l, 0 ≤ x ∧ x ≤ 65535) : ∀ (d i : Nat) (cs : List (List Int)), i + d = 12 → cs.length = i → (∀ c ∈ cs, ∃ last, Slow c last) →
    Ev (fun k => stowagelaw12_SolveSlower.l0 k a x1 cs (i : Int)) true
  | d, i, cs, hi, hl, hcs => by
    by_cases c1 : (i : Int) < (x1.length : Int)
    · by_cases c2 : (i : Int) < 12
      · cases d with
        | zero => omega
        | succ d =>
          have l1 := slower_l1 a x1 hx cs (by omega) i (by omega) (by omega) (fun c last hS => slower_l0 x1 hx d (i + 1) (cs ++ [c]) (by omega) (by simp [hl]) (fun c' h => by
            rcases List.mem_append.1 h with h | h
            · exact hcs c' h
            · rw [List.mem_singleton.1 h]; exact ⟨last, hS⟩)) 100 [0] 65535 (by decide) Slow.start
          refine Ev.step (f := fun k => stowagelaw12_SolveSlower.j1 k a x1 cs (i : Int) true) (fun k => ?_) (Ev.step (fun k => ?_) l1)
          · simp only [stowagelaw12_SolveSlower.l0]
            rw [if_pos c1, decide_eq_true c2]
          · simp only [stowagelaw12_SolveSlower.j1, if_true]
            rfl
      · refine Ev.step (fun k => ?_) (slower_end a ha cs hcs (by omega) x1 (i : Int))
        simp only [stowagelaw12_SolveSlower.l0]
        rw [if_pos c1, decide_eq_false c2]
    · refine Ev.step (fun k => ?_) (slower_end a ha cs hcs (by omega) x1 (i : Int))
      simp only [stowagelaw12_SolveSlower.l0]
      rw [if_neg c1]
end
theorem SolveSlower (a : Int) (ha : 0 ≤ a ∧ a ≤ 255) (x1 : List (List Int)) (hx : ∀ l ∈ x1, l.length ≤ 9223372036854775807 ∧ ∀ x ∈ l, 0 ≤ x ∧ x ≤ 65535) : Ev (fun k => stowagelaw12_SolveSlower.f k a x1) true :=
  slower_l0 a ha x1 hx 12 0 [] (by decide) rfl (fun c h => by simp at h)

theorem wf_u8 {x : Int} (h : (Lit.int .u8 x).wf = true) : 0 ≤ x ∧ x ≤ 255 := by
  simp [Lit.wf, IntKind.min, IntKind.max, IntKind.bits, IntKind.signed] at h
  omega
theorem wf_u16 {x : Int} (h : (Lit.int .u16 x).wf = true) : 0 ≤ x ∧ x ≤ 65535 := by
  simp [Lit.wf, IntKind.min, IntKind.max, IntKind.bits, IntKind.signed] at h
  omega
theorem slower_walk (a0 : Int) (ha : (Lit.int .u8 a0).wf = true) (A1 : Option Addr) (c1 : Nat) (l1 : List (List Int)) (w : World) (hr1 : Kd.C (Kd.slice 42 (Kd.int .u16)) w A1 l1.length l1) (hc1 : l1.length ≤ c1) (hl : ∀ l ∈ l1, l.length ≤ 9223372036854775807 ∧ ∀ x ∈ l, (Lit.int .u16 x).wf = true) :
    Calls Try.prog 6 #[.int .u8 a0, .slice A1 l1.length c1] w fun e w' => e = .returned (.bool true) ∧ Below w.heap.size w w' := by
  obtain ⟨k, hk⟩ := (SolveSlower a0 (wf_u8 ha) l1 (fun l h => ⟨(hl l h).1, fun x hx => wf_u16 ((hl l h).2 x hx)⟩)).rounds
  exact stowagelaw12_SolveSlower.calls k a0 A1 c1 l1 true w hr1 hc1 hk

end Go.Proofs.Ytmkeffpgofjlnaa.Pure
