/- The law SolveEven, walked: curves that are one curve, with gains that fall, get shares that differ by one at most. -/
import Derived.Test.YtmkeffpgofjlnaaQsolveGreedy
import Derived.Test.YtmkeffpgofjlnaaQstowagelaw12awake
import Derived.Test.YtmkeffpgofjlnaaSolveOpt
import Derived.Test.YtmkeffpgofjlnaaSolveMem
import Derived.Lib.Hide
import Derived.RegionTactic
import Derived.LoopTactic
import Derived.Deep.LoopGhost
import Derived.Deep.DeepCutAuto
import Derived.Deep.AppendLies
import Derived.Deep.QuietTactic
import Derived.BigQuiet
namespace Go.Proofs.Ytmkeffpgofjlnaa.EW
open Go.RowKit Go.Proofs.Ytmkeffpgofjlnaa.Q Go.Proofs.Ytmkeffpgofjlnaa.SD Go.Proofs.Ytmkeffpgofjlnaa.SR Go.Proofs.Ytmkeffpgofjlnaa.SF Go.Proofs.Ytmkeffpgofjlnaa.SO Go.Proofs.Ytmkeffpgofjlnaa.SM Go.Proofs.YtmkeffpgofjlnaaW.PrintWords Go.Proofs.YtmkeffpgofjlnaaW.PrintLast Go.Proofs.YtmkeffpgofjlnaaW.PrintMore
attribute [local go_sem] max2_int min2_int max_two min_two

/-! ### The curve, and what slot by slot gives -/
def F : Nat → Int
  | 0 => 0
  | i + 1 => F i + 700 - i
def evL (n : Nat) : List Int := (List.range (n + 1)).map F
theorem evL_length (n : Nat) : (evL n).length = n + 1 := by simp [evL]
theorem evL_get (n i : Nat) (h : i ≤ n) : (evL n).getD i 0 = F i := by
  rw [getD_at _ _ (by rw [evL_length]; omega)]
  simp [evL]
theorem evL_succ (n : Nat) : evL (n + 1) = evL n ++ [F n + 700 - n] := by
  simp only [evL, List.range_succ (n := n + 1), List.map_append, List.map_cons, List.map_nil]
  rfl
theorem F_bound : ∀ i : Nat, i ≤ 600 → 0 ≤ F i ∧ F i ≤ 700 * (i : Int)
  | 0, _ => by simp [F]
  | i + 1, h => by
    have := F_bound i (by omega)
    simp only [F]
    omega
theorem evL_sound : soundB (evL 600) = true := by
  refine (soundB_iff _).2 ⟨by rw [evL_length]; omega, by rw [evL_length]; omega, fun i hi => ?_, fun i hi => ?_⟩
  · rw [evL_length] at hi
    have := F_bound i (by omega)
    rw [evL_get 600 i (by omega)]
    omega
  · rw [evL_length] at hi
    rw [evL_get 600 i (by omega), evL_get 600 (i + 1) (by omega)]
    simp only [F]
    omega
theorem evL_gn (s : Nat) (h : s < 600) : gn (evL 600) (s : Int) = 700 - s := by
  unfold gn at_
  rw [evL_length, if_neg (by omega), if_neg (by omega), if_neg (by omega), if_neg (by omega), show (min ((s : Int) + 1) (((600 + 1 : Nat) : Int) - 1)).toNat = s + 1 by omega, show (min (s : Int) (((600 + 1 : Nat) : Int) - 1)).toNat = s by omega, evL_get 600 s (by omega), evL_get 600 (s + 1) (by omega)]
  simp only [F]
  omega
/-- The first r have one more. -/
def Inv (m : Nat) (out : List Int) (q r : Nat) : Prop := out.length = m ∧ r < m ∧ ∀ i : Nat, i < m → out.getD i 0 = if i < r then ((q + 1 : Nat) : Int) else (q : Int)
theorem inv_pick (m : Nat) (out : List Int) (q r : Nat) (h : Inv m out q r) (hq : q ≤ 512) : ∀ j, j ≤ m → pick (List.replicate m (evL 600)) out j = if j ≤ r then 0 else r
  | 0, _ => by simp [pick]
  | j + 1, hj => by
    have ih := inv_pick m out q r h hq j (by omega)
    have hc : ∀ i : Nat, i < m → (List.replicate m (evL 600)).getD i [] = evL 600 := fun i hi => by rw [getD_at _ _ (by simpa using hi)]; simp
    have g1 := evL_gn q (by omega)
    have g2 := evL_gn (q + 1) (by omega)
    have hr := h.2.1
    unfold pick
    rw [ih]
    rcases Nat.lt_trichotomy j r with h1 | h1 | h1
    · rw [if_pos (show j ≤ r by omega), if_pos (show j + 1 ≤ r by omega), hc j (by omega), hc 0 (by omega), h.2.2 j (by omega), h.2.2 0 (by omega), if_pos h1, if_pos (show 0 < r by omega), if_neg (by omega)]
    · subst h1
      rw [if_pos (show j ≤ j by omega), if_neg (show ¬ j + 1 ≤ j by omega), hc j (by omega), hc 0 (by omega), h.2.2 j (by omega), h.2.2 0 (by omega), if_neg (show ¬ j < j by omega)]
      by_cases h0 : j = 0
      · subst h0
        exact ite_self _
      · rw [if_pos (show 0 < j by omega), if_pos (by omega)]
    · rw [if_neg (show ¬ j ≤ r by omega), if_neg (show ¬ j + 1 ≤ r by omega), hc j (by omega), hc r (by omega), h.2.2 j (by omega), h.2.2 r (by omega), if_neg (show ¬ j < r by omega), if_neg (show ¬ r < r by omega), if_neg (by omega)]
theorem inv_greedy (m : Nat) (hm : 0 < m) : ∀ (t q r : Nat) (out : List Int), Inv m out q r → q + t ≤ 512 → ∃ q' r', Inv m (greedy (List.replicate m (evL 600)) out t) q' r' ∧ q' ≤ 512
  | 0, q, r, out, h, ht => ⟨q, r, h, by omega⟩
  | t + 1, q, r, out, h, ht => by
    have hp := inv_pick m out q r h (by omega) m (Nat.le_refl _)
    have hr := h.2.1
    rw [if_neg (by omega)] at hp
    unfold greedy
    rw [List.length_replicate, hp, h.2.2 r hr, if_neg (Nat.lt_irrefl r)]
    by_cases h1 : r + 1 = m
    · refine inv_greedy m hm t (q + 1) 0 _ ⟨by rw [List.length_set]; exact h.1, hm, fun i hi => ?_⟩ (by omega)
      rw [if_neg (Nat.not_lt_zero i)]
      by_cases e : r = i
      · subst e; rw [SO.getD_set_self _ _ _ _ (by rw [h.1]; exact hi)]; omega
      · rw [SO.getD_set_ne _ _ _ _ _ e, h.2.2 i hi, if_pos (by omega)]
    · refine inv_greedy m hm t q (r + 1) _ ⟨by rw [List.length_set]; exact h.1, by omega, fun i hi => ?_⟩ (by omega)
      by_cases e : r = i
      · subst e; rw [SO.getD_set_self _ _ _ _ (by rw [h.1]; exact hi), if_pos (by omega)]; omega
      · rw [SO.getD_set_ne _ _ _ _ _ e, h.2.2 i hi]
        by_cases h2 : i < r
        · rw [if_pos h2, if_pos (by omega)]
        · rw [if_neg h2, if_neg (by omega)]
/-- What the call answers. -/
theorem even_ans (m : Nat) (hm : 0 < m) (hm16 : m ≤ 16) (K : Int) (hK : 0 ≤ K ∧ K ≤ 512) : ∃ (k : Nat) (G : List Int), solve_Greedy.f k K (List.replicate m 0) (List.replicate m (evL 600)) = some (G, 0) ∧ G.length = m ∧ (∀ i : Nat, i < m → 0 ≤ G.getD i 0 ∧ G.getD i 0 ≤ 600 ∧ G.getD (m - 1) 0 ≤ G.getD i 0 ∧ G.getD i 0 ≤ G.getD (m - 1) 0 + 1) := by
  have hmem : ∀ c ∈ List.replicate m (evL 600), c = evL 600 := fun c h => (List.mem_replicate.1 h).2
  have hmem0 : ∀ x ∈ List.replicate m (0 : Int), x = 0 := fun c h => (List.mem_replicate.1 h).2
  have hzsum : ∀ n : Nat, (List.replicate n (0 : Int)).sum = 0 := by
    intro n
    induction n with
    | zero => rfl
    | succ n ih => rw [List.replicate_succ, List.sum_cons, ih]; rfl
  have hr : rightE K (List.replicate m 0) (List.replicate m (evL 600)) = (K, 0) := by
    unfold rightE
    rw [if_neg (by rw [List.length_replicate, List.length_replicate]; omega), if_neg, if_neg, hzsum, if_neg (by omega), Int.sub_zero]
    · simp only [List.any_eq_true, Bool.not_eq_true', not_exists, not_and, Bool.not_eq_false]
      intro c hc
      rw [hmem c hc]
      exact evL_sound
    · simp only [List.any_eq_true, Bool.or_eq_true, decide_eq_true_eq, not_exists, not_and]
      intro x hx
      have := hmem0 x hx
      omega
  obtain ⟨k, hk⟩ := (greedy_ev K (List.replicate m 0) (List.replicate m (evL 600)) (by rw [List.length_replicate]; omega) (fun c hc => by rw [hmem c hc, evL_length]; omega)).rounds
  unfold greedyE at hk
  rw [hr, if_pos rfl] at hk
  obtain ⟨q, r, hI, hq⟩ := inv_greedy m hm K.toNat 0 0 (List.replicate m 0) ⟨List.length_replicate, hm, fun i hi => by rw [getD_at _ _ (by simpa using hi)]; simp⟩ (by omega)
  refine ⟨k, _, hk, hI.1, fun i hi => ?_⟩
  have hr' := hI.2.1
  rw [hI.2.2 i hi, hI.2.2 (m - 1) (by omega), if_neg (show ¬ m - 1 < r by omega)]
  split <;> omega

theorem grown_below {w0 w w1 : World} {o : Obj} {e : TypeId} {size n : Nat} {v : Value} {xs : List Value} (hb : Below w0.heap.size w0 w) (h : w.ownsRow w0.heap.size e size v n xs) (hg : (w.alloc o).grownBy w1 v.ownBlock) : Below w0.heap.size w0 w1 :=
  (hb.alloc hb.size o).grown hg (by show _ ≤ (w.heap.push o).size; rw [Array.size_push]; exact Nat.le_succ_of_le hb.size) (own_base h)
theorem owns_cell {w : World} {base : Nat} {e : TypeId} {g cap n : Nat} {xs : List Value} (h : w.ownsRow base e 1 (.slice (some ⟨g, 0, none⟩) n cap) n xs) (j : Nat) (hj : j < n) : w.cell? ⟨g, j, none⟩ = xs[j]? := h.cellAt j (by omega)
theorem owns_cap {w : World} {base : Nat} {e : TypeId} {A : Option Addr} {cap n : Nat} {xs : List Value} (h : w.ownsRow base e 1 (.slice A n cap) n xs) : n ≤ cap := by
  rcases h.2 with ⟨h1, h2⟩ | ⟨g, cap', cur, h1, _, _, h4, _⟩
  · omega
  · cases h1; exact h4

theorem C_same {w : World} {base g cap n : Nat} {A : Option Addr} {c : Nat} {L : List Int} (h : w.ownsRow base 40 1 (.slice (some ⟨g, 0, none⟩) n cap) n (List.replicate n (.slice A L.length c))) (hn : n ≤ 16) (hc : L.length ≤ c) (hC : Kd.C (Kd.int .i64) w A L.length L) : Kd.C (Kd.slice 3 (Kd.int .i64)) w (some ⟨g, 0, none⟩) n (List.replicate n L) := by
  refine ⟨List.length_replicate, by omega, fun _ => ⟨_, rfl, fun j p hj => ?_⟩⟩
  obtain ⟨hlt, hp⟩ := List.getElem?_eq_some_iff.1 hj
  rw [List.getElem_replicate] at hp
  rw [List.length_replicate] at hlt
  subst hp
  refine ⟨[.slice A L.length c], rfl, ⟨A, c, rfl, hc, hC⟩, fun i u hu => ?_⟩
  have hi : i = 0 := by
    rcases i with _ | i
    · rfl
    · simp at hu
  subst hi
  have hu' : u = .slice A L.length c := by simpa using hu.symm
  rw [hu', show ((Kd.slice 3 (Kd.int .i64)).sz) = 1 from rfl, Nat.mul_one, Nat.add_zero]
  have e : (⟨g, 0, none⟩ : Addr).add j = ⟨g, j, none⟩ := by unfold Addr.add; split <;> simp_all
  rw [e, owns_cell h j hlt, List.getElem?_replicate_of_lt hlt]
theorem greedy_even {EL : List Int} {k : Nat} {K : Int} {m g7 cap7 g8 cap8 base : Nat} {A : Option Addr} {c L5 : Nat} {G : List Int} {w : World} (hg : solve_Greedy.f k K (List.replicate m 0) (List.replicate m EL) = some (G, 0)) (hm : m ≤ 16) (hL : L5 = EL.length)
    (h7 : w.ownsRow base 40 1 (.slice (some ⟨g7, 0, none⟩) m cap7) m (List.replicate m (.slice A L5 c))) (h8 : w.ownsRow base 3 1 (.slice (some ⟨g8, 0, none⟩) m cap8) m (List.replicate m (.int .i64 0))) (hc : L5 ≤ c) (hC : Kd.C (Kd.int .i64) w A L5 EL) :
    Calls Try.prog 9 #[.int .i64 K, .slice (some ⟨g8, 0, none⟩) m cap8, .slice (some ⟨g7, 0, none⟩) m cap7] w fun e w' => ∃ v0_ : Value, e = .returned (.tuple #[v0_, .int .i64 0]) ∧ Kd.R (Kd.int .i64) 3 w' w.heap.size (fun _ => True) v0_ G ∧ Below w.heap.size w w' := by
  subst hL
  have hC7 := C_same h7 hm hc hC
  have hR8 : Kd.R (Kd.int .i64) 3 w base (fun _ => True) (.slice (some ⟨g8, 0, none⟩) m cap8) (List.replicate m (0 : Int)) := Kd.R_of_own (by rw [List.length_replicate]; simpa [encs] using h8) (fun _ _ => trivial)
  obtain ⟨A8, c8, e8, hl8, hC8⟩ := Kd.R_reads hR8
  have h := solve_Greedy.calls k K (some ⟨g8, 0, none⟩) cap8 (List.replicate m 0) (some ⟨g7, 0, none⟩) cap7 (List.replicate m EL) G 0 w
  simp only [List.length_replicate] at h e8 hl8 hC8
  cases e8
  exact h hC8 hl8 hC7 (owns_cap h7) hg

set_option maxRecDepth 100000 in
set_option maxHeartbeats 2000000 in
theorem even_walk (a0 a1 : Int) (h0 : 0 ≤ a0 ∧ a0 ≤ 65535) (h1 : 0 ≤ a1 ∧ a1 ≤ 255) (w : World) :
    Calls Try.prog 8 #[.int .u16 a0, .int .u8 a1] w fun e w' => e = .returned (.bool true) ∧ Below w.heap.size w w' := by
  obtain ⟨a00, a01⟩ := h0
  obtain ⟨a10, a11⟩ := h1
  obtain ⟨m, hm⟩ := Int.eq_ofNat_of_zero_le (show 0 ≤ a1 % 16 + 1 by omega)
  obtain ⟨k, G, hg, hgl, hG⟩ := even_ans m (by omega) (by omega) (a0 % 513) (by omega)
  have HG := Lib.hid hg
  have HGL := Lib.hid hgl
  have HGB := Lib.hid hG
  have HM := Lib.hid hm
  have m1 : 0 < m := by omega
  have m2 : m ≤ 16 := by omega
  clear hg hG hgl hm
  have hs0 : ∀ (W : World) (o : Obj), (W.alloc o).heap.size = W.heap.size + 1 := fun W o => by show (W.heap.push o).size = _; rw [Array.size_push]
  have HS := Lib.hid hs0
  clear hs0
  go_enter Try.func8, Try.ntmps8
  go_wp2_with fail
  go_loopg [5, 6] 600 (fun kq v5 v6 wr => ∃ i : Nat, v6 = .int .i64 (i : Int) ∧ Hid (i + kq = 600) ∧ Hid (Kd.R (Kd.int .i64) 3 wr w.heap.size (fun _ => True) v5 (evL i)) ∧ Hid (Below w.heap.size w wr))
  case atStart => exact ⟨0, rfl, Lib.hid (by omega), Lib.hid (Kd.R_of_own (xs := evL 0) (World.ownsRow_lit w #[.int .i64 0] 1 (Nat.le_refl _) (by unfold maxLen; omega) rfl) (fun _ _ => trivial)), Lib.hid ((Below.refl _ _).alloc (Nat.le_refl _) _)⟩
  case round =>
    obtain ⟨i, rfl, I0, IR, IB⟩ := hrel
    obtain ⟨g5, cap5, e5, _, _⟩ := (Kd.own_of_R IR.out).form (by rw [evL_length]; omega)
    subst e5
    cases gk with
    | zero =>
      have hi : i = 600 := by have := I0.out; omega
      subst hi
      obtain ⟨A, c, e, hle, hC⟩ := Kd.R_reads IR.out
      cases e
      rename World => wE
      have HLE := Lib.hid hle
      have HCC := Lib.hid hC
      clear hle hC I0
      obtain ⟨L5, hX⟩ : ∃ n, n = (evL 600).length := ⟨_, rfl⟩
      have HX := Lib.hid hX
      rw [← hX]
      clear hX
      go_wp2_with fail
      go_loopg [7, 8, 9] m (fun kq v7 v8 v9 wr => ∃ i : Nat, v9 = .int .i64 (i : Int) ∧ Hid (i + kq = m) ∧ Hid (wr.ownsRow wE.heap.size 40 1 v7 i (List.replicate i (.slice (some ⟨g5, 0, none⟩) L5 cap5))) ∧ Hid (wr.ownsRow wE.heap.size 3 1 v8 i (List.replicate i (.int .i64 0))) ∧ Hid (∀ g, v7.ownBlock = some g → v8.ownBlock ≠ some g) ∧ Hid (Below wE.heap.size wE wr))
      case atStart =>
        refine ⟨0, rfl, Lib.hid (by omega), Lib.hid ?_, Lib.hid ?_, Lib.hid ?_, Lib.hid ?_⟩
        · exact (World.ownsRow_lit wE #[] 0 (Nat.le_refl _) (by unfold maxLen; omega) rfl).alloc _
        · have h := World.ownsRow_lit (base := wE.heap.size) (e := 3) (size := 1) (wE.alloc (.cells #[] 40)) #[] 0 (by rw [HS.out]; omega) (by unfold maxLen; omega) rfl
          rw [HS.out] at h
          exact h
        · intro g h1 h2
          simp [Value.ownBlock] at h1 h2
          omega
        · exact ((Below.refl _ _).alloc (Nat.le_refl _) _).alloc (by rw [HS.out]; omega) _
      case round =>
        obtain ⟨i, rfl, I0, O7, O8, O78, OB⟩ := hrel
        cases gk with
        | zero =>
          have him : i = m := by have := I0.out; omega
          subst him
          have ht : ¬ ((i : Int) < a1 % 16 + 1) := by have := HM.out; omega
          obtain ⟨g7, cap7, e7, _, _⟩ := O7.out.form m1
          obtain ⟨g8, cap8, e8, _, _⟩ := O8.out.form m1
          subst e7 e8
          have HCC2 := Lib.hid (Kd.C_below HCC.out OB.out)
          have HBt := Lib.hid (IB.out.trans (OB.out.mono IB.out.size))
          clear HCC IB OB O78 I0
          rename World => w1
          go_upto_region 13 with fail
          go_cut [11, 12] (fun v11 v12 wd => ∃ gg cg, v11 = .slice (some ⟨gg, 0, none⟩) i cg ∧ v12 = .int .i64 0 ∧ Hid (∀ j : Nat, j < i → wd.cell? ⟨gg, j, none⟩ = some (.int .i64 (G.getD j 0))) ∧ Hid (Below w1.heap.size w1 wd))
          case first =>
            go_wp2_with (go_at_call 9; refine (greedy_even HG.out m2 HX.out O7.out O8.out (by rw [HX.out]; exact HLE.out) (by rw [HX.out]; exact HCC2.out)).mono ?_; rintro e w2 ⟨v, rfl, hR, hB⟩; have QR := Lib.hid hR; have QB := Lib.hid hB; clear hR hB)
            go_meet
            case rel =>
              obtain ⟨gg, cg, e, _, _⟩ := (Kd.own_of_R QR.out).form (by rw [HGL.out]; exact m1)
              subst e
              refine ⟨gg, cg, by rw [HGL.out], rfl, Lib.hid (fun j hj => ?_), QB⟩
              have hc := (Kd.R_cell 0 QR.out (j : Int) (by omega) (by rw [HGL.out]; omega)).1
              rw [Int.toNat_natCast] at hc
              rw [hc]
              unfold rdOf
              rw [Int.toNat_natCast]
          case rest =>
            obtain ⟨gg, cg, rfl, rfl, HCG, HB2⟩ := hcut
            rename World => w2
            go_upto_region 14 with fail
            go_cut [68] (fun v68 we => v68 = .bool false ∧ Hid (Below w2.heap.size w2 we))
            case first =>
              go_wp2_with (go_at_call 11; refine (stowagelaw12_awake.calls true _ rfl).mono ?_; rintro e w3 ⟨rfl, hB⟩; have QB := Lib.hid hB; clear hB)
              go_meet
              case rel => exact ⟨by first | rfl | (simp; done), QB⟩
            case rest =>
              obtain ⟨rfl, HB3⟩ := hcut
              rename World => w3
              have HBe := Lib.hid (HBt.out.trans ((HB2.out.trans (HB3.out.mono HB2.out.size)).mono HBt.out.size))
              have HCG3 : Hid (∀ j : Nat, j < i → w3.cell? ⟨gg, j, none⟩ = some (.int .i64 (G.getD j 0))) := Lib.hid (fun j hj => by
                have h := HCG.out j hj
                exact (HB3.out.cell (p := ⟨gg, j, none⟩) (World.block_lt_of_cell? _ _ h)).trans h)
              clear HCG HB2 HB3 HBt O7 O8 HCC2 HG
              go_wp2_with fail
              go_loopg [13] i (fun kq v13 wr => ∃ j : Nat, v13 = .int .i64 (j : Int) ∧ Hid (j + kq = i) ∧ ∃ n, wr = w3.drewN n)
              case atStart => exact ⟨0, rfl, Lib.hid (by omega), 0, rfl⟩
              case round =>
                obtain ⟨j, rfl, J0, n, rfl⟩ := hrel
                cases gk with
                | zero =>
                  have hj : j = i := by have := J0.out; omega
                  subst hj
                  go_wp2
                  go_ret
                  exact ⟨by first | rfl | (simp; done), pw_below_drewN HBe.out _⟩
                | succ k1 =>
                  have hj : j < i := by have := J0.out; omega
                  have hj' : (j : Int) < (i : Int) := by omega
                  have hj0 : (0 : Int) ≤ (j : Int) := by omega
                  have hc1 := HCG3.out j hj
                  have hc2 := HCG3.out (i - 1) (by omega)
                  have hi1 : ((i : Int) - 1).toNat = i - 1 := by omega
                  obtain ⟨gb0, gb1, gb2, gb3⟩ := HGB.out j hj
                  obtain ⟨lb0, lb1, _, _⟩ := HGB.out (i - 1) (by omega)
                  generalize G.getD j 0 = x at *
                  generalize G.getD (i - 1) 0 = y at *
                  have hd1 : decide (x < y) = false := decide_eq_false (by omega)
                  have hd2 : decide (y + 1 < x) = false := decide_eq_false (by omega)
                  have hii : (0 : Int) ≤ (i : Int) - 1 := by omega
                  have hii2 : (i : Int) - 1 < (i : Int) := by omega
                  clear gb0 gb2
                  go_wp2_with fail
                  go_quiet (fail)
                  go_wp2
                  go_roundg k1
                  case measure => omega
                  case rel => exact ⟨j + 1, by first | rfl | (simp; done), Lib.hid (by have := J0.out; omega), _, rfl⟩
        | succ k1 =>
          have hi : i < m := by have := I0.out; omega
          have ht : (i : Int) < a1 % 16 + 1 := by have := HM.out; omega
          go_upto_region 10 with fail
          go_cut [7] (fun v7 wo => ∃ g cap, v7 = .slice (some ⟨g, 0, none⟩) (i + 1) cap ∧ Hid (wo.ownsRow wE.heap.size 40 1 v7 (i + 1) (List.replicate (i + 1) (.slice (some ⟨g5, 0, none⟩) L5 cap5))) ∧ Hid (wo.ownsRow wE.heap.size 3 1 u8 i (List.replicate i (.int .i64 0))) ∧ Hid (u8.ownBlock ≠ some g) ∧ Hid (Below wE.heap.size wE wo))
          case first =>
            obtain ⟨i0, hi0, hz0, hz1, hz2⟩ := info_parts info40
            have HI := Lib.hid hi0
            have HZ := Lib.hid (And.intro hz0 (And.intro hz1 hz2))
            have HM1 : Hid (i + 1 ≤ maxLen) := Lib.hid (by unfold maxLen; omega)
            have HM2 : Hid ((i + 1) * 24 ≤ 140737488355328) := Lib.hid (by omega)
            have HSZ := Lib.hid OB.out.size
            clear hi0 hz0 hz1 hz2
            go_wp2_with (at_builtin; refine wpList_append_lies _ rfl (.tmp 39) (.tmp 41) 23 rfl wE.heap.size 40 i0 (.slice none 0 0) 1 24 Try.underlying23 HI.out HZ.out.1 HZ.out.2.1 HZ.out.2.2 rfl (by decide) u7 i (List.replicate i (.slice (some ⟨g5, 0, none⟩) L5 cap5)) rfl (O7.out.alloc _) ⟨wr.heap.size, 0, none⟩ 1 1 [.slice (some ⟨g5, 0, none⟩) L5 cap5] rfl rfl (World.news_of_block (cs := #[.slice (some ⟨g5, 0, none⟩) L5 cap5]) (t := 40) (fr := (0, 0)) (heap_alloc_new wr _)) (by simp [Value.oneCell']) (by omega) HM1.out HM2.out (by simp; exact Nat.le_succ_of_le HSZ.out) (wr.heap.size + 1) (by simp) ?_; intro g cap w1 q1 q2 q3 q4; have Q1 := Lib.hid q1; have Q2 := Lib.hid q2; have Q3 := Lib.hid q3; clear q1 q2 q3 q4)
            go_meet
            case rel =>
              refine ⟨g, cap, rfl, Lib.hid ?_, Lib.hid ((O8.out.alloc _).kept Q2.out ?_), Lib.hid ?_, Lib.hid (grown_below OB.out O7.out Q2.out)⟩
              · rw [List.replicate_succ']; exact Q1.out
              · by_cases h : u8.ownBlock = none
                · exact .inl h
                · right
                  intro he
                  cases h7 : u7.ownBlock with
                  | none => rw [h7] at he; exact h he
                  | some x => rw [h7] at he; exact O78.out x h7 he
              · intro he
                rcases Q3.out with h | h
                · exact O78.out g h he
                · have := (O8.out.lt g he).2
                  omega
          case rest =>
            clear O7 O8 O78 OB
            obtain ⟨g7, cap7, rfl, O7, O8, O78, OB⟩ := hcut
            rename World => wo
            obtain ⟨i0, hi0, hz0, hz1, hz2⟩ := info_parts info3
            have HI := Lib.hid hi0
            have HZ := Lib.hid (And.intro hz0 (And.intro hz1 hz2))
            have HM1 : Hid (i + 1 ≤ maxLen) := Lib.hid (by unfold maxLen; omega)
            have HM2 : Hid ((i + 1) * 8 ≤ 140737488355328) := Lib.hid (by omega)
            have HSZ := Lib.hid OB.out.size
            clear hi0 hz0 hz1 hz2
            go_wp2_with (at_builtin; refine wpList_append_lies _ rfl (.tmp 43) (.tmp 44) 22 rfl wE.heap.size 3 i0 (.int .i64 0) 1 8 Try.underlying22 HI.out HZ.out.1 HZ.out.2.1 HZ.out.2.2 rfl (by decide) u8 i (List.replicate i (.int .i64 0)) rfl (O8.out.alloc _) ⟨wo.heap.size, 0, none⟩ 1 1 [.int .i64 0] rfl rfl (World.news_of_block (cs := #[.int .i64 0]) (t := 3) (fr := (0, 0)) (heap_alloc_new wo _)) (by simp [Value.oneCell']) (by omega) HM1.out HM2.out (by simp; exact Nat.le_succ_of_le HSZ.out) (wo.heap.size + 1) (by simp) ?_; intro g cap w1 q1 q2 q3 q4; have Q1 := Lib.hid q1; have Q2 := Lib.hid q2; have Q3 := Lib.hid q3; clear q1 q2 q3 q4)
            go_roundg k1
            case measure => omega
            case rel =>
              refine ⟨i + 1, by first | rfl | (simp; done), Lib.hid (by have := I0.out; omega), Lib.hid ((O7.out.alloc _).kept Q2.out ?_), Lib.hid ?_, Lib.hid ?_, Lib.hid (grown_below OB.out O8.out Q2.out)⟩
              · right
                intro he
                exact O78.out he.symm
              · rw [List.replicate_succ']; exact Q1.out
              · intro x h7 h8
                have e7 : g7 = x := by simpa [Value.ownBlock] using h7
                have e8 : g = x := by simpa [Value.ownBlock] using h8
                subst e7
                rcases Q3.out with h | h
                · rw [e8] at h; exact O78.out h
                · have := (O7.out.lt g7 rfl).2
                  omega
    | succ k1 =>
      have hi : i < 600 := by have := I0.out; omega
      have hcell := (Kd.R_cell 0 IR.out (i : Int) (by omega) (by rw [evL_length]; omega)).1
      rw [Int.toNat_natCast] at hcell
      have hv : rdOf 0 (evL i) (i : Int) = F i := by unfold rdOf; rw [Int.toNat_natCast]; exact evL_get i i (Nat.le_refl _)
      rw [hv] at hcell
      have hFb := F_bound i (by omega)
      obtain ⟨hF0, hF1⟩ := hFb
      obtain ⟨Fi, hFi⟩ : ∃ x, x = F i := ⟨_, rfl⟩
      rw [← hFi] at hcell hF0 hF1
      have EF := Lib.hid hFi
      clear hv hFi
      obtain ⟨i0, hi0, hz0, hz1, hz2⟩ := info_parts info3
      have HI := Lib.hid hi0
      have HZ := Lib.hid (And.intro hz0 (And.intro hz1 hz2))
      have HO := Lib.hid (Kd.own_of_R IR.out)
      rw [evL_length] at HO
      have HM1 : Hid (i + 1 + 1 ≤ maxLen) := Lib.hid (by unfold maxLen; omega)
      have HM2 : Hid ((i + 1 + 1) * 8 ≤ 140737488355328) := Lib.hid (by omega)
      have HSZ := Lib.hid IB.out.size
      clear hi0 hz0 hz1 hz2
      rw [evL_length]
      go_wp2_with (at_builtin; refine wpList_append_lies _ rfl (.tmp 19) (.tmp 27) 40 rfl w.heap.size 3 i0 (.int .i64 0) 1 8 Try.underlying40 HI.out HZ.out.1 HZ.out.2.1 HZ.out.2.2 rfl (by decide) (.slice (some ⟨g5, 0, none⟩) (i + 1) cap5) (i + 1) (encs (Value.int .i64) (evL i)) rfl (HO.out.alloc _) ⟨wr.heap.size, 0, none⟩ 1 1 [.int .i64 (Fi + 700 - i)] rfl rfl (World.news_of_block (cs := #[.int .i64 (Fi + 700 - i)]) (t := 3) (fr := (0, 0)) (heap_alloc_new wr _)) (by simp [Value.oneCell']) (by omega) HM1.out HM2.out (by simp; exact Nat.le_succ_of_le HSZ.out) (wr.heap.size + 1) (by simp) ?_; intro g cap w1 q1 q2 q3 q4; have Q1 := Lib.hid q1; have Q2 := Lib.hid q2; clear q1 q2 q3 q4)
      go_roundg k1
      case measure => omega
      case rel =>
        refine ⟨i + 1, by first | rfl | (simp; done), Lib.hid (by have := I0.out; omega), Lib.hid (Kd.R_of_own ?_ (fun _ _ => trivial)), Lib.hid (grown_below IB.out HO.out Q2.out)⟩
        rw [evL_length, evL_succ, ← EF.out]
        simpa [encs] using Q1.out

theorem wf_u8 {x : Int} (h : (Lit.int .u8 x).wf = true) : 0 ≤ x ∧ x ≤ 255 := by
  simp [Lit.wf, IntKind.min, IntKind.max, IntKind.bits, IntKind.signed] at h
  omega
theorem wf_u16 {x : Int} (h : (Lit.int .u16 x).wf = true) : 0 ≤ x ∧ x ≤ 65535 := by
  simp [Lit.wf, IntKind.min, IntKind.max, IntKind.bits, IntKind.signed] at h
  omega
end Go.Proofs.Ytmkeffpgofjlnaa.EW
