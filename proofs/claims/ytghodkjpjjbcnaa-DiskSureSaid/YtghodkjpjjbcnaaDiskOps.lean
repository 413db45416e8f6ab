/- The calls of a disk that read, or store one field. -/
import Derived.Test.YtghodkjpjjbcnaaDiskMem
import Derived.RegionTactic
import Derived.Deep.QuietTactic
import Derived.BigQuiet
namespace Go.Proofs.Ytghodkjpjjbcnaa.DO
open Go.RowKit Go.Proofs.Ytghodkjpjjbcnaa.DM Go.Proofs.YtghodkjpjjbcnaaW.PrintWords Go.Proofs.YtghodkjpjjbcnaaW.PrintLast Go.Proofs.YtghodkjpjjbcnaaW.PrintMore
attribute [local go_sem] max2_int min2_int max_two min_two

theorem info5 : (Try.prog.info? 5).map (fun i => (i.zero, i.size, i.bytes)) = some (some (.int .u8 0), 1, 1) := by kernel_rfl

/-- Is there power? -/
def rdy (d : D) : Int := if d.off = true then 8 else 0
theorem ready_none (w : World) : Calls Try.prog 23 #[.pointer none] w fun e w' => e = .returned (.int .i64 11) ∧ w' = w := by
  go_enter Try.func23, Try.ntmps23
  go_wp2
  go_ret
  exact ⟨rfl, rfl⟩
theorem ready_calls {w : World} {gd gl gn : Nat} {pv : Value} {d : D} (h : In w gd gl gn pv d) : Calls Try.prog 23 #[.pointer (some ⟨gd, 0, none⟩)] w fun e w' => e = .returned (.int .i64 (rdy d)) ∧ w' = w := by
  have h4 := h.c4
  obtain ⟨off, ho⟩ : ∃ x, x = d.off := ⟨_, rfl⟩
  have er : rdy d = if off = true then 8 else 0 := by rw [ho]; rfl
  rw [← ho] at h4
  rw [er]
  clear er ho h
  cases off with
  | true =>
    go_enter Try.func23, Try.ntmps23
    go_wp2
    go_ret
    exact ⟨rfl, rfl⟩
  | false =>
    go_enter Try.func23, Try.ntmps23
    go_wp2
    go_ret
    exact ⟨rfl, rfl⟩

/-- One of the limit. -/
def spE (d : D) : Int := if d.lim = 0 then 8 else 0
def spD (d : D) : D := if d.lim = 0 then { d with off := true } else if 0 < d.lim then { d with lim := d.lim - 1 } else d
def spW (w : World) (gd : Nat) (d : D) : World := if d.lim = 0 then w.setCell ⟨gd, 4, none⟩ (.bool true) else if 0 < d.lim then w.setCell ⟨gd, 3, none⟩ (.int .i64 (d.lim - 1)) else w
theorem sp_in {w : World} {gd gl gn : Nat} {pv : Value} {d : D} (h : In w gd gl gn pv d) : In (spW w gd d) gd gl gn pv (spD d) := by
  unfold spW spD
  split
  · exact h.setOff true
  · split
    · exact h.setLim _ (by omega)
    · exact h
theorem sp_same (w : World) (gd : Nat) (d : D) : (spW w gd d).os = w.os ∧ (spW w gd d).tape = w.tape ∧ (spW w gd d).output = w.output ∧ (spW w gd d).heap.size = w.heap.size ∧ ∀ k, k ≠ gd → (spW w gd d).heap[k]? = w.heap[k]? := by
  unfold spW
  split
  · exact ⟨rfl, rfl, rfl, size_set _ _ _, fun k hk => Below.heap_setCell _ _ _ _ hk⟩
  · split
    · exact ⟨rfl, rfl, rfl, size_set _ _ _, fun k hk => Below.heap_setCell _ _ _ _ hk⟩
    · exact ⟨rfl, rfl, rfl, rfl, fun _ _ => rfl⟩
theorem spend_calls {w : World} {gd gl gn : Nat} {pv : Value} {d : D} (h : In w gd gl gn pv d) (hm : d.lim ≤ 9223372036854775807) : Calls Try.prog 24 #[.pointer (some ⟨gd, 0, none⟩)] w fun e w' => e = .returned (.int .i64 (spE d)) ∧ w' = spW w gd d := by
  have h3 := h.c3
  have f3 := h.fr 3 (by decide)
  have f4 := h.fr 4 (by decide)
  have h4 := h.c4
  have hlo := h.lo
  unfold spE spW
  clear h
  obtain ⟨L, hL⟩ : ∃ x, x = d.lim := ⟨_, rfl⟩
  rw [← hL] at h3 hm hlo ⊢
  clear hL
  by_cases c1 : L = 0
  · subst c1
    go_enter Try.func24, Try.ntmps24
    go_wp2
    go_ret
    exact ⟨rfl, rfl⟩
  · rw [if_neg c1, if_neg c1]
    by_cases c2 : 0 < L
    · rw [if_pos c2]
      go_enter Try.func24, Try.ntmps24
      go_wp2
      go_ret
      exact ⟨rfl, rfl⟩
    · rw [if_neg c2]
      go_enter Try.func24, Try.ntmps24
      go_wp2
      go_ret
      exact ⟨rfl, rfl⟩

theorem pending_none (w : World) : Calls Try.prog 15 #[.pointer none] w fun e w' => e = .returned (.int .i64 0) ∧ w' = w := by
  go_enter Try.func15, Try.ntmps15
  go_wp2
  go_ret
  exact ⟨rfl, rfl⟩
theorem pen_slice {w : World} {gd gl gn : Nat} {pv : Value} {d : D} (h : In w gd gl gn pv d) : ∃ A c, pv = .slice A d.pen.length c := by
  rcases h.pen.2 with ⟨h1, h2⟩ | ⟨g, cap, cur, h1, _⟩
  · exact ⟨none, 0, by rw [h1, h2]⟩
  · exact ⟨_, _, h1⟩
theorem pending_calls {w : World} {gd gl gn : Nat} {pv : Value} {d : D} (h : In w gd gl gn pv d) : Calls Try.prog 15 #[.pointer (some ⟨gd, 0, none⟩)] w fun e w' => e = .returned (.int .i64 (d.pen.length : Int)) ∧ w' = w := by
  have h2 := h.c2
  obtain ⟨A, c, e⟩ := pen_slice h
  rw [e] at h2
  clear h e
  go_enter Try.func15, Try.ntmps15
  go_wp2
  go_ret
  exact ⟨rfl, rfl⟩
theorem limit_none (n : Int) (w : World) : Calls Try.prog 21 #[.pointer none, .int .i64 n] w fun e w' => e = .returned (.tuple #[]) ∧ w' = w := by
  go_enter Try.func21, Try.ntmps21
  go_wp2
  go_end0
  exact ⟨rfl, rfl⟩
theorem limit_calls {w : World} {gd gl gn : Nat} {pv : Value} {d : D} (h : In w gd gl gn pv d) (n : Int) : Calls Try.prog 21 #[.pointer (some ⟨gd, 0, none⟩), .int .i64 n] w fun e w' => e = .returned (.tuple #[]) ∧ w' = w.setCell ⟨gd, 3, none⟩ (.int .i64 (max n (-1))) := by
  have h3 := h.c3
  have f3 := h.fr 3 (by decide)
  clear h
  have hmx : (if n < -1 then (-1 : Int) else n) = max n (-1) := by split <;> omega
  rw [← hmx]
  clear hmx
  by_cases c1 : n < -1
  · rw [if_pos c1]
    go_enter Try.func21, Try.ntmps21
    go_wp2
    go_end0
    exact ⟨rfl, rfl⟩
  · rw [if_neg c1]
    go_enter Try.func21, Try.ntmps21
    go_wp2
    go_end0
    exact ⟨rfl, rfl⟩

theorem eql_in {P : Program} (w : World) (d : Nat) (t e : TypeId) (a : Addr) (l c : Nat) (h : P.underlying t = some (.slice e)) : (Op.equalIn (d + 1) t (.slice (some a) l c) (.slice none 0 0)).run P w = .ok false w := by
  simp [Op.equalIn, run_underlying h]
theorem eql_nil {P : Program} (w : World) (t e : TypeId) (a : Addr) (l c : Nat) (h : P.underlying t = some (.slice e)) : (binOp .eql t (.slice (some a) l c) (.slice none 0 0)).run P w = .ok (.bool false) w := by
  have h2 : (Op.equal t (.slice (some a) l c) (.slice none 0 0)).run P w = .ok false w := eql_in w _ t e a l c h
  simp [binOp, h2]
theorem range_add {w : World} {b o : Nat} {cs : List Value} (h : w.rangeAt b o cs) : ∀ j u, cs[j]? = some u → w.cell? ((⟨b, o, none⟩ : Addr).add j) = some u := fun j u hu => by
  rw [Addr.add_mid]; exact h j u hu
theorem clone_calls (s : List Int) (b o c : Nat) (w : World) (hl : 0 < s.length) (hm : s.length ≤ 4096) (h : w.rangeAt b o (cellsOf s)) :
    Calls Try.prog 25 #[.slice (some ⟨b, o, none⟩) s.length c] w fun e w' => ∃ v, e = .returned v ∧ Kd.R (Kd.int .u8) 5 w' w.heap.size (fun _ => True) v s ∧ Below w.heap.size w w' := by
  obtain ⟨i0, hi0, hz0, hz1, hz2⟩ := info_parts info5
  have HI := Lib.hid hi0
  have HZ := Lib.hid (And.intro hz0 (And.intro hz1 hz2))
  have HN := Lib.hid (range_add (World.rangeAt_alloc h (.cells #[] 5)))
  have HO := Lib.hid (World.ownsRow_lit (base := w.heap.size) (e := 5) (size := 1) w #[] 0 (Nat.le_refl _) (by unfold maxLen; omega) rfl)
  have H1 : Hid ((cellsOf s).length = s.length * 1) := Lib.hid (by rw [cellsOf_length]; omega)
  have H2 : Hid (0 + s.length ≤ maxLen) := Lib.hid (by unfold maxLen; omega)
  have H3 : Hid ((0 + s.length) * 1 ≤ 140737488355328) := Lib.hid (by omega)
  clear hi0 hz0 hz1 hz2 h
  obtain ⟨n, hn⟩ : ∃ n, n = s.length := ⟨_, rfl⟩
  have EN := Lib.hid hn
  rw [← hn] at H1 H2 H3 hl ⊢
  clear hn hm
  have hnil : ∀ W, (binOp .eql 22 (.slice (some ⟨b, o, none⟩) n c) (.slice none 0 0)).run Try.prog W = .ok (.bool false) W := fun W => eql_nil W 22 5 _ n c Try.underlying22
  go_enter Try.func25, Try.ntmps25
  go_wp2_with (at_builtin; refine wpList_append_lies _ rfl (.tmp 5) (.tmp 6) 22 rfl w.heap.size 5 i0 (.int .u8 0) 1 1 Try.underlying22 HI.out HZ.out.1 HZ.out.2.1 HZ.out.2.2 rfl (by decide) (.slice (some ⟨w.heap.size, 0, none⟩) 0 0) 0 [] rfl HO.out ⟨b, o, none⟩ n c (cellsOf s) rfl H1.out HN.out (cellsOf_one s) hl H2.out H3.out (by simp) (w.heap.size + 1) (by simp) ?_; intro g cap w1 q1 q2 q3 q4; have Q1 := Lib.hid q1; have Q2 := Lib.hid q2; clear q1 q2 q3 q4)
  go_ret
  refine ⟨_, rfl, Kd.R_of_own ?_ (fun _ _ => trivial), ?_⟩
  · have h := Q1.out
    rw [Nat.zero_add, List.nil_append] at h
    rw [← EN.out]
    exact h
  · exact ((Below.refl _ w).alloc (Nat.le_refl _) (.cells #[] 5)).grown Q2.out (by simp) (fun k hk => by simp [Value.ownBlock] at hk; omega)

/-! ### Read, Lasting -/
theorem read_none (n : Int) (w : World) : Calls Try.prog 12 #[.pointer none, .int .i64 n] w fun e w' => e = .returned (.tuple #[.slice none 0 0, .int .i64 11]) ∧ w' = w := by
  go_enter Try.func12, Try.ntmps12
  go_wp2_with (go_at_call 23; refine (ready_none _).mono ?_; rintro e w' ⟨rfl, rfl⟩)
  go_ret2
  exact ⟨rfl, rfl⟩
theorem lasting_none (n : Int) (w : World) : Calls Try.prog 16 #[.pointer none, .int .i64 n] w fun e w' => e = .returned (.tuple #[.slice none 0 0, .int .i64 11]) ∧ w' = w := by
  go_enter Try.func16, Try.ntmps16
  go_wp2
  go_ret2
  exact ⟨rfl, rfl⟩
/-- What a read answers. -/
def rdE (d : D) (n : Int) : Int := if d.off = true then 8 else if n < 0 ∨ (d.now.length : Int) ≤ n then 7 else 0
theorem read_bad {w : World} {gd gl gn : Nat} {pv : Value} {d : D} (h : In w gd gl gn pv d) (n : Int) (hn : rdE d n ≠ 0) : Calls Try.prog 12 #[.pointer (some ⟨gd, 0, none⟩), .int .i64 n] w fun e w' => e = .returned (.tuple #[.slice none 0 0, .int .i64 (rdE d n)]) ∧ w' = w := by
  have HR := Lib.hid (ready_calls h)
  have h1 := h.c1
  have hm := h.most
  unfold rdE at hn ⊢
  unfold rdy at HR
  clear h
  obtain ⟨off, ho⟩ : ∃ x, x = d.off := ⟨_, rfl⟩
  obtain ⟨L, hL⟩ : ∃ x, x = d.now.length := ⟨_, rfl⟩
  rw [← ho] at HR hn ⊢
  rw [← hL] at h1 hn hm ⊢
  clear ho hL
  cases off with
  | true =>
    go_enter Try.func12, Try.ntmps12
    go_wp2_with (go_at_call 23; refine HR.out.mono ?_; rintro e w' ⟨rfl, rfl⟩)
    go_ret2
    exact ⟨rfl, rfl⟩
  | false =>
    rw [if_neg (by decide)] at hn ⊢
    have hc : n < 0 ∨ (L : Int) ≤ n := by
      by_cases c : n < 0 ∨ (L : Int) ≤ n
      · exact c
      · rw [if_neg c] at hn; exact absurd rfl hn
    rw [if_pos hc]
    clear hn
    by_cases c1 : n < 0
    · clear hc
      go_enter Try.func12, Try.ntmps12
      go_wp2_with (go_at_call 23; refine HR.out.mono ?_; rintro e w' ⟨rfl, rfl⟩)
      go_ret2
      exact ⟨rfl, rfl⟩
    · have c2 : (L : Int) ≤ n := by omega
      clear hc
      go_enter Try.func12, Try.ntmps12
      go_wp2_with (go_at_call 23; refine HR.out.mono ?_; rintro e w' ⟨rfl, rfl⟩)
      go_ret2
      exact ⟨rfl, rfl⟩
theorem read_good {w : World} {gd gl gn : Nat} {pv : Value} {d : D} (h : In w gd gl gn pv d) (n : Nat) (hn : n < d.now.length) (ho : d.off = false) : Calls Try.prog 12 #[.pointer (some ⟨gd, 0, none⟩), .int .i64 n] w fun e w' => ∃ v, e = .returned (.tuple #[v, .int .i64 0]) ∧ Kd.R (Kd.int .u8) 5 w' w.heap.size (fun _ => True) v (d.now.getD n []) ∧ Below w.heap.size w w' := by
  have HR := Lib.hid (ready_calls h)
  have h1 := h.c1
  have hm := h.most
  obtain ⟨hs1, hs2⟩ := h.now.1 n hn
  have HC := Lib.hid (fun c => clone_calls (d.now.getD n []) gn (n * 64) c w (by omega) (by omega) hs2)
  rw [hs1] at HC
  unfold rdy at HR
  rw [ho, if_neg (by decide)] at HR
  clear h hs1 hs2
  obtain ⟨L, hL⟩ : ∃ x, x = d.now.length := ⟨_, rfl⟩
  rw [← hL] at h1 hn hm
  clear hL
  have n0 : (0 : Int) ≤ (n : Int) := by omega
  have n1 : (n : Int) < (L : Int) := by omega
  have n2 : ¬ (L : Int) ≤ (n : Int) := by omega
  go_enter Try.func12, Try.ntmps12
  go_wp2_with (first | (go_at_call 23; refine HR.out.mono ?_; rintro e w' ⟨rfl, rfl⟩) | (go_at_call 25; refine (HC.out _).mono ?_; rintro e w1 ⟨v, rfl, hv, hb⟩; have QV := Lib.hid hv; have QB := Lib.hid hb; clear hv hb))
  go_ret2
  exact ⟨_, rfl, QV.out, QB.out⟩
def laE (d : D) (n : Int) : Int := if n < 0 ∨ (d.now.length : Int) ≤ n then 7 else 0
theorem lasting_bad {w : World} {gd gl gn : Nat} {pv : Value} {d : D} (h : In w gd gl gn pv d) (n : Int) (hn : n < 0 ∨ (d.now.length : Int) ≤ n) : Calls Try.prog 16 #[.pointer (some ⟨gd, 0, none⟩), .int .i64 n] w fun e w' => e = .returned (.tuple #[.slice none 0 0, .int .i64 7]) ∧ w' = w := by
  have h1 := h.c1
  have hm := h.most
  clear h
  obtain ⟨L, hL⟩ : ∃ x, x = d.now.length := ⟨_, rfl⟩
  rw [← hL] at h1 hn hm
  clear hL
  by_cases c1 : n < 0
  · clear hn
    go_enter Try.func16, Try.ntmps16
    go_wp2
    go_ret2
    exact ⟨rfl, rfl⟩
  · have c2 : (L : Int) ≤ n := by omega
    clear hn
    go_enter Try.func16, Try.ntmps16
    go_wp2
    go_ret2
    exact ⟨rfl, rfl⟩
theorem lasting_good {w : World} {gd gl gn : Nat} {pv : Value} {d : D} (h : In w gd gl gn pv d) (n : Nat) (hn : n < d.now.length) : Calls Try.prog 16 #[.pointer (some ⟨gd, 0, none⟩), .int .i64 n] w fun e w' => ∃ v, e = .returned (.tuple #[v, .int .i64 0]) ∧ Kd.R (Kd.int .u8) 5 w' w.heap.size (fun _ => True) v (d.las.getD n []) ∧ Below w.heap.size w w' := by
  have h1 := h.c1
  have h0 := h.c0
  have hm := h.most
  obtain ⟨hs1, hs2⟩ := h.las.1 n (by rw [h.len]; exact hn)
  have HC := Lib.hid (fun c => clone_calls (d.las.getD n []) gl (n * 64) c w (by omega) (by omega) hs2)
  rw [hs1] at HC
  clear h hs1 hs2
  obtain ⟨L, hL⟩ : ∃ x, x = d.now.length := ⟨_, rfl⟩
  rw [← hL] at h1 h0 hn hm
  clear hL
  have n0 : (0 : Int) ≤ (n : Int) := by omega
  have n1 : (n : Int) < (L : Int) := by omega
  have n2 : ¬ (L : Int) ≤ (n : Int) := by omega
  go_enter Try.func16, Try.ntmps16
  go_wp2_with (go_at_call 25; refine (HC.out _).mono ?_; rintro e w1 ⟨v, rfl, hv, hb⟩; have QV := Lib.hid hv; have QB := Lib.hid hb; clear hv hb)
  go_ret2
  exact ⟨_, rfl, QV.out, QB.out⟩

end Go.Proofs.Ytghodkjpjjbcnaa.DO
