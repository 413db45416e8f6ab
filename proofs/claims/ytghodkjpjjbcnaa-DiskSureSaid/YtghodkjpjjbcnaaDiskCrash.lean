/- A disk's Crash, walked. -/
import Derived.Test.YtghodkjpjjbcnaaDiskFlush
import Derived.Test.YtghodkjpjjbcnaaNoneWalk
import Derived.Deep.RegionLaw
namespace Go.Proofs.Ytghodkjpjjbcnaa.DO
open Go.RowKit Go.Proofs.Ytghodkjpjjbcnaa.DM Go.Proofs.YtghodkjpjjbcnaaW.PrintWords Go.Proofs.YtghodkjpjjbcnaaW.PrintLast Go.Proofs.YtghodkjpjjbcnaaW.PrintMore
set_option linter.unusedSimpArgs false

/-- The sectors behind the first k writes, of which those that are kept last. -/
def crl (las : List (List Int)) (pen : List (Int × List Int)) (keep : List Bool) : Nat → List (List Int)
  | 0 => las
  | k + 1 => if keep.getD k false = true then (crl las pen keep k).set (pen.getD k (0, [])).1.toNat (pen.getD k (0, [])).2 else crl las pen keep k
theorem crl_length (las : List (List Int)) (pen : List (Int × List Int)) (keep : List Bool) : ∀ k, (crl las pen keep k).length = las.length
  | 0 => rfl
  | k + 1 => by
    unfold crl
    split
    · rw [List.length_set, crl_length las pen keep k]
    · exact crl_length las pen keep k
theorem crl_succ (las : List (List Int)) (pen : List (Int × List Int)) (keep : List Bool) (k : Nat) : crl las pen keep (k + 1) = if keep.getD k false = true then (crl las pen keep k).set (pen.getD k (0, [])).1.toNat (pen.getD k (0, [])).2 else crl las pen keep k := rfl
def crD (d : D) (keep : List Bool) : D := ⟨crl d.las d.pen keep d.pen.length, crl d.las d.pen keep d.pen.length, [], -1, false⟩
def crK (d : D) (keep : List Bool) (k : Nat) : D := { d with las := crl d.las d.pen keep k }
theorem crK_skip {d : D} {keep : List Bool} {k : Nat} (h : ¬ keep.getD k false = true) : crK d keep (k + 1) = crK d keep k := by
  unfold crK
  rw [crl_succ, if_neg h]
/-- copy of rows of sectors, n of n. -/
theorem copy61 {w : World} {gn gl n : Nat} {cs : List Value} {ty : TypeId} (hl : cs.length = n * 64) (hr : w.rangeAt gl 0 cs) (ht : w.there gn 0 (n * 64)) (h1 : ∀ v ∈ cs, v.oneCell' = true) :
    ∃ v, (Builtin.copy_ #[56, 56] ty #[.slice (some ⟨gn, 0, none⟩) n n, .slice (some ⟨gl, 0, none⟩) n n]).run Try.prog w = .ok v (w.setCells gn 0 cs) := by
  have hload := run_loadCells_list (P := Try.prog) w ⟨gl, 0, none⟩ cs (fun j v hv => by rw [Addr.add_mid]; exact hr j v hv)
  have hst := run_storeCells_cells (P := Try.prog) gn 0 cs 0 w (fun j hj => (ht j (by omega) |> fun h => by simpa using h.1)) (fun j hj => (ht j (by omega) |> fun h => by simpa using h.2)) h1
  have hs := size61
  cases hq : Try.prog.info? 61 with
  | none => rw [hq] at hs; cases hs
  | some i =>
    have hi : i.size = 64 := by rw [hq] at hs; simpa using hs
    have hmin : Nat.min n n = n := Nat.min_self n
    rw [hl] at hload
    exact ⟨goInt n, by simp [Builtin.copy_, run_underlying Try.underlying56, Builtin.lenOf, Builtin.firstCells, sizeOf, typeInfo, hq, hi, hmin, hload, hst]⟩
theorem step_copy61 {ops : Array Oper} {o : Oper} {a : Act} {w : World} {K : Act → World → Prop} {Q : Exit → Act → World → Prop} {E : Prop} (hw : Region.wanted o (yielded ops a.tmps) = true) (d s : Operand) (ho : o.op = .call { callee := .builtin .copy, args := #[d, s], argTypes := #[56, 56] }) (gn gl n : Nat) (hd : a.eval d = .slice (some ⟨gn, 0, none⟩) n n) (hs : a.eval s = .slice (some ⟨gl, 0, none⟩) n n)
    (cs : List Value) (hl : cs.length = n * 64) (hr : w.rangeAt gl 0 cs) (ht : w.there gn 0 (n * 64)) (h1 : ∀ v ∈ cs, v.oneCell' = true) (hK : ∀ v, K (a.put o.dst v) (w.setCells gn 0 cs)) : if Region.wanted o (yielded ops a.tmps) = true then Oper.wp Try.prog o a w K Q else E := by
  rw [if_pos hw]
  obtain ⟨v, hrun⟩ := copy61 (ty := o.type) hl hr ht h1
  unfold Oper.wp execOp
  simp only [ho, resolve, invoke, builtin, Sem.run_bind, Sem.run_pure, Result.andThen_ok, List.map_toArray, List.map_cons, List.map_nil, hd, hs, hrun]
  exact hK v

theorem keep_both {w : World} {gd gl gn L : Nat} {cs : List Value} (h0 : w.cell? ⟨gd, 0, none⟩ = some (.slice (some ⟨gl, 0, none⟩) L L)) (h1 : w.cell? ⟨gd, 1, none⟩ = some (.slice (some ⟨gn, 0, none⟩) L L)) (hr : w.rangeAt gl 0 cs) (ht : w.there gn 0 (L * 64)) (hn : gd ≠ gn) (hl : gl ≠ gn) (o : Nat) (us : List Value) :
    (w.setCells gn o us).cell? ⟨gd, 0, none⟩ = some (.slice (some ⟨gl, 0, none⟩) L L) ∧ (w.setCells gn o us).cell? ⟨gd, 1, none⟩ = some (.slice (some ⟨gn, 0, none⟩) L L) ∧ (w.setCells gn o us).rangeAt gl 0 cs ∧ (w.setCells gn o us).there gn 0 (L * 64) := by
  have hb := (setCells_world gn us o w).2.2.2.2
  refine ⟨(World.cell?_of_block (a := ⟨gd, 0, none⟩) (hb gd hn)).trans h0, (World.cell?_of_block (a := ⟨gd, 1, none⟩) (hb gd hn)).trans h1, range_move hr (hb gl hl), World.there_setCells ht _ _ _⟩

set_option maxHeartbeats 8000000 in
theorem crash_good {w : World} {gd gl gn : Nat} {pv : Value} {d : D} (h : In w gd gl gn pv d) (hp : d.pen.length ≤ 1000000) (Ak : Option Addr) (ck : Nat) (keep : List Bool) (hk : Kd.C Kd.bool w Ak keep.length keep) (hkf : ∀ ad, Ak = some ad → 0 < keep.length → ∀ q, Foot gd gl gn pv q → ad.block ≠ q) :
    Calls Try.prog 14 #[.pointer (some ⟨gd, 0, none⟩), .slice Ak keep.length ck] w fun e w' => e = .returned (.tuple #[]) ∧ WDone w w' gd gl gn pv (crD d keep) := by
  obtain ⟨A, c, ep⟩ := pen_slice h
  have hc2 := h.c2
  have HIN := Lib.hid h
  clear h
  subst ep
  obtain ⟨m, hm⟩ : ∃ m, m = d.pen.length := ⟨_, rfl⟩
  have HM := Lib.hid hm
  rw [← hm] at hc2 hp
  clear hm
  have HKP := Lib.hid hk
  have HKF := Lib.hid hkf
  have HKL : Hid (keep.length ≤ 9223372036854775807) := Lib.hid hk.2.1
  obtain ⟨kl, hkl⟩ : ∃ n, n = keep.length := ⟨_, rfl⟩
  have EKL := Lib.hid hkl
  rw [← hkl]
  clear hk hkf hkl
  go_enter Try.func14, Try.ntmps14
  go_wp2_with fail
  go_loopg [13] m (fun kq v13 wr => ∃ k : Nat, v13 = .int .i64 (k : Int) ∧ Hid (k + kq = m) ∧ Hid (In wr gd gl gn (.slice A d.pen.length c) (crK d keep k)) ∧ Hid (∀ (base : Nat) (Ex : Nat → Prop), (∀ k, Foot gd gl gn (.slice A d.pen.length c) k → base ≤ k ∧ ¬ Ex k) → base ≤ w.heap.size → (∀ k, Ex k → k < w.heap.size) → DM.Kept base Ex w wr))
  case atStart => exact ⟨0, rfl, Lib.hid (by omega), HIN, Lib.hid (fun base Ex hF _ _ => DM.Kept.refl _ _ _)⟩
  case round =>
    obtain ⟨k, rfl, K0, KI, KK⟩ := hrel
    cases gk with
    | zero =>
      have hkm : k = m := by have := K0.out; omega
      subst hkm
      have hc2 := KI.out.c2
      have hc3 := KI.out.c3
      have hc4 := KI.out.c4
      have hf2 := KI.out.fr 2 (by omega)
      have hf3 := KI.out.fr 3 (by omega)
      have hf4 := KI.out.fr 4 (by omega)
      clear HKP HKF HKL EKL hp
      have HI7 := Lib.hid (((KI.out.setPen [] (World.ownsRow_nil _ _ _ _) (fun p hp => by simp at hp) (fun b hb => by simp [Value.ownBlock] at hb) (pv' := .slice none 0 0)).setLim (-1) (by decide)).setOff false)
      have HK7 : Hid (∀ (base : Nat) (Ex : Nat → Prop), (∀ q, Foot gd gl gn (.slice A d.pen.length c) q → base ≤ q ∧ ¬ Ex q) → base ≤ w.heap.size → (∀ q, Ex q → q < w.heap.size) → DM.Kept base Ex w (((wr.setCell ⟨gd, 2, none⟩ (.slice none 0 0)).setCell ⟨gd, 3, none⟩ (.int .i64 (-1))).setCell ⟨gd, 4, none⟩ (.bool false))) := Lib.hid (fun base Ex hF hb hE => (((KK.out base Ex hF hb hE).setCell (hF gd (.inl rfl)).1 (hF gd (.inl rfl)).2 _).setCell (hF gd (.inl rfl)).1 (hF gd (.inl rfl)).2 _).setCell (hF gd (.inl rfl)).1 (hF gd (.inl rfl)).2 _)
      obtain ⟨cs, hcs⟩ : ∃ cs, cs = flat (crK d keep k).las := ⟨_, rfl⟩
      obtain ⟨L, hL⟩ : ∃ L, L = d.now.length := ⟨_, rfl⟩
      have hlas : (crK d keep k).las.length = L := by rw [KI.out.len, hL]; rfl
      go_wp2_with fail
      generalize ((wr.setCell ⟨gd, 2, none⟩ (.slice none 0 0)).setCell ⟨gd, 3, none⟩ (.int .i64 (-1))).setCell ⟨gd, 4, none⟩ (.bool false) = W7 at *
      have hc0 := HI7.out.c0
      have hc1 := HI7.out.c1
      have hrl : W7.rangeAt gl 0 cs := by rw [hcs]; exact HI7.out.las.flat
      have htn : W7.there gn 0 (L * 64) := by rw [hL]; exact HI7.out.now.2
      rw [show ({ crK d keep k with pen := [], lim := -1, off := false } : D).now = d.now from rfl, ← hL] at hc0 hc1
      have hfl : cs.length = L * 64 := by
        rw [hcs, ← hlas]
        exact (flat_get _ (fun k hk => (HI7.out.las.1 k hk).1)).1
      have h1 : ∀ v ∈ cs, v.oneCell' = true := by rw [hcs]; exact flat_one _
      have HDN := Lib.hid HI7.out.dn
      have HLN := Lib.hid HI7.out.ln
      have HLL := Lib.hid hL
      have HCS := Lib.hid hcs
      clear hL hcs hlas
      go_region_held3 (fun w' => w'.cell? ⟨gd, 0, none⟩ = some (.slice (some ⟨gl, 0, none⟩) L L) ∧ w'.cell? ⟨gd, 1, none⟩ = some (.slice (some ⟨gn, 0, none⟩) L L) ∧ w'.rangeAt gl 0 cs ∧ w'.there gn 0 (L * 64)) (first | exact ⟨by simpa using hc0, by simpa using hc1, by simpa using hrl, by simpa using htn⟩ | exact keep_both (by simpa using hc0) (by simpa using hc1) (by simpa using hrl) (by simpa using htn) HDN.out HLN.out 0 cs) ((refine step_copy61 (by rfl) (.tmp 50) (.tmp 54) (by rfl) gn gl L (by rfl) (by rfl) cs hfl (by simpa using hrl) (by simpa using htn) h1 ?_; intro v))
      go_wp2_with fail
      go_end0
      refine ⟨rfl, .slice none 0 0, ?_, fun b hb => by simp [Value.ownBlock] at hb, fun base Ex hF hb hE => (HK7.out base Ex hF hb hE).drew.setCells (hF gn (.inr (.inr (.inl rfl)))).1 (hF gn (.inr (.inr (.inl rfl)))).2 _ _⟩
      have h : In (W7.drew.setCells gn 0 (flat (crK d keep k).las)) gd gl gn (.slice none 0 0) (⟨(crK d keep k).las, (crK d keep k).las, [], -1, false⟩ : D) := (HI7.out.move (w' := W7.drew) (fun _ _ => rfl)).copy
      rw [← HCS.out] at h
      have e : (⟨(crK d keep k).las, (crK d keep k).las, [], -1, false⟩ : D) = crD d keep := by
        unfold crD
        rw [← HM.out]
        rfl
      rw [e] at h
      exact h
    | succ k1 =>
      have hk : k < m := by have := K0.out; omega
      have hk' : (k : Int) < (m : Int) := by omega
      have hk0 : (0 : Int) ≤ (k : Int) := by omega
      have hkp : k < d.pen.length := by have := HM.out; omega
      have HO : Hid (wr.ownsRow 0 63 65 (.slice A d.pen.length c) d.pen.length (penCells d.pen)) := Lib.hid (by have := KI.out.pen; rw [show (crK d keep k).pen = d.pen from rfl] at this; exact this)
      have hpok : ∀ p ∈ d.pen, 0 ≤ p.1 ∧ p.1 < (d.now.length : Int) ∧ p.2.length = 64 := fun p hp => by
        have := KI.out.pok p (by rw [show (crK d keep k).pen = d.pen from rfl]; exact hp)
        rw [show (crK d keep k).now = d.now from rfl] at this
        exact this
      obtain ⟨gp, eA, eob, hrg⟩ := pen_range HO.out (fun p hp => (hpok p hp).2.2) k hkp
      subst eA
      obtain ⟨pk, hpk⟩ : ∃ p, p = d.pen.getD k (0, []) := ⟨_, rfl⟩
      have hpm : pk ∈ d.pen := by
        rw [hpk, List.getD_eq_getElem?_getD, List.getElem?_eq_getElem hkp]
        exact List.getElem_mem _
      obtain ⟨p0, p1, p2⟩ := hpok pk hpm
      obtain ⟨n, hn⟩ := Int.eq_ofNat_of_zero_le p0
      rw [← hpk, hn] at hrg
      obtain ⟨L, hL⟩ : ∃ L, L = d.now.length := ⟨_, rfl⟩
      have hnL : n < L := by omega
      have HPK := Lib.hid hpk
      have HPK2 := Lib.hid hn
      have HP64 := Lib.hid p2
      have HLL := Lib.hid hL
      obtain ⟨cs, hcs⟩ : ∃ cs, cs = cellsOf pk.2 := ⟨_, rfl⟩
      have hl64 : cs.length = 64 := by rw [hcs, cellsOf_length]; exact p2
      have h1c : ∀ v ∈ cs, v.oneCell' = true := by rw [hcs]; exact cellsOf_one _
      have HCS := Lib.hid hcs
      rw [← hcs] at hrg
      obtain ⟨CS, hCS⟩ : ∃ C, C = Value.int .i64 (n : Int) :: cs := ⟨_, rfl⟩
      have HC65 : Hid (CS.length = 65) := Lib.hid (by rw [hCS, List.length_cons, hl64])
      have HSZ : Hid ((Try.prog.info? 63).map (·.size) = some CS.length) := Lib.hid (by rw [size63, HC65.out])
      have hsa : CS.toArray.size = 65 := by rw [List.size_toArray]; exact HC65.out
      have HSA : Hid ((Try.prog.info? 63).map (·.size) = some CS.toArray.size) := Lib.hid (by rw [hsa]; exact size63)
      have HTH : ∀ {Z : Array Value}, Z.size = 65 → (wr.alloc (.cells Z 63)).there wr.heap.size 0 CS.toArray.size := fun h => by rw [hsa]; exact new_there h
      clear hsa
      have HC1 : Hid (∀ v ∈ CS, v.oneCell' = true) := Lib.hid (fun v hv => by
        rw [hCS] at hv
        rcases List.mem_cons.1 hv with rfl | hv
        · rfl
        · exact h1c v hv)
      rw [← hCS] at hrg
      have HRG := Lib.hid hrg
      have HCE := Lib.hid hCS
      have HHM : Hid (d.pen.length = m) := Lib.hid HM.out.symm
      clear hpk hn p0 p1 p2 hL hcs hCS hrg hpok hpm eob
      go_upto_region 3 with fail
      go_cut [4, 5] (fun v4 v5 W5 => ∃ b5, v4 = .int .i64 (k : Int) ∧ v5 = .pointer (some ⟨b5, 0, none⟩) ∧ Hid (W5.cell? ⟨b5, 0, none⟩ = some (.int .i64 (n : Int)) ∧ W5.rangeAt b5 1 cs) ∧ Hid (In W5 gd gl gn (.slice (some ⟨gp, 0, none⟩) d.pen.length c) (crK d keep k)) ∧ Hid (b5 ≠ gd ∧ b5 ≠ gl) ∧ Hid (∀ (base : Nat) (Ex : Nat → Prop), (∀ k, Foot gd gl gn (.slice (some ⟨gp, 0, none⟩) d.pen.length c) k → base ≤ k ∧ ¬ Ex k) → base ≤ w.heap.size → (∀ k, Ex k → k < w.heap.size) → DM.Kept base Ex w W5))
      case first =>
        go_wp2_with (first
          | ((with_reducible refine gate_dst (N := 17) rfl ?_); refine wpList_load_mid rfl 63 (.tmp 16) rfl gp (k * 65) rfl CS _ HRG.out Try.underlying63 rfl HSZ.out ?_)
          | ((with_reducible refine gate_dst (N := 5) rfl ?_); refine wpList_alloc63 rfl rfl ?_; intro Z hZ; have QZ := Lib.hid hZ; clear hZ)
          | ((with_reducible refine gate_store (t := 63) (p := 5) rfl ?_); refine wpList_store_mid rfl 63 (.tmp 5) (.tmp 17) rfl wr.heap.size 0 CS.toArray rfl rfl (HTH QZ.out) HSA.out (all_oneCell_toArray HC1.out) ?_))
        go_meet
        case rel =>
          have hnt := new_there (w := wr) QZ.out
          have hr5 : ((wr.alloc (.cells Z 63)).setCells wr.heap.size 0 CS).rangeAt wr.heap.size 0 CS := World.rangeAt_setCells_same _ _ _ _ (by rw [HC65.out]; exact hnt)
          have hmv : ∀ q, q < wr.heap.size → ((wr.alloc (.cells Z 63)).setCells wr.heap.size 0 CS).heap[q]? = wr.heap[q]? := fun q hq => ((But.setCells wr.heap.size 0 CS (wr.alloc (.cells Z 63))).block q (by omega)).trans (Below.heap_alloc wr _ q hq)
          have hne : ∀ q, Foot gd gl gn (.slice (some ⟨gp, 0, none⟩) d.pen.length c) q → wr.heap.size ≠ q := fun q hq e => by have := KI.out.lt q hq; omega
          refine ⟨wr.heap.size, by first | rfl | (simp [Act.put]; done), by first | rfl | (simp [Act.put]; done), Lib.hid ⟨hr5 0 _ (by rw [HCE.out]; rfl), fun q v hv => ?_⟩, Lib.hid (KI.out.move (fun q hq => hmv q (KI.out.lt q hq))), Lib.hid ⟨hne gd (.inl rfl), hne gl (.inr (.inl rfl))⟩, Lib.hid (fun base Ex hF hb hE => ?_)⟩
          · have := hr5 (q + 1) v (by rw [HCE.out]; exact hv)
            rwa [show 0 + (q + 1) = 1 + q by omega] at this
          · have h1 := KK.out base Ex hF hb hE
            refine (h1.alloc _).setCells (by have := h1.size; omega) (fun he => ?_) _ _
            have := hE _ he
            have := h1.size
            omega
      case rest =>
        clear KI KK HRG HTH
        obtain ⟨b5, rfl, rfl, H5, KI, HNE, KK⟩ := hcut
        rename World => W5
        have n0 : (0 : Int) ≤ (n : Int) := by omega
        have n1 : (n : Int) < (L : Int) := by omega
        by_cases hlt : k < kl
        · have hlt' : (k : Int) < (kl : Int) := by omega
          obtain ⟨ad, eAd, hx⟩ := Kd.at_bool HKP.out (k : Int) hk0 (by have := EKL.out; omega)
          subst eAd
          rw [Int.toNat_natCast] at hx
          have hab : (ad.add k).block = ad.block := by unfold Addr.add; split <;> rfl
          have hadl : ad.block < w.heap.size := by have := World.block_lt_of_cell? _ _ hx; rwa [hab] at this
          have hsame := (KK.out 0 (fun q => q = ad.block) (fun q hq => ⟨Nat.zero_le _, fun e => HKF.out ad rfl (by have := EKL.out; omega) q hq e.symm⟩) (Nat.zero_le _) (fun q hq => by rw [show q = ad.block from hq]; exact hadl)).block ad.block hadl (.inr rfl)
          have hx5 : W5.cell? (ad.add k) = some (.bool (rdOf false keep (k : Int))) := (World.cell?_of_block (w := w) (w' := W5) (a := ad.add k) (by rw [hab]; exact hsame)).trans hx
          have hrd : rdOf false keep (k : Int) = keep.getD k false := by unfold rdOf; rw [Int.toNat_natCast]
          rw [hrd] at hx5
          obtain ⟨bv, hbv⟩ : ∃ b, b = keep.getD k false := ⟨_, rfl⟩
          rw [← hbv] at hx5
          have HBV := Lib.hid hbv
          clear hx hab hsame hrd hbv hadl
          cases bv with
          | false =>
            have HB : Hid (¬ keep.getD k false = true) := Lib.hid (by rw [← HBV.out]; decide)
            go_wp2
            go_roundg k1
            case measure => omega
            case rel => exact ⟨k + 1, by first | rfl | (simp; done), Lib.hid (by have := K0.out; omega), Lib.hid (by rw [crK_skip HB.out]; exact KI.out), KK⟩
          | true =>
            have hc0 := KI.out.c0
            rw [show (crK d keep k).now = d.now from rfl, ← HLL.out] at hc0
            have ht5 : W5.there gl (n * 64) 64 := there_sub KI.out.las.2 _ _ (by
              rw [KI.out.len, show (crK d keep k).now = d.now from rfl]
              have := HLL.out
              omega)
            have hu := Try.underlying61
            have hi : (Try.prog.info? 61).map (·.size) = some cs.length := by rw [size61, hl64]
            have HDL := Lib.hid KI.out.dl
            have h5c := H5.out.1
            have h5r := H5.out.2
            go_upto_region 5 with fail
            go_region_held3 (fun w' => w'.cell? ⟨gd, 0, none⟩ = some (.slice (some ⟨gl, 0, none⟩) L L) ∧ w'.cell? ⟨b5, 0, none⟩ = some (.int .i64 (n : Int)) ∧ w'.rangeAt b5 1 cs ∧ w'.there gl (n * 64) 64) (first | exact ⟨by simpa using hc0, by simpa using h5c, by simpa using h5r, by simpa using ht5⟩ | exact keep_las (by simpa using hc0) (by simpa using h5c) (by simpa using h5r) (by simpa using ht5) HDL.out HNE.out.2) (fail)
            go_wp2_with fail
            go_roundg k1
            case measure => omega
            case rel =>
              refine ⟨k + 1, by first | rfl | (simp; done), Lib.hid (by have := K0.out; omega), Lib.hid ?_, Lib.hid (fun base Ex hF hb hE => (KK.out base Ex hF hb hE).drew.setCells (hF gl (.inr (.inl rfl))).1 (hF gl (.inr (.inl rfl))).2 _ _)⟩
              have h := (KI.out.move (w' := W5.drew) (fun _ _ => rfl)).setLas n pk.2 (by rw [show (crK d keep k).now = d.now from rfl, ← HLL.out]; exact hnL) HP64.out
              have e : ({ crK d keep k with las := (crK d keep k).las.set n pk.2 } : D) = crK d keep (k + 1) := by
                have e2 : pk.1.toNat = n := by rw [HPK2.out]; exact Int.toNat_natCast n
                unfold crK
                rw [crl_succ, if_pos HBV.out.symm, ← HPK.out, e2]
              rw [e, ← HCS.out] at h
              exact h
        · have hlt' : ¬ (k : Int) < (kl : Int) := by omega
          have HB : Hid (¬ keep.getD k false = true) := Lib.hid (by rw [List.getD_eq_getElem?_getD, List.getElem?_eq_none (by have := EKL.out; omega)]; decide)
          go_wp2
          go_roundg k1
          case measure => omega
          case rel => exact ⟨k + 1, by first | rfl | (simp; done), Lib.hid (by have := K0.out; omega), Lib.hid (by rw [crK_skip HB.out]; exact KI.out), KK⟩
theorem crash_at {w : World} {base : Nat} {Ex : Nat → Prop} {gd : Nat} {d : D} (h : At w base Ex gd d) (hE : ∀ k, Ex k → k < w.heap.size) (hb : base ≤ w.heap.size) (hp : d.pen.length ≤ 1000000) (Ak : Option Addr) (ck : Nat) (keep : List Bool) (hk : Kd.C Kd.bool w Ak keep.length keep) (hkf : ∀ ad, Ak = some ad → ad.block < base ∨ Ex ad.block) :
    Calls Try.prog 14 #[.pointer (some ⟨gd, 0, none⟩), .slice Ak keep.length ck] w fun e w' => e = .returned (.tuple #[]) ∧ At w' base Ex gd (crD d keep) ∧ DM.Kept base Ex w w' := by
  obtain ⟨gl, gn, pv, hI, hF⟩ := h
  refine (crash_good hI hp Ak ck keep hk (fun ad ha _ q hq e => ?_)).mono ?_
  · have h1 := hF q hq
    rcases hkf ad ha with h | h
    · omega
    · exact h1.2 (e ▸ h)
  rintro e w' ⟨h1, h2⟩
  exact ⟨h1, h2.at hF hE hb⟩
end Go.Proofs.Ytghodkjpjjbcnaa.DO
