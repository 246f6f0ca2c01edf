import Derived.Test.YtnmjdoaogdaehaaGreatA19
namespace Go.Proofs.YtnmjdoaogdaehaaGreat
open Go Go.Sep Go.Proofs
set_option maxRecDepth 10000
set_option maxHeartbeats 40000000
set_option synthInstance.maxSize 2000
set_option linter.unusedSimpArgs false
set_option linter.unusedVariables false
/-! a log is written -/
theorem write1_ok (B0 : Base) (eb wx hx wb db : Nat) (e : Int) (h : Hd) (w : Wl) (he : e = 0) :
    DCon Tryz.prog B0 142 #[ptr eb, ptr wx, ptr hx] .returning [(eb, cl [.int .i64 e] 24), (wx, cl [ptr wb] 74), (hx, cl h.row 88), WlB wb db w] fun u' A => u' = .returning ∧ A = [(eb, cl [.int .i64 e] 24), (wx, cl [ptr wb] 74), (hx, cl h.row 88), WlB wb db { w with h := h }] := by
  refine DCon.intro (vs := [_, _, _]) Tryz.func142 rfl Tryz.ntmps142 rfl (fun B c₀ cs hx2 hu => ?_)
  have hc0 : c₀ = { c₀ with mode := .returning } := by rw [← hu]
  refine CdS.of rfl ?_
  rw [hc0]
  repeat' (first | refine Cd.seq ?_ | refine Cd.reg ?_ | refine Ops.nil ?_ | refine Ops.nilP rfl rfl rfl rfl ?_ | refine Ops.fa0 rfl rfl rfl rfl ?_ | refine Ops.ld1 rfl rfl rfl rfl rfl ?_ | refine Ops.ldN rfl rfl rfl rfl ?_ | refine Ops.bin rfl rfl rfl rfl rfl ?_ | refine Ops.stN rfl rfl rfl rfl rfl rfl (noPd rfl) ?_ | refine Cd.skip (Cd.next ?_) | refine Cd.condF rfl (by first | rfl | assumption | (simp only [decide_eq_true_eq, decide_eq_false_iff_not, Bool.not_eq_true', Bool.not_eq_false', Bool.not_eq_eq_eq_not, Bool.not_true, Bool.not_false, beq_iff_eq, beq_eq_false_iff_ne, ne_eq, decide_eq_decide, eq_self, true_iff, iff_true, not_true_eq_false, not_false_eq_true]; first | done | omega)) ?_)
  exact Ops.nilN (endS (A' := [(eb, cl [.int .i64 e] 24), (wx, cl [ptr wb] 74), (hx, cl h.row 88), WlB wb db { w with h := h }]) rfl (fun _ h => h.split) ⟨rfl, rfl⟩)
theorem write1_no (B0 : Base) (eb wx hx wb db : Nat) (e : Int) (h : Hd) (w : Wl) (he : e ≠ 0) :
    DCon Tryz.prog B0 142 #[ptr eb, ptr wx, ptr hx] .returning [(eb, cl [.int .i64 e] 24), (wx, cl [ptr wb] 74), (hx, cl h.row 88), WlB wb db w] fun u' A => u' = .returning ∧ A = [(eb, cl [.int .i64 e] 24), (wx, cl [ptr wb] 74), (hx, cl h.row 88), WlB wb db { w with dead := true }] := by
  refine DCon.intro (vs := [_, _, _]) Tryz.func142 rfl Tryz.ntmps142 rfl (fun B c₀ cs hx2 hu => ?_)
  have hc0 : c₀ = { c₀ with mode := .returning } := by rw [← hu]
  refine CdS.of rfl ?_
  rw [hc0]
  repeat' (first | refine Cd.seq ?_ | refine Cd.reg ?_ | refine Ops.nil ?_ | refine Ops.nilP rfl rfl rfl rfl ?_ | refine Ops.fa0 rfl rfl rfl rfl ?_ | refine Ops.ld1 rfl rfl rfl rfl rfl ?_ | refine Ops.bin rfl rfl rfl rfl rfl ?_ | refine Ops.st1 rfl rfl rfl rfl rfl (noPd rfl) ?_ | refine Cd.condT rfl (by first | rfl | assumption | (simp only [decide_eq_true_eq, decide_eq_false_iff_not, Bool.not_eq_true', Bool.not_eq_false', Bool.not_eq_eq_eq_not, Bool.not_true, Bool.not_false, beq_iff_eq, beq_eq_false_iff_ne, ne_eq, decide_eq_decide, eq_self, true_iff, iff_true, not_true_eq_false, not_false_eq_true]; first | done | omega)) ?_)
  exact Cd.ret (retS (A' := [(eb, cl [.int .i64 e] 24), (wx, cl [ptr wb] 74), (hx, cl h.row 88), WlB wb db { w with dead := true }]) rfl (fun _ h => h.split) ⟨rfl, rfl⟩)
theorem pagesF_end {half at_ : Nat} {s : ByteArray} {x : Dk} (h : s.size = 0) : pagesF half at_ s x = (x, true) := by rw [pagesF, dif_pos h]
theorem pagesF_bad {half at_ : Nat} {s : ByteArray} {x : Dk} (h : s.size ≠ 0) (h2 : x.de = true ∨ ¬ 2 + half * roomF x.S.length / 128 + at_ / 128 < x.S.length) : pagesF half at_ s x = (x, false) := by rw [pagesF, dif_neg h, if_pos h2]
theorem pagesF_go {half at_ : Nat} {s : ByteArray} {x : Dk} (h : s.size ≠ 0) (h2 : ¬ (x.de = true ∨ ¬ 2 + half * roomF x.S.length / 128 + at_ / 128 < x.S.length)) : pagesF half at_ s x =
    if (x.write ((2 + half * roomF x.S.length / 128 + at_ / 128 : Nat) : Int) (pageF (x.S.getD (2 + half * roomF x.S.length / 128 + at_ / 128) .empty) s (at_ % 128))).2 ≠ 0 then ((x.write ((2 + half * roomF x.S.length / 128 + at_ / 128 : Nat) : Int) (pageF (x.S.getD (2 + half * roomF x.S.length / 128 + at_ / 128) .empty) s (at_ % 128))).1, false)
    else pagesF half (at_ + min (128 - at_ % 128) s.size) (s.extract (min (128 - at_ % 128) s.size) s.size) (x.write ((2 + half * roomF x.S.length / 128 + at_ / 128 : Nat) : Int) (pageF (x.S.getD (2 + half * roomF x.S.length / 128 + at_ / 128) .empty) s (at_ % 128))).1 := by rw [pagesF, dif_neg h, if_neg h2]
theorem readD_dead {S : List ByteArray} {i : Int} : readD S true i = (.empty, 2) := rfl
theorem readD_out {S : List ByteArray} {i : Nat} (h : ¬ i < S.length) : readD S false (i : Int) = (.empty, 40) := by
  unfold readD
  rw [if_neg (by simp), if_neg (by omega)]
theorem bv_zB (n : Nat) : bv (zB n) = List.replicate n (.int .u8 0) := by simp [bv, zB]
theorem pageF_size {old s : ByteArray} {a : Nat} (h : old.size = 128) (ha : a < 128) : (pageF old s a).size = 128 := by
  simp only [pageF, ByteArray.size_append, ByteArray.size_extract, zB_size]
  omega
theorem page_one {old : ByteArray} {a : Nat} (h : old.size = 128) (ha : a < 128) : ins (List.replicate 128 (Value.int .u8 0)) 0 (bv ((old.extract 0 a).extract 0 (min (old.extract 0 a).size 128))) = bv (old.extract 0 a ++ zB (128 - a)) := by
  have h1 : (old.extract 0 a).size = a := by rw [ByteArray.size_extract]; omega
  have h2 : (old.extract 0 a).extract 0 (min (old.extract 0 a).size 128) = old.extract 0 a := by
    rw [Nat.min_eq_left (by omega)]
    exact ByteArray.extract_zero_size
  rw [h2, bv_app, bv_zB]
  unfold ins
  rw [bv_len, h1, List.take_zero, List.nil_append, List.drop_replicate]
  congr 2
  omega
theorem page_two {old s : ByteArray} {a : Nat} (h : old.size = 128) (ha : a < 128) : ins (bv (old.extract 0 a ++ zB (128 - a))) a (bv (s.extract 0 (min s.size (128 - a)))) = bv (pageF old s a) := by
  have h1 : (bv (old.extract 0 a)).length = a := by rw [bv_len, ByteArray.size_extract]; omega
  rw [Nat.min_comm]
  unfold pageF ins
  rw [bv_app, bv_app, bv_app, bv_zB, bv_zB, List.take_append_of_le_length (by omega), List.take_of_length_le (by omega), List.append_assoc, List.drop_append, List.drop_of_length_le (by omega), List.nil_append, List.drop_replicate, bv_len, ByteArray.size_extract, h1]
  congr 3
  omega
structure PgS where
  at_ : Nat
  s : ByteArray
  x : Dk
  k : Nat
  D : List Blk
/-- What write leaves: right, or not. -/
def WrR (wb db : Nat) (w : Wl) (h : Hd) (r : Dk × Bool) (k : Nat) (v : Value) (A : List Blk) : Prop :=
  ∃ D, DkA db r.1 k D ∧ ((r.2 = true ∧ v = .int .i64 0 ∧ A = WlB wb db { w with h := h } :: D) ∨ (r.2 = false ∧ v = .int .i64 2 ∧ A = WlB wb db { w with dead := true } :: D))
theorem write_spec (B0 : Base) (wb db : Nat) (w : Wl) (x0 : Dk) (k0 : Nat) (D0 : List Blk) (hD0 : DkA db x0 k0 D0) (at0 : Nat) (s0 : ByteArray) (h : Hd) (ok : HdOk h) (hh : h.half ≤ 1) (hat : at0 ≤ 1000000) (hs0 : s0.size ≤ 1000000) (hk : k0 ≤ 800000000000) :
    ConB Tryz.prog B0 71 #[ptr wb, .int .i64 at0, .string s0, .agg h.row.toArray] (WlB wb db w :: D0) (WrR wb db w h (headF h (pagesF h.half at0 s0 x0)) (k0 + s0.size + 1)) := by
  refine ConX.calm (X := fun _ _ => False) (ConX.intro (vs := [_, _, _, _]) Tryz.func71 rfl Tryz.ntmps71 rfl (fun B hB => ?_)) (fun _ _ h => h)
  repeat' (first | refine Ops.mkF rfl rfl rfl rfl rfl ?_ | refine Cd.seq ?_ | refine Cd.reg ?_ | refine Ops.box rfl rfl rfl rfl (noPd rfl) (fun b => ?_) | refine Ops.alloc rfl rfl rfl (noPd rfl) (fun b => ?_))
  rename_i wx hx
  rename Nat => eb
  refine Ops.dfr (fi := []) (ca := [ptr eb, ptr wx, ptr hx]) (vs := []) rfl rfl rfl rfl ?_
  repeat' (first | refine Cd.seq ?_ | refine Cd.block ?_)
  refine Cd.loopK (σ := PgS) (fun t => DkA db t.x t.k t.D ∧ t.k + t.s.size ≤ k0 + s0.size ∧ t.s.size ≤ s0.size ∧ t.at_ + t.s.size ≤ at0 + s0.size ∧ pagesF h.half at0 s0 x0 = pagesF h.half t.at_ t.s t.x) (fun t => [(1, .int .i64 t.at_), (2, .string t.s), (4, ptr wx), (7, ptr hx), (8, ptr eb)])
    (fun t => (eb, cl [.int .i64 0] 24) :: (hx, cl h.row 88) :: (wx, cl [ptr wb] 74) :: WlB wb db w :: t.D) (fun t => t.s.size) ⟨at0, s0, x0, k0, D0⟩ ⟨hD0, Nat.le_refl _, Nat.le_refl _, Nat.le_refl _, rfl⟩ ⟨rfl, rfl, rfl, rfl, rfl, trivial⟩ (fun w h => h.split) (fun t ht => ?_)
  obtain ⟨at_, s, x, k, D⟩ := t
  obtain ⟨hD, hk2, hs2, ha2, hpg⟩ := ht
  dsimp only at hD hk2 hs2 ha2 hpg ⊢
  have hrl := roomF_le x.S.length
  have hmul : ∀ a b : Nat, (a : Int) * (b : Int) = ((a * b : Nat) : Int) := fun a b => by push_cast; rfl
  have hadd : ∀ a b : Nat, (a : Int) + (b : Int) = ((a + b : Nat) : Int) := fun a b => by push_cast; rfl
  have hmod : (at_ : Int).tmod 128 = ((at_ % 128 : Nat) : Int) := by rw [show (128 : Int) = ((128 : Nat) : Int) from rfl, ← Int.ofNat_tmod]
  have hhr : h.half * roomF x.S.length ≤ 65536 := by
    rcases Nat.le_one_iff_eq_zero_or_eq_one.1 hh with e | e <;> rw [e] <;> omega
  by_cases hlt : s.size = 0
  · have hlt' : ¬ (0 : Int) < s.size := by omega
    rw [pagesF_end hlt] at hpg
    rw [hpg]
    have hwr : headF h (x, true) = ((x.write ((h.number % 2 : Nat) : Int) (sectorF h)).1, decide ((x.write ((h.number % 2 : Nat) : Int) (sectorF h)).2 = 0)) := if_pos rfl
    rw [hwr]
    have hnm : (h.number : Int).tmod 2 = ((h.number % 2 : Nat) : Int) := by rw [show (2 : Int) = ((2 : Nat) : Int) from rfl, ← Int.ofNat_tmod]
    repeat' (first | refine Cd.seq ?_ | refine Cd.reg ?_ | refine Ops.nil ?_ | refine Ops.mv rfl rfl rfl rfl ?_ | refine Ops.lenStr rfl rfl rfl rfl ?_ | refine Ops.bin rfl rfl rfl rfl rfl ?_ | refine Cd.exit (Cd.next (Q' := fun _ _ _ => True) ?_) | refine Cd.condF rfl (by first | rfl | assumption | (simp only [decide_eq_true_eq, decide_eq_false_iff_not, Bool.not_eq_true', Bool.not_eq_false', Bool.not_eq_eq_eq_not, Bool.not_true, Bool.not_false, beq_iff_eq, beq_eq_false_iff_ne, ne_eq, decide_eq_decide, eq_self, true_iff, iff_true, not_true_eq_false, not_false_eq_true]; first | done | omega)) ?_)
    refine Cd.draw [(0, 1, []), (1, 0, []), (2, 0, []), (3, 1, []), (4, 0, []), (5, 1, []), (6, 0, []), (7, 1, []), (8, 2, [0, 3, 5]), (9, 2, []), (10, 0, [])] (by kernel_rfl) (by kernel_rfl) (by simp only [picked, nth]; exact rfl) ?_
    repeat' (first | refine Ops.nilP rfl rfl rfl rfl ?_ | refine Ops.fa0 rfl rfl rfl rfl ?_ | refine Ops.ld1 rfl rfl rfl rfl rfl ?_)
    refine Ops.remI rfl rfl rfl rfl (by decide) rfl ?_
    rw [hnm]
    repeat' (first | refine Ops.ldN rfl rfl rfl rfl ?_ | fail)
    refine Ops.call (sector_spec h ok) rfl (by first | exact noPd rfl | (intro v A' hR i hi; obtain ⟨A2, hR, rfl⟩ := hR; (try obtain ⟨rfl, rfl⟩ := hR); (repeat (rcases List.mem_cons.1 hi with rfl | hi; · (first | exact Still.ld1 rfl rfl rfl rfl rfl | exact Still.ldN rfl rfl rfl rfl | exact Still.len rfl rfl rfl rfl rfl | exact Still.skip rfl rfl rfl | exact Still.ldRow1 rfl rfl rfl (by assumption) (by assumption) rfl rfl | exact Still.ldR rfl rfl rfl (by apply_assumption) rfl))); cases hi)) rfl rfl rfl (fun v A' hR => ?_)
    obtain ⟨rfl, rfl⟩ := hR
    skip
    refine Ops.call (dwrite_k db x k D hD _ (sectorF h) (by omega)) rfl (noPd rfl) rfl rfl rfl (fun v A' hR => ?_)
    obtain ⟨rfl, hD2⟩ := hR
    have hD3 := hD2.more (k' := k0 + s0.size + 1) (by omega) (by omega)
    clear hD2
    generalize x.write ((h.number % 2 : Nat) : Int) (sectorF h) = r at hD3 ⊢
    obtain ⟨x2, er⟩ := r
    dsimp only at hD3 ⊢
    by_cases her : er = 0
    · rw [decide_eq_true her]
      repeat' (first | refine Cd.seq ?_ | refine Cd.reg ?_ | refine Ops.nil ?_ | refine Ops.bin rfl rfl rfl rfl rfl ?_ | refine Ops.st1 rfl rfl rfl rfl rfl (by first | exact noPd rfl | (intro v A' hR i hi; obtain rfl := hR; (repeat (rcases List.mem_cons.1 hi with rfl | hi; · (first | exact Still.ld1 rfl rfl rfl rfl rfl | exact Still.ldN rfl rfl rfl rfl | exact Still.len rfl rfl rfl rfl rfl | exact Still.skip rfl rfl rfl | exact Still.ldRow1 rfl rfl rfl (by assumption) (by assumption) rfl rfl | exact Still.ldR rfl rfl rfl (by apply_assumption) rfl))); cases hi)) ?_ | refine Cd.skip (Cd.next ?_) | refine Cd.condF rfl (by first | rfl | assumption | (simp only [decide_eq_true_eq, decide_eq_false_iff_not, Bool.not_eq_true', Bool.not_eq_false', Bool.not_eq_eq_eq_not, Bool.not_true, Bool.not_false, beq_iff_eq, beq_eq_false_iff_ne, ne_eq, decide_eq_decide, eq_self, true_iff, iff_true, not_true_eq_false, not_false_eq_true]; first | done | omega)) ?_)
      refine Cd.ret (leaveD_ret (write1_ok B0 eb wx hx wb db 0 h w rfl) hB (fun u' A' hR => ?_))
      obtain ⟨rfl, rfl⟩ := hR
      exact .inl ⟨rfl, retX (ret1 (A' := WlB wb db { w with h := h } :: _) rfl (Res.cell1 rfl rfl) (fun _ h => h.split) ⟨_, hD3, .inl ⟨rfl, rfl, rfl⟩⟩)⟩
    · rw [decide_eq_false her]
      repeat' (first | refine Cd.seq ?_ | refine Cd.reg ?_ | refine Ops.nil ?_ | refine Ops.bin rfl rfl rfl rfl rfl ?_ | refine Ops.st1 rfl rfl rfl rfl rfl (by first | exact noPd rfl | (intro v A' hR i hi; obtain rfl := hR; (repeat (rcases List.mem_cons.1 hi with rfl | hi; · (first | exact Still.ld1 rfl rfl rfl rfl rfl | exact Still.ldN rfl rfl rfl rfl | exact Still.len rfl rfl rfl rfl rfl | exact Still.skip rfl rfl rfl | exact Still.ldRow1 rfl rfl rfl (by assumption) (by assumption) rfl rfl | exact Still.ldR rfl rfl rfl (by apply_assumption) rfl))); cases hi)) ?_ | refine Cd.condT rfl (by first | rfl | assumption | (simp only [decide_eq_true_eq, decide_eq_false_iff_not, Bool.not_eq_true', Bool.not_eq_false', Bool.not_eq_eq_eq_not, Bool.not_true, Bool.not_false, beq_iff_eq, beq_eq_false_iff_ne, ne_eq, decide_eq_decide, eq_self, true_iff, iff_true, not_true_eq_false, not_false_eq_true]; first | done | omega)) ?_)
      refine Cd.ret (leaveD_ret (write1_no B0 eb wx hx wb db 2 h w (by decide)) hB (fun u' A' hR => ?_))
      obtain ⟨rfl, rfl⟩ := hR
      exact .inl ⟨rfl, retX (ret1 (A' := WlB wb db { w with dead := true } :: _) rfl (Res.cell1 rfl rfl) (fun _ h => h.split) ⟨_, hD3, .inr ⟨rfl, rfl, rfl⟩⟩)⟩
  · have hlt' : (0 : Int) < s.size := by omega
    have hD9 := hD.more (k' := k0 + s0.size + 1) (by omega) (by omega)
    repeat' (first | refine Cd.seq ?_ | refine Cd.reg ?_ | refine Ops.nil ?_ | refine Ops.mv rfl rfl rfl rfl ?_ | refine Ops.lenStr rfl rfl rfl rfl ?_ | refine Ops.bin rfl rfl rfl rfl rfl ?_ | refine Cd.block ?_ | refine Cd.skip (Cd.next ?_) | refine Cd.condT rfl (by first | rfl | assumption | (simp only [decide_eq_true_eq, decide_eq_false_iff_not, Bool.not_eq_true', Bool.not_eq_false', Bool.not_eq_eq_eq_not, Bool.not_true, Bool.not_false, beq_iff_eq, beq_eq_false_iff_ne, ne_eq, decide_eq_decide, eq_self, true_iff, iff_true, not_true_eq_false, not_false_eq_true]; first | done | omega)) ?_)
    refine Cd.draw [(0, 0, []), (1, 1, []), (2, 1, []), (3, 0, []), (4, 0, []), (5, 1, []), (10, 0, []), (11, 0, []), (6, 2, [1]), (7, 0, []), (8, 0, []), (9, 0, []), (12, 0, []), (13, 0, [])] (by kernel_rfl) (by kernel_rfl) (by simp only [picked, nth]; exact rfl) ?_
    repeat' (first | refine Ops.mv rfl rfl rfl rfl ?_ | refine Ops.nilP rfl rfl rfl rfl ?_ | refine Ops.fa0 rfl rfl rfl rfl ?_ | refine Ops.ld1 rfl rfl rfl rfl rfl ?_)
    refine Ops.quoI (b := 128) rfl rfl rfl rfl (by omega) (by decide) rfl ?_
    skip
    refine Ops.call (room_spec db x k D hD) rfl (by intro v A' hR i hi; obtain ⟨A2, hR, rfl⟩ := hR; obtain ⟨rfl, rfl⟩ := hR; (repeat (rcases List.mem_cons.1 hi with rfl | hi; · (first | exact Still.ld1 rfl rfl rfl rfl rfl | exact Still.ldN rfl rfl rfl rfl | exact Still.len rfl rfl rfl rfl rfl | exact Still.skip rfl rfl rfl | exact Still.ldRow1 rfl rfl rfl (by assumption) (by assumption) rfl rfl | exact Still.ldR rfl rfl rfl (by apply_assumption) rfl))); cases hi) rfl rfl rfl (fun v A' hR => ?_)
    obtain ⟨rfl, e⟩ := hR
    subst A'
    repeat' (first | refine Ops.mulI rfl rfl rfl rfl (by omega) (by omega) rfl ?_)
    rw [hmul]
    refine Ops.quoI (b := 128) rfl rfl rfl rfl (by omega) (by decide) rfl ?_
    repeat' (first | refine Cd.seq ?_ | refine Cd.reg ?_ | refine Ops.nil ?_ | refine Ops.mv rfl rfl rfl rfl ?_ | refine Ops.asg rfl rfl rfl rfl ?_ | refine Ops.nilP rfl rfl rfl rfl ?_ | refine Ops.fa0 rfl rfl rfl rfl ?_ | refine Ops.ld1 rfl rfl rfl rfl rfl ?_ | refine Ops.addI rfl rfl rfl rfl (by omega) (by omega) rfl ?_)
    rw [show (2 : Int) + ((h.half * roomF x.S.length / 128 : Nat) : Int) + ((at_ / 128 : Nat) : Int) = ((2 + h.half * roomF x.S.length / 128 + at_ / 128 : Nat) : Int) from by push_cast; rfl]
    refine Ops.call (dread_spec db x.S x.ar x.bd x.de k D hD.a _) rfl (noPd rfl) rfl rfl rfl (fun v A' hR => ?_)
    obtain ⟨rfl, e⟩ := hR
    subst A'
    by_cases hbad : x.de = true ∨ ¬ 2 + h.half * roomF x.S.length / 128 + at_ / 128 < x.S.length
    · rw [pagesF_bad hlt hbad] at hpg
      rw [hpg, show headF h (x, false) = (x, false) from if_neg (by simp)]
      obtain ⟨u, er, hrd, her⟩ : ∃ u er, readD x.S x.de ((2 + h.half * roomF x.S.length / 128 + at_ / 128 : Nat) : Int) = (u, er) ∧ er ≠ 0 := by
        rcases hb : x.de with _ | _
        · rcases hbad with h1 | h1
          · rw [hb] at h1; cases h1
          · exact ⟨_, _, readD_out h1, by decide⟩
        · exact ⟨_, _, readD_dead, by decide⟩
      rw [hrd]
      repeat' (first | refine Cd.seq ?_ | refine Cd.reg ?_ | refine Ops.nil ?_ | refine Ops.mv rfl rfl rfl rfl ?_ | refine Ops.asg rfl rfl rfl rfl ?_ | refine Ops.bin rfl rfl rfl rfl rfl ?_ | refine Ops.ext rfl rfl rfl rfl rfl ?_ | refine Ops.st1 rfl rfl rfl rfl rfl (noPd rfl) ?_ | refine Cd.condT rfl (by first | rfl | assumption | (simp only [decide_eq_true_eq, decide_eq_false_iff_not, Bool.not_eq_true', Bool.not_eq_false', Bool.not_eq_eq_eq_not, Bool.not_true, Bool.not_false, beq_iff_eq, beq_eq_false_iff_ne, ne_eq, decide_eq_decide, eq_self, true_iff, iff_true, not_true_eq_false, not_false_eq_true]; first | done | omega)) ?_)
      refine Cd.ret (leaveD_ret (write1_no B0 eb wx hx wb db 2 h w (by decide)) hB (fun u' A' hR => ?_))
      obtain ⟨rfl, rfl⟩ := hR
      exact .inl ⟨rfl, retX (ret1 (A' := WlB wb db { w with dead := true } :: D) rfl (Res.cell1 rfl rfl) (fun _ h => h.split) ⟨_, hD9, .inr ⟨rfl, rfl, rfl⟩⟩)⟩
    have hgo := pagesF_go hlt hbad
    obtain ⟨hde, hin⟩ : x.de = false ∧ 2 + h.half * roomF x.S.length / 128 + at_ / 128 < x.S.length := by
      refine ⟨?_, ?_⟩
      · cases hb : x.de with
        | false => rfl
        | true => exact absurd (.inl hb) hbad
      · exact Decidable.byContradiction fun hc => hbad (.inr hc)
    have hsec : (x.S.getD (2 + h.half * roomF x.S.length / 128 + at_ / 128) .empty).size = 128 := by
      obtain ⟨_, _, _, _, _, _, _, _, _, _, hs⟩ := hD.a
      rw [List.getD_eq_getElem?_getD, List.getElem?_eq_getElem hin]
      exact hs _ (List.getElem_mem _)
    rw [hde, readD_in1 hin, readD_in2 hin]
    generalize x.S.getD (2 + h.half * roomF x.S.length / 128 + at_ / 128) .empty = old at hsec hgo ⊢
    generalize 2 + h.half * roomF x.S.length / 128 + at_ / 128 = page at hgo hin ⊢
    have ham : at_ % 128 < 128 := Nat.mod_lt _ (by decide)
    repeat' (first | refine Cd.seq ?_ | refine Cd.reg ?_ | refine Ops.nil ?_ | refine Ops.mv rfl rfl rfl rfl ?_ | refine Ops.asg rfl rfl rfl rfl ?_ | refine Ops.bin rfl rfl rfl rfl rfl ?_ | refine Ops.ext rfl rfl rfl rfl rfl ?_ | refine Cd.condF rfl rfl ?_ | refine Cd.skip (Cd.next ?_))
    refine Ops.mk1 rfl rfl rfl rfl (by decide) (by decide) (by decide) rfl (noPd rfl) (fun g => ?_)
    rw [show ((128 : Int)).toNat = 128 from rfl]
    repeat' (first | refine Cd.seq ?_ | refine Cd.reg ?_ | refine Ops.mv rfl rfl rfl rfl ?_ | refine Ops.asg rfl rfl rfl rfl ?_)
    refine Ops.remI rfl rfl rfl rfl (by decide) rfl ?_
    rw [hmod]
    repeat' (first | refine Cd.seq ?_ | refine Cd.reg ?_ | refine Ops.mv rfl rfl rfl rfl ?_ | refine Ops.asg rfl rfl rfl rfl ?_)
    refine Ops.slSHi rfl rfl rfl rfl (by omega) (by omega) rfl ?_
    rw [Int.toNat_natCast]
    refine Ops.cpS (L' := bv (old.extract 0 (at_ % 128) ++ zB (128 - at_ % 128))) rfl rfl rfl rfl (by simp only [List.length_replicate]; omega) (page_one hsec ham) rfl (noPd rfl) ?_
    repeat' (first | refine Cd.seq ?_ | refine Cd.reg ?_ | refine Ops.mv rfl rfl rfl rfl ?_ | refine Ops.sl3 rfl rfl rfl rfl rfl rfl (by omega) (by omega) (by omega) (by omega) rfl ?_)
    have hsl : (if (128 : Int).toNat = (((at_ % 128 : Nat) : Int)).toNat then some (⟨g, 0, none⟩ : Addr) else Option.map (fun x : Addr => x.add ((((at_ % 128 : Nat) : Int)).toNat * 1)) (some (⟨g, 0, none⟩ : Addr))) = some ⟨g, at_ % 128, none⟩ := by
      rw [Int.toNat_natCast, if_neg (by show ¬ 128 = _; omega)]
      simp [Addr.add]
      omega
    rw [hsl, Int.toNat_natCast, show (128 : Int).toNat = 128 from rfl]
    refine Ops.cpS (L' := bv (pageF old s (at_ % 128))) rfl rfl rfl rfl (by rw [bv_len, ByteArray.size_append, ByteArray.size_extract, zB_size]; omega) (page_two hsec ham) rfl (noPd rfl) ?_
    repeat' (first | refine Cd.seq ?_ | refine Ops.asg rfl rfl rfl rfl ?_)
    refine Cd.draw [(0, 1, []), (1, 0, []), (2, 0, []), (3, 1, []), (4, 0, []), (5, 0, []), (6, 1, []), (7, 2, []), (8, 0, [])] (by kernel_rfl) (by kernel_rfl) (by simp only [picked, nth]; exact rfl) ?_
    repeat' (first | refine Ops.mv rfl rfl rfl rfl ?_ | refine Ops.nilP rfl rfl rfl rfl ?_ | refine Ops.fa0 rfl rfl rfl rfl ?_ | refine Ops.ld1 rfl rfl rfl rfl rfl ?_)
    refine Ops.cvSp (bs := pageF old s (at_ % 128)) rfl rfl rfl (pageF_size hsec ham) (fun j u hu => by rw [Nat.zero_add]; exact hu) rfl ?_
    refine Ops.call (dwrite_k db x k D hD _ (pageF old s (at_ % 128)) (by omega)) rfl (noPd rfl) rfl rfl rfl (fun v A' hR => ?_)
    obtain ⟨rfl, hD2⟩ := hR
    generalize x.write (page : Int) (pageF old s (at_ % 128)) = r at hD2 hgo ⊢
    obtain ⟨x2, er⟩ := r
    dsimp only at hD2 hgo ⊢
    by_cases her : er = 0
    · rw [if_neg (by simpa using her)] at hgo
      have hmm : min s.size (128 - at_ % 128) = min (128 - at_ % 128) s.size := Nat.min_comm _ _
      have hmle : min (128 - at_ % 128) s.size ≤ s.size := Nat.min_le_right _ _
      have hmpos : 0 < min (128 - at_ % 128) s.size := by omega
      rw [hmm]
      generalize min (128 - at_ % 128) s.size = m at hmle hmpos hgo ⊢
      have hsz2 : (s.extract m s.size).size = s.size - m := by rw [ByteArray.size_extract]; omega
      repeat' (first | refine Cd.seq ?_ | refine Cd.reg ?_ | refine Ops.nil ?_ | refine Ops.mv rfl rfl rfl rfl ?_ | refine Ops.bin rfl rfl rfl rfl rfl ?_ | refine Cd.skip (Cd.next ?_) | refine Cd.condF rfl (by first | rfl | assumption | (simp only [decide_eq_true_eq, decide_eq_false_iff_not, Bool.not_eq_true', Bool.not_eq_false', Bool.not_eq_eq_eq_not, Bool.not_true, Bool.not_false, beq_iff_eq, beq_eq_false_iff_ne, ne_eq, decide_eq_decide, eq_self, true_iff, iff_true, not_true_eq_false, not_false_eq_true]; first | done | omega)) ?_)
      refine Ops.slSLo rfl rfl rfl rfl (by omega) (by omega) rfl ?_
      rw [Int.toNat_natCast]
      repeat' (first | refine Cd.reg ?_ | refine Ops.mv rfl rfl rfl rfl ?_ | refine Ops.asg rfl rfl rfl rfl ?_ | refine Ops.addI rfl rfl rfl rfl (by omega) (by omega) rfl ?_)
      rw [hadd]
      exact Ops.nilN (inB (round_end (⟨at_ + m, s.extract m s.size, x2, k + 1, _⟩ : PgS) ⟨hD2, by show k + 1 + (s.extract m s.size).size ≤ _; omega, by show (s.extract m s.size).size ≤ _; omega, by show at_ + m + (s.extract m s.size).size ≤ _; omega, by rw [hpg, hgo]⟩ (by show (s.extract m s.size).size < s.size; omega) ⟨rfl, rfl, rfl, rfl, rfl, trivial⟩ (fun w h => h.split)))
    · rw [if_pos (by simpa using her)] at hgo
      rw [hpg, hgo, show headF h (x2, false) = (x2, false) from if_neg (by simp)]
      have hD3 := hD2.more (k' := k0 + s0.size + 1) (by omega) (by omega)
      repeat' (first | refine Cd.seq ?_ | refine Cd.reg ?_ | refine Ops.nil ?_ | refine Ops.bin rfl rfl rfl rfl rfl ?_ | refine Ops.st1 rfl rfl rfl rfl rfl (by first | exact noPd rfl | (intro v A' hR i hi; obtain rfl := hR; (repeat (rcases List.mem_cons.1 hi with rfl | hi; · (first | exact Still.ld1 rfl rfl rfl rfl rfl | exact Still.ldN rfl rfl rfl rfl | exact Still.len rfl rfl rfl rfl rfl | exact Still.skip rfl rfl rfl | exact Still.ldRow1 rfl rfl rfl (by assumption) (by assumption) rfl rfl | exact Still.ldR rfl rfl rfl (by apply_assumption) rfl))); cases hi)) ?_ | refine Cd.condT rfl (by first | rfl | assumption | (simp only [decide_eq_true_eq, decide_eq_false_iff_not, Bool.not_eq_true', Bool.not_eq_false', Bool.not_eq_eq_eq_not, Bool.not_true, Bool.not_false, beq_iff_eq, beq_eq_false_iff_ne, ne_eq, decide_eq_decide, eq_self, true_iff, iff_true, not_true_eq_false, not_false_eq_true]; first | done | omega)) ?_)
      refine Cd.ret (leaveD_ret (write1_no B0 eb wx hx wb db 2 h w (by decide)) hB (fun u' A' hR => ?_))
      obtain ⟨rfl, rfl⟩ := hR
      exact .inl ⟨rfl, retX (ret1 (A' := WlB wb db { w with dead := true } :: _) rfl (Res.cell1 rfl rfl) (fun _ h => h.split) ⟨_, hD3, .inr ⟨rfl, rfl, rfl⟩⟩)⟩
end Go.Proofs.YtnmjdoaogdaehaaGreat
