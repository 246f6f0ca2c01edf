import Derived.Test.YtjejogkmhlbegaaT1
namespace Go.Proofs.Ytjejogkmhlbegaa
open Go Go.Sep Go.Proofs
set_option maxRecDepth 10000
set_option maxHeartbeats 2000000
set_option synthInstance.maxSize 2000
set_option linter.unusedSimpArgs false
set_option linter.unusedVariables false

/-- What a stitcher has. -/
structure Sp where
  nx : Nat
  hb : List Bool
  tx : List ByteArray
def takeF (win : Nat) (s : Sp) (i : Int) (t : ByteArray) : Int × List ByteArray × Sp :=
  if 32 < t.size then (152, [], s) else if i < s.nx ∨ (s.nx : Int) + win ≤ i ∨ 32 ≤ i then (151, [], s) else
    (0, (drained (if s.hb[i.toNat]? = some true then s.tx else s.tx.set i.toNat t) s.nx (s.hb.set i.toNat true)).1,
      ⟨(drained (if s.hb[i.toNat]? = some true then s.tx else s.tx.set i.toNat t) s.nx (s.hb.set i.toNat true)).2.1, (drained (if s.hb[i.toNat]? = some true then s.tx else s.tx.set i.toNat t) s.nx (s.hb.set i.toNat true)).2.2, if s.hb[i.toNat]? = some true then s.tx else s.tx.set i.toNat t⟩)
structure SpOk (win : Nat) (s : Sp) : Prop where
  w0 : 1 ≤ win
  w1 : win ≤ 8
  n : s.nx ≤ 32
  hl : s.hb.length = 32
  tl : s.tx.length = 32
  free : s.hb[s.nx]? ≠ some true
  inw : ∀ k, s.hb[k]? = some true → s.nx ≤ k ∧ k < s.nx + win
structure EsOk (s : Sp) (es : List ME) (ck : Nat) : Prop where
  ok : MOk es ck
  is_ : MapIs es s.hb s.tx

theorem drain_ok (tx : List ByteArray) (W : Nat) : ∀ (f nx : Nat) (hb : List Bool), 33 ≤ nx + f → nx ≤ 32 → hb.length = 32 → (∀ k, hb[k]? = some true → nx ≤ k ∧ k < W) →
    nx ≤ (drain tx f nx hb).2.1 ∧ (drain tx f nx hb).2.1 ≤ 32 ∧ (drain tx f nx hb).2.2.length = 32 ∧ (drain tx f nx hb).2.2[(drain tx f nx hb).2.1]? ≠ some true ∧ (∀ k, (drain tx f nx hb).2.2[k]? = some true → (drain tx f nx hb).2.1 ≤ k ∧ k < W) ∧ (drain tx f nx hb).1.length + nx = (drain tx f nx hb).2.1
  | 0, nx, hb, hf, hn, hl, hw => by omega
  | f + 1, nx, hb, hf, hn, hl, hw => by
    unfold drain
    split
    · rename_i hh
      have hlt : nx < 32 := by have := (List.getElem?_eq_some_iff.1 hh).1; omega
      have ih := drain_ok tx W f (nx + 1) (hb.set nx false) (by omega) (by omega) (by rw [List.length_set, hl]) fun k hk => by
        by_cases e : nx = k
        · subst e; rw [List.getElem?_set_self (by omega)] at hk; cases hk
        · rw [List.getElem?_set_ne e] at hk
          have := hw k hk
          omega
      obtain ⟨a, b, c, d, e, g⟩ := ih
      exact ⟨by show nx ≤ (drain tx f (nx + 1) (hb.set nx false)).2.1; omega, b, c, d, e, by simp only [List.length_cons]; show _ = (drain tx f (nx + 1) (hb.set nx false)).2.1; omega⟩
    · rename_i hh
      exact ⟨Nat.le_refl _, hn, hl, hh, hw, by simp⟩
theorem takeF_ok {win : Nat} {s : Sp} (h : SpOk win s) (i : Int) (t : ByteArray) : SpOk win (takeF win s i t).2.2 := by
  unfold takeF
  split
  · exact h
  · split
    · exact h
    · rename_i h1 h2
      have hb' : ∀ k, (s.hb.set i.toNat true)[k]? = some true → s.nx ≤ k ∧ k < s.nx + win := fun k hk => by
        by_cases e : i.toNat = k
        · omega
        · rw [List.getElem?_set_ne e] at hk
          exact h.inw k hk
      obtain ⟨a, b, c, d, e, g⟩ := drain_ok (if s.hb[i.toNat]? = some true then s.tx else s.tx.set i.toNat t) (s.nx + win) (33 - s.nx) s.nx (s.hb.set i.toNat true) (by have := h.n; omega) h.n (by rw [List.length_set, h.hl]) hb'
      exact ⟨h.w0, h.w1, b, c, by show List.length (if s.hb[i.toNat]? = some true then s.tx else s.tx.set i.toNat t) = 32; split <;> simp [h.tl], d, fun k hk => by
        have := e k hk
        show (drain _ (33 - s.nx) s.nx _).2.1 ≤ k ∧ k < (drain _ (33 - s.nx) s.nx _).2.1 + win
        omega⟩
theorem takeF_grow {win : Nat} {s : Sp} (h : SpOk win s) (i : Int) (t : ByteArray) : (takeF win s i t).2.1.length + s.nx = (takeF win s i t).2.2.nx := by
  unfold takeF
  split
  · simp
  · split
    · simp
    · rename_i h1 h2
      exact (drain_ok (if s.hb[i.toNat]? = some true then s.tx else s.tx.set i.toNat t) (s.nx + win) (33 - s.nx) s.nx (s.hb.set i.toNat true) (by have := h.n; omega) h.n (by rw [List.length_set, h.hl]) fun k hk => by
        by_cases e : i.toNat = k
        · omega
        · rw [List.getElem?_set_ne e] at hk
          exact h.inw k hk).2.2.2.2.2

theorem take_spec (n mb win : Nat) (s : Sp) (es : List ME) (ck : Nat) (i : Int) (t : ByteArray) (h : SpOk win s) (he : EsOk s es ck) (hi : i ≤ 9223372036854775807) :
    Con Try.prog 8 #[ptr n, .int .i64 i, .string t] (WB n mb win s.nx es ck) fun v A => ∃ sv G es' ck', v = .tuple #[sv, .int .i64 (takeF win s i t).1] ∧ OwnT sv (takeF win s i t).2.1 G ∧ A = WB n mb win (takeF win s i t).2.2.nx es' ck' ++ G ∧ EsOk (takeF win s i t).2.2 es' ck' := by
  unfold takeF
  split
  · rename_i h1
    exact (take_long n mb win s.nx es ck i t h1).mono fun v A ⟨e1, e2⟩ => ⟨_, [], es, ck, e1, Own.none, by rw [e2]; rfl, he⟩
  · split
    · rename_i h1 h2
      exact (take_out n mb win s.nx es ck i t (by omega) h.n h.w1 h2 hi).mono fun v A ⟨e1, e2⟩ => ⟨_, [], es, ck, e1, Own.none, by rw [e2]; rfl, he⟩
    · rename_i h1 h2
      have hk : i = ((i.toNat : Nat) : Int) := by omega
      have := take_ok n mb win s.nx es ck i.toNat t s.hb s.tx (by omega) h.n h.w1 (by omega) (by omega) (by omega) he.ok he.is_ h.hl h.tl _ _ rfl rfl
      rw [← hk] at this
      exact this.mono fun v A ⟨sv, G, es', ck', e1, e2, e3, e4, e5⟩ => ⟨sv, G, es', ck', e1, e2, e3, e4, e5⟩

/-- The numbers that are held, rising. -/
def heldL (hb : List Bool) : List Int := ((List.range hb.length).filter fun i => decide (hb[i]? = some true)).map Int.ofNat
theorem mem_heldL {hb : List Bool} {i : Int} : i ∈ heldL hb ↔ 0 ≤ i ∧ hb[i.toNat]? = some true := by
  unfold heldL
  simp only [List.mem_map, List.mem_filter, List.mem_range, decide_eq_true_eq]
  constructor
  · rintro ⟨k, ⟨h1, h2⟩, rfl⟩
    exact ⟨Int.natCast_nonneg k, by simpa using h2⟩
  · rintro ⟨h0, h1⟩
    exact ⟨i.toNat, ⟨(List.getElem?_eq_some_iff.1 h1).1, h1⟩, by show ((i.toNat : Nat) : Int) = i; omega⟩
theorem heldL_lt (hb : List Bool) : (heldL hb).Pairwise (· < ·) := by
  unfold heldL
  rw [List.pairwise_map]
  refine List.Pairwise.imp ?_ ((List.pairwise_lt_range).filter _)
  intro a b hab
  exact Int.ofNat_lt.2 hab
theorem held_keys {win : Nat} {s : Sp} {es : List ME} {ck : Nat} (h9 : SpOk win s) (he : EsOk s es ck) : (es.map ME.k).Perm (heldL s.hb) := by
  refine (List.perm_ext_iff_of_nodup he.ok.keys ((heldL_lt s.hb).imp fun h => Int.ne_of_lt h)).2 fun i => ?_
  rw [mem_heldL, ← mget_isSome, he.is_ i]
  unfold hv
  constructor
  · intro h
    split at h
    · assumption
    · cases h
  · intro h
    rw [if_pos h]
    have h1 := (List.getElem?_eq_some_iff.1 h.2).1
    have h3 := h9.hl
    have h4 := h9.tl
    cases hx : s.tx[i.toNat]? with
    | some t => rfl
    | none =>
      rw [List.getElem?_eq_none_iff] at hx
      omega
theorem held_spec (n mb win : Nat) (s : Sp) (es : List ME) (ck : Nat) (h : SpOk win s) (he : EsOk s es ck) :
    Con Try.prog 9 #[ptr n] (WB n mb win s.nx es ck) fun v A => ∃ G, OwnI v (heldL s.hb) G ∧ A = WB n mb win s.nx es ck ++ G := by
  have hperm := held_keys h he
  have hlen : es.length ≤ 8 := by
    have : (heldL s.hb).length ≤ ((List.range win).map fun q => ((s.nx + q : Nat) : Int)).length := nodup_len ((heldL_lt s.hb).imp fun h => Int.ne_of_lt h) fun i hi => by
      obtain ⟨h0, h1⟩ := mem_heldL.1 hi
      have := h.inw _ h1
      exact List.mem_map.2 ⟨i.toNat - s.nx, List.mem_range.2 (by omega), by omega⟩
    have e1 := hperm.length_eq
    simp at this e1
    have := h.w1
    omega
  refine Con.intro (vs := [_]) Try.func9 rfl Try.ntmps9 rfl (fun B => ?_)
  repeat' (first | refine Ops.nilN (inB (Cd.next ?_)) | refine Ops.lkI rfl rfl rfl rfl rfl ?_ | refine Ops.lk1 rfl rfl rfl rfl rfl ?_ | refine Ops.upI rfl rfl rfl rfl rfl (noPd rfl) ?_ | refine Ops.delI rfl rfl rfl rfl (noPd rfl) ?_ | refine Ops.lenM rfl rfl rfl rfl ?_ | refine Ops.mkM rfl rfl rfl (noPd rfl) (fun b => ?_) | refine Ops.mkF rfl rfl rfl rfl rfl ?_ | refine Ops.mkI rfl rfl (fun _ h => by cases h) rfl rfl ?_ | refine Ops.asM rfl rfl rfl rfl ?_ | refine Cd.seq ?_ | refine Cd.reg ?_ | refine Ops.nil ?_ | refine Ops.mv rfl rfl rfl rfl ?_ | refine Ops.asg rfl rfl rfl rfl ?_ | refine Ops.nilP rfl rfl rfl rfl ?_ | refine Ops.fa0 rfl rfl rfl rfl ?_ | refine Ops.fa rfl rfl rfl rfl ?_ | refine Ops.ld1 rfl rfl rfl rfl rfl ?_ | refine Ops.ldN rfl rfl rfl rfl ?_ | refine Ops.lenS rfl rfl rfl rfl ?_ | refine Ops.lenStr rfl rfl rfl rfl ?_ | refine Ops.addI rfl rfl rfl rfl (by omega) (by omega) rfl ?_ | refine Ops.subI rfl rfl rfl rfl (by omega) (by omega) rfl ?_ | refine Ops.mulI rfl rfl rfl rfl (by omega) (by omega) rfl ?_ | refine Ops.negI rfl rfl rfl (by omega) (by omega) rfl ?_ | refine Ops.maxI rfl rfl rfl rfl rfl ?_ | refine Ops.minI rfl rfl rfl rfl rfl ?_ | refine Ops.bin rfl rfl rfl rfl rfl ?_ | refine Ops.un rfl rfl rfl rfl ?_ | refine Ops.pickT rfl rfl rfl rfl rfl ?_ | refine Ops.pickF rfl rfl rfl rfl rfl ?_ | refine Ops.ext rfl rfl rfl rfl rfl ?_ | refine Ops.bld rfl rfl rfl rfl ?_ | refine Ops.box rfl rfl rfl rfl (noPd rfl) (fun b => ?_) | refine Ops.alloc rfl rfl rfl (noPd rfl) (fun b => ?_) | refine Ops.bs0 rfl rfl rfl (noPd rfl) (fun b => ?_) | refine Ops.bs1 rfl rfl rfl rfl rfl rfl rfl (noPd rfl) (fun b => ?_) | refine Ops.st1 rfl rfl rfl rfl rfl (noPd rfl) ?_ | refine Ops.stN rfl rfl rfl rfl rfl rfl (noPd rfl) ?_ | refine Ops.gSkip rfl rfl rfl ?_ | refine Ops.gSkipE rfl (noPd rfl) rfl rfl ?_ | refine Ops.gSkipU rfl rfl rfl rfl ?_ | refine Ops.gSkipUE rfl (noPd rfl) rfl rfl rfl ?_ | refine Ops.asgE rfl (noPd rfl) rfl rfl rfl ?_ | refine Cd.condT rfl rfl ?_ | refine Cd.condF rfl rfl ?_ | refine Cd.block ?_ | refine Cd.skip (Cd.next ?_) | refine Cd.skip (Cd.next (Q' := fun _ _ _ => True) ?_) | refine Cd.exit (Cd.next (Q' := fun _ _ _ => True) ?_) | refine Ops.ixa0 rfl rfl rfl rfl (by omega) (by omega) rfl ?_ | refine Ops.ixa rfl rfl rfl rfl (by omega) (by omega) rfl ?_ | refine Ops.slLo rfl rfl rfl rfl (by omega) (by omega) rfl ?_ | refine Ops.slHi rfl rfl rfl rfl (by omega) (by omega) rfl ?_ | refine Ops.slLH rfl rfl rfl rfl rfl (by omega) (by omega) (by omega) rfl ?_ | refine Ops.sl3 rfl rfl rfl rfl rfl rfl (by omega) (by omega) (by omega) (by omega) rfl ?_ | refine Ops.ldRow rfl rfl rfl (by assumption) (by assumption) rfl ?_ | refine Ops.ldRow1 rfl rfl rfl (by assumption) (by assumption) rfl rfl ?_ | refine Ops.ldCell rfl rfl rfl (by assumption) (by assumption) rfl ?_ | refine Cd.condT rfl (by first | rfl | assumption | (simp only [decide_eq_true_eq, decide_eq_false_iff_not, Bool.not_eq_true', Bool.not_eq_false', Bool.not_eq_eq_eq_not, Bool.not_true, Bool.not_false, beq_iff_eq, beq_eq_false_iff_ne, ne_eq, decide_eq_decide, eq_self, true_iff, iff_true, not_true_eq_false, not_false_eq_true]; first | done | omega)) ?_ | refine Cd.condF rfl (by first | rfl | assumption | (simp only [decide_eq_true_eq, decide_eq_false_iff_not, Bool.not_eq_true', Bool.not_eq_false', Bool.not_eq_eq_eq_not, Bool.not_true, Bool.not_false, beq_iff_eq, beq_eq_false_iff_ne, ne_eq, decide_eq_decide, eq_self, true_iff, iff_true, not_true_eq_false, not_false_eq_true]; first | done | omega)) ?_ | ((fail_if_success refine Ops.probe rfl ?_); refine Ops.gT rfl rfl (by first | rfl | assumption | (simp only [decide_eq_true_eq, decide_eq_false_iff_not, Bool.not_eq_true', Bool.not_eq_false', Bool.not_eq_eq_eq_not, Bool.not_true, Bool.not_false, beq_iff_eq, beq_eq_false_iff_ne, ne_eq, decide_eq_decide, eq_self, true_iff, iff_true, not_true_eq_false, not_false_eq_true]; first | done | omega)) ?_) | ((fail_if_success refine Ops.probe rfl ?_); refine Ops.gF rfl rfl (by first | rfl | assumption | (simp only [decide_eq_true_eq, decide_eq_false_iff_not, Bool.not_eq_true', Bool.not_eq_false', Bool.not_eq_eq_eq_not, Bool.not_true, Bool.not_false, beq_iff_eq, beq_eq_false_iff_ne, ne_eq, decide_eq_decide, eq_self, true_iff, iff_true, not_true_eq_false, not_false_eq_true]; first | done | omega)) ?_) | ((fail_if_success refine Ops.probe rfl ?_); refine Ops.gSplit rfl rfl (fun hc => ?_) (fun hc => ?_) <;> (try simp only [decide_eq_true_eq, decide_eq_false_iff_not, Bool.not_eq_true', Bool.not_eq_false', Bool.not_eq_eq_eq_not, Bool.not_true, Bool.not_false, Int.not_lt, Int.not_le] at hc)) | (refine Cd.cond rfl (fun hc => ?_) (fun hc => ?_) <;> (try simp only [decide_eq_true_eq, decide_eq_false_iff_not, Bool.not_eq_true', Bool.not_eq_false', Bool.not_eq_eq_eq_not, Bool.not_true, Bool.not_false, Int.not_lt, Int.not_le] at hc)))
  refine Ops.call (keys_spec mb) rfl (noPd rfl) rfl rfl rfl (fun v A' hR => ?_)
  obtain ⟨bx, rfl, rfl⟩ := hR
  repeat' (first | refine Ops.nilN (inB (Cd.next ?_)) | refine Ops.lkI rfl rfl rfl rfl rfl ?_ | refine Ops.lk1 rfl rfl rfl rfl rfl ?_ | refine Ops.upI rfl rfl rfl rfl rfl (noPd rfl) ?_ | refine Ops.delI rfl rfl rfl rfl (noPd rfl) ?_ | refine Ops.lenM rfl rfl rfl rfl ?_ | refine Ops.mkM rfl rfl rfl (noPd rfl) (fun b => ?_) | refine Ops.mkF rfl rfl rfl rfl rfl ?_ | refine Ops.mkI rfl rfl (fun _ h => by cases h) rfl rfl ?_ | refine Ops.asM rfl rfl rfl rfl ?_ | refine Cd.seq ?_ | refine Cd.reg ?_ | refine Ops.nil ?_ | refine Ops.mv rfl rfl rfl rfl ?_ | refine Ops.asg rfl rfl rfl rfl ?_ | refine Ops.nilP rfl rfl rfl rfl ?_ | refine Ops.fa0 rfl rfl rfl rfl ?_ | refine Ops.fa rfl rfl rfl rfl ?_ | refine Ops.ld1 rfl rfl rfl rfl rfl ?_ | refine Ops.ldN rfl rfl rfl rfl ?_ | refine Ops.lenS rfl rfl rfl rfl ?_ | refine Ops.lenStr rfl rfl rfl rfl ?_ | refine Ops.addI rfl rfl rfl rfl (by omega) (by omega) rfl ?_ | refine Ops.subI rfl rfl rfl rfl (by omega) (by omega) rfl ?_ | refine Ops.mulI rfl rfl rfl rfl (by omega) (by omega) rfl ?_ | refine Ops.negI rfl rfl rfl (by omega) (by omega) rfl ?_ | refine Ops.maxI rfl rfl rfl rfl rfl ?_ | refine Ops.minI rfl rfl rfl rfl rfl ?_ | refine Ops.bin rfl rfl rfl rfl rfl ?_ | refine Ops.un rfl rfl rfl rfl ?_ | refine Ops.pickT rfl rfl rfl rfl rfl ?_ | refine Ops.pickF rfl rfl rfl rfl rfl ?_ | refine Ops.ext rfl rfl rfl rfl rfl ?_ | refine Ops.bld rfl rfl rfl rfl ?_ | refine Ops.box rfl rfl rfl rfl (noPd rfl) (fun b => ?_) | refine Ops.alloc rfl rfl rfl (noPd rfl) (fun b => ?_) | refine Ops.bs0 rfl rfl rfl (noPd rfl) (fun b => ?_) | refine Ops.bs1 rfl rfl rfl rfl rfl rfl rfl (noPd rfl) (fun b => ?_) | refine Ops.st1 rfl rfl rfl rfl rfl (noPd rfl) ?_ | refine Ops.stN rfl rfl rfl rfl rfl rfl (noPd rfl) ?_ | refine Ops.gSkip rfl rfl rfl ?_ | refine Ops.gSkipE rfl (noPd rfl) rfl rfl ?_ | refine Ops.gSkipU rfl rfl rfl rfl ?_ | refine Ops.gSkipUE rfl (noPd rfl) rfl rfl rfl ?_ | refine Ops.asgE rfl (noPd rfl) rfl rfl rfl ?_ | refine Cd.condT rfl rfl ?_ | refine Cd.condF rfl rfl ?_ | refine Cd.block ?_ | refine Cd.skip (Cd.next ?_) | refine Cd.skip (Cd.next (Q' := fun _ _ _ => True) ?_) | refine Cd.exit (Cd.next (Q' := fun _ _ _ => True) ?_) | refine Ops.ixa0 rfl rfl rfl rfl (by omega) (by omega) rfl ?_ | refine Ops.ixa rfl rfl rfl rfl (by omega) (by omega) rfl ?_ | refine Ops.slLo rfl rfl rfl rfl (by omega) (by omega) rfl ?_ | refine Ops.slHi rfl rfl rfl rfl (by omega) (by omega) rfl ?_ | refine Ops.slLH rfl rfl rfl rfl rfl (by omega) (by omega) (by omega) rfl ?_ | refine Ops.sl3 rfl rfl rfl rfl rfl rfl (by omega) (by omega) (by omega) (by omega) rfl ?_ | refine Ops.ldRow rfl rfl rfl (by assumption) (by assumption) rfl ?_ | refine Ops.ldRow1 rfl rfl rfl (by assumption) (by assumption) rfl rfl ?_ | refine Ops.ldCell rfl rfl rfl (by assumption) (by assumption) rfl ?_ | refine Cd.condT rfl (by first | rfl | assumption | (simp only [decide_eq_true_eq, decide_eq_false_iff_not, Bool.not_eq_true', Bool.not_eq_false', Bool.not_eq_eq_eq_not, Bool.not_true, Bool.not_false, beq_iff_eq, beq_eq_false_iff_ne, ne_eq, decide_eq_decide, eq_self, true_iff, iff_true, not_true_eq_false, not_false_eq_true]; first | done | omega)) ?_ | refine Cd.condF rfl (by first | rfl | assumption | (simp only [decide_eq_true_eq, decide_eq_false_iff_not, Bool.not_eq_true', Bool.not_eq_false', Bool.not_eq_eq_eq_not, Bool.not_true, Bool.not_false, beq_iff_eq, beq_eq_false_iff_ne, ne_eq, decide_eq_decide, eq_self, true_iff, iff_true, not_true_eq_false, not_false_eq_true]; first | done | omega)) ?_ | ((fail_if_success refine Ops.probe rfl ?_); refine Ops.gT rfl rfl (by first | rfl | assumption | (simp only [decide_eq_true_eq, decide_eq_false_iff_not, Bool.not_eq_true', Bool.not_eq_false', Bool.not_eq_eq_eq_not, Bool.not_true, Bool.not_false, beq_iff_eq, beq_eq_false_iff_ne, ne_eq, decide_eq_decide, eq_self, true_iff, iff_true, not_true_eq_false, not_false_eq_true]; first | done | omega)) ?_) | ((fail_if_success refine Ops.probe rfl ?_); refine Ops.gF rfl rfl (by first | rfl | assumption | (simp only [decide_eq_true_eq, decide_eq_false_iff_not, Bool.not_eq_true', Bool.not_eq_false', Bool.not_eq_eq_eq_not, Bool.not_true, Bool.not_false, beq_iff_eq, beq_eq_false_iff_ne, ne_eq, decide_eq_decide, eq_self, true_iff, iff_true, not_true_eq_false, not_false_eq_true]; first | done | omega)) ?_) | ((fail_if_success refine Ops.probe rfl ?_); refine Ops.gSplit rfl rfl (fun hc => ?_) (fun hc => ?_) <;> (try simp only [decide_eq_true_eq, decide_eq_false_iff_not, Bool.not_eq_true', Bool.not_eq_false', Bool.not_eq_eq_eq_not, Bool.not_true, Bool.not_false, Int.not_lt, Int.not_le] at hc)) | (refine Cd.cond rfl (fun hc => ?_) (fun hc => ?_) <;> (try simp only [decide_eq_true_eq, decide_eq_false_iff_not, Bool.not_eq_true', Bool.not_eq_false', Bool.not_eq_eq_eq_not, Bool.not_true, Bool.not_false, Int.not_lt, Int.not_le] at hc)))
  refine Ops.call (sorted_spec _ _ (KeyRow es) (KeyAll es) _ (keys_iter bx mb es ck he.ok) (fun pre hpre => by have := hpre.len; omega) (fun xs hxs => by have := hxs.length_eq; simp at this; omega)) rfl (noPd rfl) rfl rfl rfl (fun v A' hR => ?_)
  obtain ⟨xs, ys, G, hxs, hp, hs, hO, rfl⟩ := hR
  have e : ys = heldL s.hb := List.Perm.eq_of_pairwise (le := (· ≤ ·)) (fun a b _ _ h1 h2 => Int.le_antisymm h1 h2) hs ((heldL_lt s.hb).imp fun h => Int.le_of_lt h) (hp.trans (hxs.trans hperm))
  subst e
  obtain ⟨sa, sc, rfl⟩ := hO.form
  repeat' (first | refine Ops.nilN (inB (Cd.next ?_)) | refine Ops.lkI rfl rfl rfl rfl rfl ?_ | refine Ops.lk1 rfl rfl rfl rfl rfl ?_ | refine Ops.upI rfl rfl rfl rfl rfl (noPd rfl) ?_ | refine Ops.delI rfl rfl rfl rfl (noPd rfl) ?_ | refine Ops.lenM rfl rfl rfl rfl ?_ | refine Ops.mkM rfl rfl rfl (noPd rfl) (fun b => ?_) | refine Ops.mkF rfl rfl rfl rfl rfl ?_ | refine Ops.mkI rfl rfl (fun _ h => by cases h) rfl rfl ?_ | refine Ops.asM rfl rfl rfl rfl ?_ | refine Cd.seq ?_ | refine Cd.reg ?_ | refine Ops.nil ?_ | refine Ops.mv rfl rfl rfl rfl ?_ | refine Ops.asg rfl rfl rfl rfl ?_ | refine Ops.nilP rfl rfl rfl rfl ?_ | refine Ops.fa0 rfl rfl rfl rfl ?_ | refine Ops.fa rfl rfl rfl rfl ?_ | refine Ops.ld1 rfl rfl rfl rfl rfl ?_ | refine Ops.ldN rfl rfl rfl rfl ?_ | refine Ops.lenS rfl rfl rfl rfl ?_ | refine Ops.lenStr rfl rfl rfl rfl ?_ | refine Ops.addI rfl rfl rfl rfl (by omega) (by omega) rfl ?_ | refine Ops.subI rfl rfl rfl rfl (by omega) (by omega) rfl ?_ | refine Ops.mulI rfl rfl rfl rfl (by omega) (by omega) rfl ?_ | refine Ops.negI rfl rfl rfl (by omega) (by omega) rfl ?_ | refine Ops.maxI rfl rfl rfl rfl rfl ?_ | refine Ops.minI rfl rfl rfl rfl rfl ?_ | refine Ops.bin rfl rfl rfl rfl rfl ?_ | refine Ops.un rfl rfl rfl rfl ?_ | refine Ops.pickT rfl rfl rfl rfl rfl ?_ | refine Ops.pickF rfl rfl rfl rfl rfl ?_ | refine Ops.ext rfl rfl rfl rfl rfl ?_ | refine Ops.bld rfl rfl rfl rfl ?_ | refine Ops.box rfl rfl rfl rfl (noPd rfl) (fun b => ?_) | refine Ops.alloc rfl rfl rfl (noPd rfl) (fun b => ?_) | refine Ops.bs0 rfl rfl rfl (noPd rfl) (fun b => ?_) | refine Ops.bs1 rfl rfl rfl rfl rfl rfl rfl (noPd rfl) (fun b => ?_) | refine Ops.st1 rfl rfl rfl rfl rfl (noPd rfl) ?_ | refine Ops.stN rfl rfl rfl rfl rfl rfl (noPd rfl) ?_ | refine Ops.gSkip rfl rfl rfl ?_ | refine Ops.gSkipE rfl (noPd rfl) rfl rfl ?_ | refine Ops.gSkipU rfl rfl rfl rfl ?_ | refine Ops.gSkipUE rfl (noPd rfl) rfl rfl rfl ?_ | refine Ops.asgE rfl (noPd rfl) rfl rfl rfl ?_ | refine Cd.condT rfl rfl ?_ | refine Cd.condF rfl rfl ?_ | refine Cd.block ?_ | refine Cd.skip (Cd.next ?_) | refine Cd.skip (Cd.next (Q' := fun _ _ _ => True) ?_) | refine Cd.exit (Cd.next (Q' := fun _ _ _ => True) ?_) | refine Ops.ixa0 rfl rfl rfl rfl (by omega) (by omega) rfl ?_ | refine Ops.ixa rfl rfl rfl rfl (by omega) (by omega) rfl ?_ | refine Ops.slLo rfl rfl rfl rfl (by omega) (by omega) rfl ?_ | refine Ops.slHi rfl rfl rfl rfl (by omega) (by omega) rfl ?_ | refine Ops.slLH rfl rfl rfl rfl rfl (by omega) (by omega) (by omega) rfl ?_ | refine Ops.sl3 rfl rfl rfl rfl rfl rfl (by omega) (by omega) (by omega) (by omega) rfl ?_ | refine Ops.ldRow rfl rfl rfl (by assumption) (by assumption) rfl ?_ | refine Ops.ldRow1 rfl rfl rfl (by assumption) (by assumption) rfl rfl ?_ | refine Ops.ldCell rfl rfl rfl (by assumption) (by assumption) rfl ?_ | refine Cd.condT rfl (by first | rfl | assumption | (simp only [decide_eq_true_eq, decide_eq_false_iff_not, Bool.not_eq_true', Bool.not_eq_false', Bool.not_eq_eq_eq_not, Bool.not_true, Bool.not_false, beq_iff_eq, beq_eq_false_iff_ne, ne_eq, decide_eq_decide, eq_self, true_iff, iff_true, not_true_eq_false, not_false_eq_true]; first | done | omega)) ?_ | refine Cd.condF rfl (by first | rfl | assumption | (simp only [decide_eq_true_eq, decide_eq_false_iff_not, Bool.not_eq_true', Bool.not_eq_false', Bool.not_eq_eq_eq_not, Bool.not_true, Bool.not_false, beq_iff_eq, beq_eq_false_iff_ne, ne_eq, decide_eq_decide, eq_self, true_iff, iff_true, not_true_eq_false, not_false_eq_true]; first | done | omega)) ?_ | ((fail_if_success refine Ops.probe rfl ?_); refine Ops.gT rfl rfl (by first | rfl | assumption | (simp only [decide_eq_true_eq, decide_eq_false_iff_not, Bool.not_eq_true', Bool.not_eq_false', Bool.not_eq_eq_eq_not, Bool.not_true, Bool.not_false, beq_iff_eq, beq_eq_false_iff_ne, ne_eq, decide_eq_decide, eq_self, true_iff, iff_true, not_true_eq_false, not_false_eq_true]; first | done | omega)) ?_) | ((fail_if_success refine Ops.probe rfl ?_); refine Ops.gF rfl rfl (by first | rfl | assumption | (simp only [decide_eq_true_eq, decide_eq_false_iff_not, Bool.not_eq_true', Bool.not_eq_false', Bool.not_eq_eq_eq_not, Bool.not_true, Bool.not_false, beq_iff_eq, beq_eq_false_iff_ne, ne_eq, decide_eq_decide, eq_self, true_iff, iff_true, not_true_eq_false, not_false_eq_true]; first | done | omega)) ?_) | ((fail_if_success refine Ops.probe rfl ?_); refine Ops.gSplit rfl rfl (fun hc => ?_) (fun hc => ?_) <;> (try simp only [decide_eq_true_eq, decide_eq_false_iff_not, Bool.not_eq_true', Bool.not_eq_false', Bool.not_eq_eq_eq_not, Bool.not_true, Bool.not_false, Int.not_lt, Int.not_le] at hc)) | (refine Cd.cond rfl (fun hc => ?_) (fun hc => ?_) <;> (try simp only [decide_eq_true_eq, decide_eq_false_iff_not, Bool.not_eq_true', Bool.not_eq_false', Bool.not_eq_eq_eq_not, Bool.not_true, Bool.not_false, Int.not_lt, Int.not_le] at hc)))
  exact Cd.ret (ret1 rfl (Res.tmp rfl) (fun _ h => (h.split : Sat _ ((n, cl [.int .i64 win, .int .i64 s.nx, .map (some mb)] 52) :: (mb, mpo es ck) :: G) _)) ⟨G, hO, rfl⟩)
end Go.Proofs.Ytjejogkmhlbegaa
