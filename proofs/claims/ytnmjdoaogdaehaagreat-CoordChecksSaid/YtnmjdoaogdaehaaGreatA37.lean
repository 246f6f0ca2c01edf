import Derived.Test.YtnmjdoaogdaehaaGreatA36
namespace Go.Proofs.YtnmjdoaogdaehaaGreat
open Go Go.Sep Go.Proofs
set_option maxRecDepth 10000
set_option maxHeartbeats 40000000
set_option synthInstance.maxSize 2000
set_option linter.unusedSimpArgs false
set_option linter.unusedVariables false
theorem take_all {fds : List Fd} {i : Nat} {fd : Fd} (f : Fd → Bool) (c : Bool) (hi : fds[i]? = some fd) : ((fds.take (i + 1)).all f && c) = (((fds.take i).all f && c) && f fd) := by
  rw [List.take_add_one, hi]
  simp only [Option.toList_some, List.all_append, List.all_cons, List.all_nil, Bool.and_true]
  cases (fds.take i).all f <;> cases f fd <;> cases c <;> rfl
theorem wcheck_spec (m : Ms) (hok : MsOk m) : Con Tryz.prog 51 #[.agg m.row.toArray] [] fun v A => v = .int .i64 (wcheckF m) ∧ A = [] := by
  refine Con.intro (vs := [_]) Tryz.func51 rfl Tryz.ntmps51 rfl (fun B => ?_)
  generalize hc3 : Code.seq (Code.region 3 _ _) _ = c3
  by_cases h0 : m.kind < 1
  · rw [show wcheckF m = 70 from if_pos (.inl h0)]
    repeat' (first | refine Cd.seq ?_ | refine Cd.reg ?_ | refine Ops.nil ?_ | refine Ops.mv rfl rfl rfl rfl ?_ | refine Ops.asg rfl rfl rfl rfl ?_ | refine Ops.fa0 rfl rfl rfl rfl ?_ | refine Ops.ld1 rfl rfl rfl rfl rfl ?_ | refine Ops.bin rfl rfl rfl rfl rfl ?_ | refine Ops.pickT rfl rfl rfl rfl rfl ?_ | refine Ops.box rfl rfl rfl rfl (noPd rfl) (fun b => ?_) | refine Ops.gSkip rfl rfl rfl ?_ | refine Cd.condT rfl rfl ?_ | ((fail_if_success refine Ops.probe rfl ?_); refine Ops.gT rfl rfl (by first | rfl | assumption | (simp only [decide_eq_true_eq, decide_eq_false_iff_not, Bool.not_eq_true', Bool.not_eq_false', Bool.not_eq_eq_eq_not, Bool.not_true, Bool.not_false, beq_iff_eq, beq_eq_false_iff_ne, ne_eq, decide_eq_decide, eq_self, true_iff, iff_true, not_true_eq_false, not_false_eq_true]; first | done | omega)) ?_))
    exact Cd.ret (ret1 (A' := []) rfl (Res.tmp rfl) (fun _ h => h.split) ⟨rfl, rfl⟩)
  by_cases h1 : 16 < m.kind
  · rw [show wcheckF m = 70 from if_pos (.inr h1)]
    repeat' (first | refine Cd.seq ?_ | refine Cd.reg ?_ | refine Ops.nil ?_ | refine Ops.mv rfl rfl rfl rfl ?_ | refine Ops.asg rfl rfl rfl rfl ?_ | refine Ops.fa0 rfl rfl rfl rfl ?_ | refine Ops.ld1 rfl rfl rfl rfl rfl ?_ | refine Ops.bin rfl rfl rfl rfl rfl ?_ | refine Ops.pickF rfl rfl rfl rfl rfl ?_ | refine Ops.box rfl rfl rfl rfl (noPd rfl) (fun b => ?_) | refine Cd.condT rfl (by first | rfl | assumption | (simp only [decide_eq_true_eq, decide_eq_false_iff_not, Bool.not_eq_true', Bool.not_eq_false', Bool.not_eq_eq_eq_not, Bool.not_true, Bool.not_false, beq_iff_eq, beq_eq_false_iff_ne, ne_eq, decide_eq_decide, eq_self, true_iff, iff_true, not_true_eq_false, not_false_eq_true]; first | done | omega)) ?_ | ((fail_if_success refine Ops.probe rfl ?_); refine Ops.gF rfl rfl (by first | rfl | assumption | (simp only [decide_eq_true_eq, decide_eq_false_iff_not, Bool.not_eq_true', Bool.not_eq_false', Bool.not_eq_eq_eq_not, Bool.not_true, Bool.not_false, beq_iff_eq, beq_eq_false_iff_ne, ne_eq, decide_eq_decide, eq_self, true_iff, iff_true, not_true_eq_false, not_false_eq_true]; first | done | omega)) ?_))
    exact Cd.ret (ret1 (A' := []) rfl (Res.tmp rfl) (fun _ h => h.split) ⟨rfl, rfl⟩)
  repeat' (first | refine Cd.seq ?_ | refine Cd.reg ?_ | refine Ops.nil ?_ | refine Ops.mv rfl rfl rfl rfl ?_ | refine Ops.asg rfl rfl rfl rfl ?_ | refine Ops.fa0 rfl rfl rfl rfl ?_ | refine Ops.ld1 rfl rfl rfl rfl rfl ?_ | refine Ops.bin rfl rfl rfl rfl rfl ?_ | refine Ops.pickF rfl rfl rfl rfl rfl ?_ | refine Ops.box rfl rfl rfl rfl (noPd rfl) (fun b => ?_) | refine Cd.skip (Cd.next ?_) | refine Cd.condF rfl (by first | rfl | assumption | (simp only [decide_eq_true_eq, decide_eq_false_iff_not, Bool.not_eq_true', Bool.not_eq_false', Bool.not_eq_eq_eq_not, Bool.not_true, Bool.not_false, beq_iff_eq, beq_eq_false_iff_ne, ne_eq, decide_eq_decide, eq_self, true_iff, iff_true, not_true_eq_false, not_false_eq_true]; first | done | omega)) ?_ | ((fail_if_success refine Ops.probe rfl ?_); refine Ops.gF rfl rfl (by first | rfl | assumption | (simp only [decide_eq_true_eq, decide_eq_false_iff_not, Bool.not_eq_true', Bool.not_eq_false', Bool.not_eq_eq_eq_not, Bool.not_true, Bool.not_false, beq_iff_eq, beq_eq_false_iff_ne, ne_eq, decide_eq_decide, eq_self, true_iff, iff_true, not_true_eq_false, not_false_eq_true]; first | done | omega)) ?_))
  rename Nat => mb
  subst hc3
  refine Cd.cut (σ := Bool) (fun c => c = okF m) (fun c => [(1, ptr mb), (3, .bool c)]) (fun _ => [MgB mb m.row]) ?_ (fun c hc => ?_)
  · skip
    refine Cd.draw [(0, 1, []), (2, 1, []), (1, 2, [2]), (3, 0, []), (4, 0, []), (5, 0, []), (6, 1, []), (7, 0, []), (8, 0, []), (9, 0, []), (10, 1, []), (11, 0, []), (12, 0, []), (13, 0, []), (14, 0, []), (15, 1, []), (16, 0, []), (17, 0, []), (18, 0, []), (19, 0, []), (20, 0, [])] (by kernel_rfl) (by kernel_rfl) (by simp only [picked, nth]; exact rfl) ?_
    repeat' (first | refine Ops.ldN rfl rfl rfl rfl ?_ | fail)
    refine Ops.call (named_spec m (by omega) (by omega)) rfl (by first | exact noPd rfl | (intro v A' hR i hi; obtain ⟨A2, hR, rfl⟩ := hR; (try obtain ⟨rfl, rfl⟩ := hR); (repeat (rcases List.mem_cons.1 hi with rfl | hi; · (first | exact Still.ld1 rfl rfl rfl rfl rfl | exact Still.ldN rfl rfl rfl rfl | exact Still.len rfl rfl rfl rfl rfl | exact Still.skip rfl rfl rfl | exact Still.ldRow1 rfl rfl rfl (by assumption) (by assumption) rfl rfl | exact Still.ldR rfl rfl rfl (by apply_assumption) rfl))); cases hi)) rfl rfl rfl (fun v A' hR => ?_)
    obtain ⟨rfl, rfl⟩ := hR
    repeat' (first | refine Ops.mv rfl rfl rfl rfl ?_ | refine Ops.asg rfl rfl rfl rfl ?_ | refine Ops.fa0 rfl rfl rfl rfl ?_ | refine Ops.ld1 rfl rfl rfl rfl rfl ?_ | refine Ops.bin rfl rfl rfl rfl rfl ?_ | refine Ops.un rfl rfl rfl rfl ?_ | refine Ops.pickT rfl rfl rfl rfl rfl ?_ | refine Ops.pickF rfl rfl rfl rfl rfl ?_ | refine Ops.gSkip rfl rfl rfl ?_ | refine Ops.gSkipU rfl rfl rfl rfl ?_ | ((fail_if_success refine Ops.probe rfl ?_); refine Ops.gSplit rfl rfl (fun hc => ?_) (fun hc => ?_) <;> (try simp only [decide_eq_true_eq, decide_eq_false_iff_not, Bool.not_eq_true', Bool.not_eq_false', Bool.not_eq_eq_eq_not, Bool.not_true, Bool.not_false, Int.not_lt, Int.not_le] at hc)))
    all_goals refine Ops.nilN (meet_end (Q := fun _ _ _ => True) _ ?_ ⟨rfl, rfl, trivial⟩ (fun w h => h.split))
    all_goals simp_all [okF, msEq]
  have hw : wcheckF m = if (fieldsF m.kind).all (fun fd => fd.may m) && c then 0 else 71 := by
    rw [hc, Bool.and_comm]; exact if_neg (by omega)
  rw [hw]
  clear hw hc
  repeat' (first | refine Cd.seq ?_ | refine Cd.reg ?_ | refine Ops.fa0 rfl rfl rfl rfl ?_ | refine Ops.ld1 rfl rfl rfl rfl rfl ?_)
  refine Ops.call (fields_spec m.kind) rfl (noPd rfl) rfl rfl rfl (fun v A' hR => ?_)
  have hlen : (fieldsF m.kind).length ≤ 5 := by
    unfold fieldsF
    (repeat' split)
    all_goals simp
  generalize fieldsF m.kind = fds at hR hlen ⊢
  rcases hR with ⟨rfl, rfl, rfl⟩ | ⟨sb, rows, G, rfl, rfl, hF⟩
  · repeat' (first | refine Ops.nil ?_ | refine Ops.mv rfl rfl rfl rfl ?_ | refine Ops.lenS rfl rfl rfl rfl ?_ | refine Cd.block ?_)
    refine Cd.loopK (σ := Unit) (fun _ => True) (fun _ => [(1, ptr mb), (3, .bool c), (37, .int .i64 0), (38, .int .i64 0)]) (fun _ => [MgB mb m.row]) (fun _ => 0) () trivial ⟨rfl, rfl, rfl, rfl, trivial⟩ (fun w h => h.split) (fun _ _ => ?_)
    cases c
    · repeat' (first | refine Cd.seq ?_ | refine Cd.reg ?_ | refine Ops.nil ?_ | refine Ops.mv rfl rfl rfl rfl ?_ | refine Ops.asg rfl rfl rfl rfl ?_ | refine Ops.bin rfl rfl rfl rfl rfl ?_ | refine Ops.un rfl rfl rfl rfl ?_ | refine Cd.condT rfl rfl ?_ | refine Cd.condF rfl rfl ?_ | refine Cd.exit (Cd.next (Q' := fun _ _ _ => True) ?_))
      exact Cd.ret (ret1 (A' := []) rfl (Res.tmp rfl) (fun _ h => h.split) ⟨rfl, rfl⟩)
    · repeat' (first | refine Cd.seq ?_ | refine Cd.reg ?_ | refine Ops.nil ?_ | refine Ops.mv rfl rfl rfl rfl ?_ | refine Ops.asg rfl rfl rfl rfl ?_ | refine Ops.bin rfl rfl rfl rfl rfl ?_ | refine Ops.un rfl rfl rfl rfl ?_ | refine Cd.condF rfl rfl ?_ | refine Cd.skip (Cd.next ?_) | refine Cd.exit (Cd.next (Q' := fun _ _ _ => True) ?_))
      exact Cd.ret (ret1 (A' := []) rfl (Res.tmp rfl) (fun _ h => h.split) ⟨rfl, rfl⟩)
  · repeat' (first | refine Ops.nil ?_ | refine Ops.mv rfl rfl rfl rfl ?_ | refine Ops.lenS rfl rfl rfl rfl ?_ | refine Cd.block ?_)
    refine Cd.loopK (σ := Nat) (fun i => i ≤ fds.length) (fun i => [(1, ptr mb), (3, .bool ((fds.take i).all (fun fd => fd.may m) && c)), (36, .slice (some ⟨sb, 0, none⟩) fds.length fds.length), (37, .int .i64 ((fds.length : Nat) : Int)), (38, .int .i64 ((i : Nat) : Int))]) (fun i => MgB mb m.row :: (sb, cl (rows.flatten ++ []) 117) :: G) (fun i => fds.length - i) 0 (Nat.zero_le _) ⟨rfl, by rw [List.take_zero]; rfl, rfl, rfl, rfl, trivial⟩ (fun w h => h.split) (fun i hi => ?_)
    by_cases hlt : i < fds.length
    · have hlt' : ((i : Nat) : Int) < ((fds.length : Nat) : Int) := by omega
      obtain ⟨fd, hfd⟩ : ∃ fd, fds[i]? = some fd := ⟨_, List.getElem?_eq_getElem hlt⟩
      obtain ⟨f1, c1, f2, c2, f3, c3, hr, k1, k2, q1, q2⟩ := hF.may hfd
      haveI := k1
      have hr2 : rows[((i : Nat) : Int).toNat]? = some [.func (.func f1) #[] c1.toArray, .func (.func f2) #[] c2.toArray, .func (.func f3) #[] c3.toArray] := by rw [Int.toNat_natCast]; exact hr
      have hs := take_all (fun fd => fd.may m) c hfd
      generalize hb : ((fds.take i).all (fun fd => fd.may m) && c) = acc at hs ⊢
      cases acc
      · repeat' (first | refine Cd.seq ?_ | refine Cd.reg ?_ | refine Ops.bin rfl rfl rfl rfl rfl ?_ | refine Cd.block ?_ | refine Cd.skip (Cd.next ?_) | refine Ops.ixa0 rfl rfl rfl rfl (by omega) (by omega) rfl ?_ | refine Cd.condT rfl (by first | rfl | assumption | (simp only [decide_eq_true_eq, decide_eq_false_iff_not, Bool.not_eq_true', Bool.not_eq_false', Bool.not_eq_eq_eq_not, Bool.not_true, Bool.not_false, beq_iff_eq, beq_eq_false_iff_ne, ne_eq, decide_eq_decide, eq_self, true_iff, iff_true, not_true_eq_false, not_false_eq_true]; first | done | omega)) ?_)
        refine Ops.ldRowN (sz := 3) (o := 0) rfl rfl rfl hF.ok hr2 rfl ?_
        repeat' (first | refine Ops.nilN (inB (Cd.next ?_)) | refine Cd.reg ?_ | refine Ops.mv rfl rfl rfl rfl ?_ | refine Ops.asg rfl rfl rfl rfl ?_ | refine Ops.addI rfl rfl rfl rfl (by omega) (by omega) rfl ?_ | refine Ops.pickF rfl rfl rfl rfl rfl ?_ | refine Ops.alloc rfl rfl rfl (noPd rfl) (fun b => ?_) | refine Ops.stN rfl rfl rfl rfl rfl rfl (noPd rfl) ?_ | refine Ops.gSkip rfl rfl rfl ?_)
        exact Ops.nilN (round_end (i + 1 : Nat) (by show i + 1 ≤ fds.length; omega) (by show fds.length - (i + 1) < fds.length - i; omega) ⟨rfl, by rw [hs]; rfl, rfl, rfl, rfl, trivial⟩ (fun w h => h.split))
      · repeat' (first | refine Cd.seq ?_ | refine Cd.reg ?_ | refine Ops.bin rfl rfl rfl rfl rfl ?_ | refine Cd.block ?_ | refine Cd.skip (Cd.next ?_) | refine Ops.ixa0 rfl rfl rfl rfl (by omega) (by omega) rfl ?_ | refine Cd.condT rfl (by first | rfl | assumption | (simp only [decide_eq_true_eq, decide_eq_false_iff_not, Bool.not_eq_true', Bool.not_eq_false', Bool.not_eq_eq_eq_not, Bool.not_true, Bool.not_false, beq_iff_eq, beq_eq_false_iff_ne, ne_eq, decide_eq_decide, eq_self, true_iff, iff_true, not_true_eq_false, not_false_eq_true]; first | done | omega)) ?_)
        refine Ops.ldRowN (sz := 3) (o := 0) rfl rfl rfl hF.ok hr2 rfl ?_
        repeat' (first | refine Cd.reg ?_ | refine Ops.mv rfl rfl rfl rfl ?_ | refine Ops.fa0 rfl rfl rfl rfl ?_ | refine Ops.ld1 rfl rfl rfl rfl rfl ?_ | refine Ops.alloc rfl rfl rfl (noPd rfl) (fun b => ?_) | refine Ops.stN rfl rfl rfl rfl rfl rfl (noPd rfl) ?_)
        refine Ops.callV (fi := []) (ca := c1) (vs := [ptr mb]) (q1 mb m hok) rfl (noPd rfl) rfl rfl rfl rfl (fun v A' hR => ?_)
        obtain ⟨rfl, rfl⟩ := hR
        repeat' (first | refine Ops.nilN (inB (Cd.next ?_)) | refine Cd.reg ?_ | refine Ops.mv rfl rfl rfl rfl ?_ | refine Ops.asg rfl rfl rfl rfl ?_ | refine Ops.addI rfl rfl rfl rfl (by omega) (by omega) rfl ?_ | refine Ops.pickT rfl rfl rfl rfl rfl ?_)
        exact Ops.nilN (round_end (i + 1 : Nat) (by show i + 1 ≤ fds.length; omega) (by show fds.length - (i + 1) < fds.length - i; omega) ⟨rfl, by rw [hs]; rfl, rfl, rfl, rfl, trivial⟩ (fun w h => h.split))
    · have hlt' : ¬ ((i : Nat) : Int) < ((fds.length : Nat) : Int) := by omega
      have he : i = fds.length := by omega
      subst he
      rw [List.take_length]
      generalize (fds.all (fun fd => fd.may m) && c) = acc
      cases acc
      · repeat' (first | refine Cd.seq ?_ | refine Cd.reg ?_ | refine Ops.nil ?_ | refine Ops.mv rfl rfl rfl rfl ?_ | refine Ops.asg rfl rfl rfl rfl ?_ | refine Ops.bin rfl rfl rfl rfl rfl ?_ | refine Ops.un rfl rfl rfl rfl ?_ | refine Cd.condT rfl rfl ?_ | refine Cd.exit (Cd.next (Q' := fun _ _ _ => True) ?_) | refine Cd.condF rfl (by first | rfl | assumption | (simp only [decide_eq_true_eq, decide_eq_false_iff_not, Bool.not_eq_true', Bool.not_eq_false', Bool.not_eq_eq_eq_not, Bool.not_true, Bool.not_false, beq_iff_eq, beq_eq_false_iff_ne, ne_eq, decide_eq_decide, eq_self, true_iff, iff_true, not_true_eq_false, not_false_eq_true]; first | done | omega)) ?_)
        exact Cd.ret (ret1 (A' := []) rfl (Res.tmp rfl) (fun _ h => h.split) ⟨rfl, rfl⟩)
      · repeat' (first | refine Cd.seq ?_ | refine Cd.reg ?_ | refine Ops.nil ?_ | refine Ops.mv rfl rfl rfl rfl ?_ | refine Ops.asg rfl rfl rfl rfl ?_ | refine Ops.bin rfl rfl rfl rfl rfl ?_ | refine Ops.un rfl rfl rfl rfl ?_ | refine Cd.condF rfl rfl ?_ | refine Cd.skip (Cd.next ?_) | refine Cd.exit (Cd.next (Q' := fun _ _ _ => True) ?_) | refine Cd.condF rfl (by first | rfl | assumption | (simp only [decide_eq_true_eq, decide_eq_false_iff_not, Bool.not_eq_true', Bool.not_eq_false', Bool.not_eq_eq_eq_not, Bool.not_true, Bool.not_false, beq_iff_eq, beq_eq_false_iff_ne, ne_eq, decide_eq_decide, eq_self, true_iff, iff_true, not_true_eq_false, not_false_eq_true]; first | done | omega)) ?_)
        exact Cd.ret (ret1 (A' := []) rfl (Res.tmp rfl) (fun _ h => h.split) ⟨rfl, rfl⟩)
end Go.Proofs.YtnmjdoaogdaehaaGreat
namespace Go.Proofs.YtnmjdoaogdaehaaGreat
open Go Go.Sep Go.Proofs
set_option maxRecDepth 10000
set_option maxHeartbeats 40000000
set_option synthInstance.maxSize 2000
set_option linter.unusedSimpArgs false
set_option linter.unusedVariables false
/-! the bytes of a message -/
def FdOk : Fd → Prop
  | .whole _ lo hi => 0 ≤ lo ∧ hi ≤ 1099511627776
  | .text _ _ hi => hi ≤ 1024
  | .result => True
theorem fields_ok (kind : Int) : ∀ fd ∈ fieldsF kind, FdOk fd := by
  unfold fieldsF
  (repeat' split)
  all_goals simp [FdOk]
theorem lay_size {fd : Fd} (h : FdOk fd) {m : Ms} (hok : MsOk m) (hm : fd.may m = true) : (fd.lay m).size ≤ 1100 := by
  cases fd with
  | whole w lo hi =>
    simp only [Fd.may, decide_eq_true_eq] at hm
    obtain ⟨h1, h2⟩ := h
    have := numB_size (n := (w.get m).toNat) (by omega)
    show (numB (w.get m).toNat).size ≤ _
    omega
  | text t lo hi =>
    simp only [Fd.may, decide_eq_true_eq] at hm
    have h1 : hi ≤ 1024 := h
    have := frameF_size (t.get m) (by omega)
    show (frameF (t.get m)).size ≤ _
    omega
  | result =>
    simp only [Fd.may, Bool.or_eq_true, Bool.and_eq_true, decide_eq_true_eq] at hm
    have h1 := numB_size (n := m.rcode.toNat) (by omega)
    have h2 := hiB_size m.rbits.toNat 8
    show (numB m.rcode.toNat ++ hiB m.rbits.toNat 8).size ≤ _
    rw [ByteArray.size_append]
    omega
/-- The first fields' bytes, behind the kind. -/
def layG (m : Ms) (fds : List Fd) : Nat → ByteArray
  | 0 => numB m.kind.toNat
  | i + 1 => layG m fds i ++ (match fds[i]? with | some fd => fd.lay m | none => .empty)
theorem layG_size {m : Ms} {fds : List Fd} (hk : 0 ≤ m.kind ∧ m.kind ≤ 16) (ho : ∀ fd ∈ fds, FdOk fd) (hok : MsOk m) (hm : ∀ fd ∈ fds, fd.may m = true) : ∀ i, (layG m fds i).size ≤ 10 + i * 1100
  | 0 => by
    have := numB_size (n := m.kind.toNat) (by omega)
    show (numB m.kind.toNat).size ≤ _
    omega
  | i + 1 => by
    have ih := layG_size hk ho hok hm i
    rw [layG, ByteArray.size_append]
    cases hf : fds[i]? with
    | none => simp only [ByteArray.size_empty]; omega
    | some fd =>
      have hmem := List.mem_of_getElem? hf
      have := lay_size (ho fd hmem) hok (hm fd hmem)
      dsimp only
      omega
def encF (m : Ms) : ByteArray × Int := if wcheckF m = 0 then (layG m (fieldsF m.kind) (fieldsF m.kind).length, 0) else (⟨#[]⟩, wcheckF m)
end Go.Proofs.YtnmjdoaogdaehaaGreat
namespace Go.Proofs.YtnmjdoaogdaehaaGreat
open Go Go.Sep Go.Proofs
set_option maxRecDepth 10000
set_option maxHeartbeats 40000000
set_option synthInstance.maxSize 2000
set_option linter.unusedSimpArgs false
set_option linter.unusedVariables false
theorem wencode_spec (m : Ms) (hok : MsOk m) : Con Tryz.prog 171 #[.agg m.row.toArray] [] fun v A => v = .tuple #[.string (encF m).1, .int .i64 (encF m).2] ∧ A = [] := by
  refine Con.intro (vs := [_]) Tryz.func171 rfl Tryz.ntmps171 rfl (fun B => ?_)
  repeat' (first | refine Cd.seq ?_ | refine Cd.reg ?_ | refine Ops.asg rfl rfl rfl rfl ?_ | refine Ops.ldN rfl rfl rfl rfl ?_ | refine Ops.box rfl rfl rfl rfl (noPd rfl) (fun b => ?_))
  rename Nat => mb
  refine Ops.call (wcheck_spec m hok) rfl (noPd rfl) rfl rfl rfl (fun v A' hR => ?_)
  obtain ⟨rfl, rfl⟩ := hR
  by_cases hc : wcheckF m = 0
  case neg =>
    rw [show encF m = (⟨#[]⟩, wcheckF m) from if_neg hc]
    generalize wcheckF m = e at hc ⊢
    repeat' (first | refine Cd.seq ?_ | refine Cd.reg ?_ | refine Ops.nil ?_ | refine Ops.mv rfl rfl rfl rfl ?_ | refine Ops.asg rfl rfl rfl rfl ?_ | refine Ops.bin rfl rfl rfl rfl rfl ?_ | refine Cd.condT rfl (by first | rfl | assumption | (simp only [decide_eq_true_eq, decide_eq_false_iff_not, Bool.not_eq_true', Bool.not_eq_false', Bool.not_eq_eq_eq_not, Bool.not_true, Bool.not_false, beq_iff_eq, beq_eq_false_iff_ne, ne_eq, decide_eq_decide, eq_self, true_iff, iff_true, not_true_eq_false, not_false_eq_true]; first | done | omega)) ?_)
    exact Cd.ret (ret2 (A' := []) rfl (Res.tmp rfl) (Res.tmp rfl) (fun _ h => h.split) ⟨rfl, rfl⟩)
  rw [show encF m = (layG m (fieldsF m.kind) (fieldsF m.kind).length, 0) from if_pos hc, hc]
  have hk : 1 ≤ m.kind ∧ m.kind ≤ 16 := by
    unfold wcheckF at hc
    split at hc
    · cases hc
    · omega
  have hall : ∀ fd ∈ fieldsF m.kind, fd.may m = true := by
    unfold wcheckF at hc
    split at hc
    · cases hc
    · split at hc
      · rename_i h
        rw [Bool.and_eq_true, List.all_eq_true] at h
        exact h.2
      · cases hc
  clear hc
  have hlen : (fieldsF m.kind).length ≤ 5 := by
    unfold fieldsF
    (repeat' split)
    all_goals simp
  have hsz := layG_size (m := m) (by omega) (fields_ok m.kind) hok hall
  have hlay : ∀ fd ∈ fieldsF m.kind, (fd.lay m).size ≤ 1100 := fun fd h => lay_size (fields_ok m.kind fd h) hok (hall fd h)
  repeat' (first | refine Cd.seq ?_ | refine Cd.reg ?_ | refine Ops.nil ?_ | refine Ops.mv rfl rfl rfl rfl ?_ | refine Ops.asg rfl rfl rfl rfl ?_ | refine Ops.fa0 rfl rfl rfl rfl ?_ | refine Ops.ld1 rfl rfl rfl rfl rfl ?_ | refine Ops.bin rfl rfl rfl rfl rfl ?_ | refine Cd.condF rfl rfl ?_ | refine Cd.skip (Cd.next ?_))
  refine Ops.cvI rfl rfl rfl rfl ?_
  rw [show IntKind.wrap .u64 m.kind = ((m.kind.toNat : Nat) : Int) from by simp [IntKind.wrap, IntKind.bits, IntKind.signed]; omega]
  refine Ops.call (num_spec m.kind.toNat (by omega)) rfl (noPd rfl) rfl rfl rfl (fun v A' hR => ?_)
  obtain ⟨rfl, rfl⟩ := hR
  repeat' (first | refine Cd.seq ?_ | refine Cd.reg ?_ | refine Ops.asg rfl rfl rfl rfl ?_ | refine Ops.fa0 rfl rfl rfl rfl ?_ | refine Ops.ld1 rfl rfl rfl rfl rfl ?_)
  refine Ops.call (fields_spec m.kind) rfl (noPd rfl) rfl rfl rfl (fun v A' hR => ?_)
  generalize fieldsF m.kind = fds at hR hlen hsz hlay hall ⊢
  rcases hR with ⟨rfl, rfl, rfl⟩ | ⟨sb, rows, G, rfl, rfl, hF⟩
  · repeat' (first | refine Ops.nil ?_ | refine Ops.mv rfl rfl rfl rfl ?_ | refine Ops.lenS rfl rfl rfl rfl ?_ | refine Cd.block ?_)
    refine Cd.loopK (σ := Unit) (fun _ => True) (fun _ => [(1, ptr mb), (5, .string (layG m [] 0)), (20, .int .i64 0), (21, .int .i64 0)]) (fun _ => [MgB mb m.row]) (fun _ => 0) () trivial ⟨rfl, rfl, rfl, rfl, trivial⟩ (fun w h => h.split) (fun _ _ => ?_)
    repeat' (first | refine Cd.seq ?_ | refine Cd.reg ?_ | refine Ops.nil ?_ | refine Ops.mv rfl rfl rfl rfl ?_ | refine Ops.asg rfl rfl rfl rfl ?_ | refine Ops.bin rfl rfl rfl rfl rfl ?_ | refine Cd.condF rfl rfl ?_ | refine Cd.exit (Cd.next (Q' := fun _ _ _ => True) ?_))
    exact Cd.ret (ret2 (A' := []) rfl (Res.tmp rfl) (Res.tmp rfl) (fun _ h => h.split) ⟨rfl, rfl⟩)
  · repeat' (first | refine Ops.nil ?_ | refine Ops.mv rfl rfl rfl rfl ?_ | refine Ops.lenS rfl rfl rfl rfl ?_ | refine Cd.block ?_)
    refine Cd.loopK (σ := Nat) (fun i => i ≤ fds.length) (fun i => [(1, ptr mb), (5, .string (layG m fds i)), (19, .slice (some ⟨sb, 0, none⟩) fds.length fds.length), (20, .int .i64 ((fds.length : Nat) : Int)), (21, .int .i64 ((i : Nat) : Int))]) (fun i => MgB mb m.row :: (sb, cl (rows.flatten ++ []) 117) :: G) (fun i => fds.length - i) 0 (Nat.zero_le _) ⟨rfl, rfl, rfl, rfl, rfl, trivial⟩ (fun w h => h.split) (fun i hi => ?_)
    by_cases hlt : i < fds.length
    · have hlt' : ((i : Nat) : Int) < ((fds.length : Nat) : Int) := by omega
      obtain ⟨fd, hfd⟩ : ∃ fd, fds[i]? = some fd := ⟨_, List.getElem?_eq_getElem hlt⟩
      obtain ⟨f1, c1, f2, c2, f3, c3, hr, k1, k2, q1, q2⟩ := hF.may hfd
      haveI := k2
      have hmem := List.mem_of_getElem? hfd
      have hr2 : rows[((i : Nat) : Int).toNat]? = some [.func (.func f1) #[] c1.toArray, .func (.func f2) #[] c2.toArray, .func (.func f3) #[] c3.toArray] := by rw [Int.toNat_natCast]; exact hr
      have hs : layG m fds (i + 1) = layG m fds i ++ fd.lay m := by rw [layG, hfd]
      have hz1 := hsz i
      have hz2 := hlay fd hmem
      generalize layG m fds i = acc at hs hz1 ⊢
      repeat' (first | refine Cd.seq ?_ | refine Cd.reg ?_ | refine Ops.bin rfl rfl rfl rfl rfl ?_ | refine Cd.block ?_ | refine Cd.skip (Cd.next ?_) | refine Ops.ixa0 rfl rfl rfl rfl (by omega) (by omega) rfl ?_ | refine Cd.condT rfl (by first | rfl | assumption | (simp only [decide_eq_true_eq, decide_eq_false_iff_not, Bool.not_eq_true', Bool.not_eq_false', Bool.not_eq_eq_eq_not, Bool.not_true, Bool.not_false, beq_iff_eq, beq_eq_false_iff_ne, ne_eq, decide_eq_decide, eq_self, true_iff, iff_true, not_true_eq_false, not_false_eq_true]; first | done | omega)) ?_)
      refine Ops.ldRowN (sz := 3) (o := 0) rfl rfl rfl hF.ok hr2 rfl ?_
      repeat' (first | refine Cd.reg ?_ | refine Ops.mv rfl rfl rfl rfl ?_ | refine Ops.fa0 rfl rfl rfl rfl ?_ | refine Ops.ld1 rfl rfl rfl rfl rfl ?_ | refine Ops.alloc rfl rfl rfl (noPd rfl) (fun b => ?_) | refine Ops.stN rfl rfl rfl rfl rfl rfl (noPd rfl) ?_)
      refine Ops.callV (fi := []) (ca := c2) (vs := [ptr mb]) (q2 mb m hok (hall fd hmem)) rfl (noPd rfl) rfl rfl rfl rfl (fun v A' hR => ?_)
      obtain ⟨rfl, rfl⟩ := hR
      refine Ops.cat rfl rfl rfl rfl (by omega) rfl ?_
      repeat' (first | refine Ops.nilN (inB (Cd.next ?_)) | refine Cd.reg ?_ | refine Ops.mv rfl rfl rfl rfl ?_ | refine Ops.asg rfl rfl rfl rfl ?_ | refine Ops.addI rfl rfl rfl rfl (by omega) (by omega) rfl ?_)
      exact Ops.nilN (round_end (i + 1 : Nat) (by show i + 1 ≤ fds.length; omega) (by show fds.length - (i + 1) < fds.length - i; omega) ⟨rfl, by rw [hs]; rfl, rfl, rfl, rfl, trivial⟩ (fun w h => h.split))
    · have hlt' : ¬ ((i : Nat) : Int) < ((fds.length : Nat) : Int) := by omega
      have he : i = fds.length := by omega
      subst he
      repeat' (first | refine Cd.seq ?_ | refine Cd.reg ?_ | refine Ops.nil ?_ | refine Ops.mv rfl rfl rfl rfl ?_ | refine Ops.asg rfl rfl rfl rfl ?_ | refine Ops.bin rfl rfl rfl rfl rfl ?_ | refine Cd.exit (Cd.next (Q' := fun _ _ _ => True) ?_) | refine Cd.condF rfl (by first | rfl | assumption | (simp only [decide_eq_true_eq, decide_eq_false_iff_not, Bool.not_eq_true', Bool.not_eq_false', Bool.not_eq_eq_eq_not, Bool.not_true, Bool.not_false, beq_iff_eq, beq_eq_false_iff_ne, ne_eq, decide_eq_decide, eq_self, true_iff, iff_true, not_true_eq_false, not_false_eq_true]; first | done | omega)) ?_)
      exact Cd.ret (ret2 (A' := []) rfl (Res.tmp rfl) (Res.tmp rfl) (fun _ h => h.split) ⟨rfl, rfl⟩)
end Go.Proofs.YtnmjdoaogdaehaaGreat
namespace Go.Proofs.YtnmjdoaogdaehaaGreat
open Go Go.Sep Go.Proofs
set_option maxRecDepth 10000
set_option maxHeartbeats 40000000
set_option synthInstance.maxSize 2000
set_option linter.unusedSimpArgs false
set_option linter.unusedVariables false
/-! fields that are read -/
theorem ConB.insert2 {P : Program} {B0 : Base} {f : FuncId} {args : Array Value} {x y x' y' : Blk} {H : List Blk} (G0 : List Blk) (h : ConB P B0 f args (x :: y :: H) fun v A => A = x' :: y' :: H) : ConB P B0 f args (x :: y :: (G0 ++ H)) fun v A => A = x' :: y' :: (G0 ++ H) :=
  ((h.beside (F := G0)).permIn (List.Perm.cons x (List.Perm.cons y List.perm_append_comm))).permOut fun v A' hR => by
    obtain ⟨A2, rfl, rfl⟩ := hR
    exact ⟨_, rfl, List.Perm.cons x' (List.Perm.cons y' List.perm_append_comm)⟩
theorem ConB.append2 {P : Program} {B0 : Base} {f : FuncId} {args : Array Value} {x y x' y' : Blk} {H : List Blk} (G0 : List Blk) (h : ConB P B0 f args (x :: y :: H) fun v A => A = x' :: y' :: H) : ConB P B0 f args (x :: y :: (H ++ G0)) fun v A => A = x' :: y' :: (H ++ G0) :=
  (h.beside (F := G0)).mono fun v A' hR => by
    obtain ⟨A2, rfl, rfl⟩ := hR
    rfl
theorem FdsA.read {fds : List Fd} {rows : List (List Value)} {G : List Blk} (h : FdsA fds rows G) : ∀ {i : Nat} {fd : Fd}, fds[i]? = some fd → ∃ f1 c1 f2 c2 f3 c3, rows[i]? = some [.func (.func f1) #[] (c1 : List Value).toArray, .func (.func f2) #[] (c2 : List Value).toArray, .func (.func f3) #[] (c3 : List Value).toArray] ∧ FnOk Tryz.prog f3 ∧
    (∀ B0 mb m rb (bs : ByteArray) (p : Nat) (e : Int), p ≤ bs.size → bs.size ≤ 1000000 → ConB Tryz.prog B0 f3 ([ptr mb, ptr rb] ++ c3).toArray (MgB mb m.row :: RdB rb bs p e :: G) fun v A => A = MgB mb (fd.read bs (m, p, e)).1.row :: RdB rb bs ((fd.read bs (m, p, e)).2.1 : Nat) (fd.read bs (m, p, e)).2.2 :: G) := by
  induction h with
  | nil => intro i fd hi; simp at hi
  | @cons fd0 fds v1 v2 v3 rows G0 H h1 h2 ih =>
    intro i fd hi
    cases i with
    | zero =>
      simp only [List.getElem?_cons_zero, Option.some.injEq] at hi
      subst hi
      obtain ⟨⟨f1, c1, rfl, _⟩, ⟨f2, c2, rfl, _⟩, ⟨f3, c3, rfl, k3, q3⟩⟩ := h1
      exact ⟨f1, c1, f2, c2, f3, c3, rfl, k3, fun B0 mb m rb bs p e hp hb => ConB.append2 H (q3 B0 mb m rb bs p e hp hb)⟩
    | succ i =>
      simp only [List.getElem?_cons_succ] at hi
      obtain ⟨f1, c1, f2, c2, f3, c3, hr, k3, q3⟩ := ih hi
      exact ⟨f1, c1, f2, c2, f3, c3, by simpa using hr, k3, fun B0 mb m rb bs p e hp hb => ConB.insert2 G0 (q3 B0 mb m rb bs p e hp hb)⟩
theorem rdBits_at {b : ByteArray} {p : Nat} {e : Int} (hp : p ≤ b.size) : (rdBits b p e).2.1 ≤ b.size := by
  unfold rdBits
  split
  · exact hp
  · split
    · assumption
    · exact hp
theorem Fd.read_at (fd : Fd) {b : ByteArray} {m : Ms} {p : Nat} {e : Int} (hp : p ≤ b.size) : (fd.read b (m, p, e)).2.1 ≤ b.size := by
  cases fd with
  | whole w lo hi => exact rdNum_at hp
  | text t lo hi => exact rdText_at hp
  | result => exact rdBits_at (rdNum_at hp)
end Go.Proofs.YtnmjdoaogdaehaaGreat
