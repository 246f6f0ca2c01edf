import Derived.Test.YtnmjdoaogdaehaaGreatA37
import Derived.Test.YtnmjdoaogdaehaaGreatA32
namespace Go.Proofs.YtnmjdoaogdaehaaGreat
open Go Go.Sep Go.Proofs
set_option maxRecDepth 10000
set_option maxHeartbeats 40000000
set_option synthInstance.maxSize 2000
set_option linter.unusedSimpArgs false
set_option linter.unusedVariables false
/-! wire.Decode -/
theorem rdText_size (b : ByteArray) (most p : Nat) (e : Int) : (rdText b most p e).1.size ≤ b.size := by
  unfold rdText txR
  split
  · exact Nat.zero_le _
  · split
    · exact Nat.zero_le _
    · rename_i u q h
      split at h
      · cases h
      · split at h
        · rename_i n q2 _ hle
          injection h with h
          injection h with h1 h2
          rw [← h1, ByteArray.size_extract]
          omega
        · cases h
theorem rdBits_lt (b : ByteArray) (p : Nat) (e : Int) : (rdBits b p e).1 < 18446744073709551616 := by
  unfold rdBits
  split
  · show (0 : Nat) < _; omega
  · split
    · exact ofn_lt _ 8
    · show (0 : Nat) < _; omega
theorem MsOk.read {m : Ms} (h : MsOk m) (fd : Fd) {b : ByteArray} (hb : b.size ≤ 100000) (p : Nat) (e : Int) : MsOk (fd.read b (m, p, e)).1 := by
  obtain ⟨h1, h2, h3⟩ := h
  cases fd with
  | whole w lo hi => cases w <;> exact ⟨h1, h2, h3⟩
  | text t lo hi =>
    have h4 := rdText_size b hi p e
    cases t
    · exact ⟨by show (rdText b hi p e).1.size ≤ _; omega, h2, h3⟩
    · exact ⟨h1, by show (rdText b hi p e).1.size ≤ _; omega, h3⟩
  | result =>
    have h4 := rdBits_lt b (rdNum b 7 p e).2.1 (rdNum b 7 p e).2.2
    exact ⟨h1, h2, by show 0 ≤ (((rdBits b (rdNum b 7 p e).2.1 (rdNum b 7 p e).2.2).1 : Nat) : Int) ∧ (((rdBits b (rdNum b 7 p e).2.1 (rdNum b 7 p e).2.2).1 : Nat) : Int) < _; omega⟩
/-- The first i fields, read. -/
def readG (b : ByteArray) (fds : List Fd) (s : Ms × Nat × Int) : Nat → Ms × Nat × Int
  | 0 => s
  | i + 1 => match fds[i]? with
    | none => readG b fds s i
    | some fd => fd.read b (readG b fds s i)
theorem readG_at {b : ByteArray} {fds : List Fd} {s : Ms × Nat × Int} (h : s.2.1 ≤ b.size) (hb : b.size ≤ 100000) (ho : MsOk s.1) : ∀ i, (readG b fds s i).2.1 ≤ b.size ∧ MsOk (readG b fds s i).1
  | 0 => ⟨h, ho⟩
  | i + 1 => by
    obtain ⟨h1, h2⟩ := readG_at (fds := fds) h hb ho i
    unfold readG
    split
    · exact ⟨h1, h2⟩
    · rename_i fd _
      exact ⟨Fd.read_at fd (m := (readG b fds s i).1) (e := (readG b fds s i).2.2) h1, h2.read fd hb _ _⟩
@[reducible] def Ms.of (k : Int) : Ms := ⟨k, 0, 0, 0, 0, 0, 0, 0, 0, ⟨#[]⟩, ⟨#[]⟩⟩
def readK (b : ByteArray) : Ms × Nat × Int := (Ms.of ((rdNum b 16 0 0).1 : Nat), (rdNum b 16 0 0).2)
def readM (b : ByteArray) : Ms × Nat × Int := readG b (fieldsF ((rdNum b 16 0 0).1 : Nat)) (readK b) (fieldsF ((rdNum b 16 0 0).1 : Nat)).length
/-- What bytes say. -/
def decF (b : ByteArray) : Ms × Int := if 2048 < b.size then (Ms.zero, 73) else if (endF b (readM b).2.1 (readM b).2.2).1 = 0 ∧ wcheckF (readM b).1 = 0 then ((readM b).1, 0) else (Ms.zero, 72)
theorem wdecode_spec (B0 : Base) (bs : ByteArray) (hb0 : bs.size < 9223372036854775808) : ConB Tryz.prog B0 22 #[.string bs] [] fun v A => v = .tuple #[.agg (decF bs).1.row.toArray, .int .i64 (decF bs).2] ∧ A = [] := by
  refine ConB.intro (vs := [_]) Tryz.func22 rfl Tryz.ntmps22 rfl (fun B hB => ?_)
  by_cases hb : 2048 < bs.size
  · rw [show decF bs = (Ms.zero, 73) from if_pos hb]
    have hb' : (2048 : Int) < (bs.size : Int) := by omega
    repeat' (first | refine Cd.seq ?_ | refine Cd.reg ?_ | refine Ops.nil ?_ | refine Ops.mv rfl rfl rfl rfl ?_ | refine Ops.asg rfl rfl rfl rfl ?_ | refine Ops.lenStr rfl rfl rfl rfl ?_ | refine Ops.bin rfl rfl rfl rfl rfl ?_ | refine Ops.bld rfl rfl rfl rfl ?_ | refine Ops.alloc rfl rfl rfl (noPd rfl) (fun b => ?_) | refine Ops.stN rfl rfl rfl rfl rfl rfl (noPd rfl) ?_ | refine Cd.condT rfl (by first | rfl | assumption | (simp only [decide_eq_true_eq, decide_eq_false_iff_not, Bool.not_eq_true', Bool.not_eq_false', Bool.not_eq_eq_eq_not, Bool.not_true, Bool.not_false, beq_iff_eq, beq_eq_false_iff_ne, ne_eq, decide_eq_decide, eq_self, true_iff, iff_true, not_true_eq_false, not_false_eq_true]; first | done | omega)) ?_)
    exact Cd.ret (ret2 (A' := []) rfl (Res.cellN rfl) (Res.tmp rfl) (fun _ h => h.split) ⟨rfl, rfl⟩)
  have hb' : ¬ (2048 : Int) < (bs.size : Int) := by omega
  rw [show decF bs = if (endF bs (readM bs).2.1 (readM bs).2.2).1 = 0 ∧ wcheckF (readM bs).1 = 0 then ((readM bs).1, 0) else (Ms.zero, 72) from if_neg hb]
  repeat' (first | refine Cd.seq ?_ | refine Cd.reg ?_ | refine Ops.nil ?_ | refine Ops.mv rfl rfl rfl rfl ?_ | refine Ops.asg rfl rfl rfl rfl ?_ | refine Ops.lenStr rfl rfl rfl rfl ?_ | refine Ops.bin rfl rfl rfl rfl rfl ?_ | refine Ops.alloc rfl rfl rfl (noPd rfl) (fun b => ?_) | refine Cd.skip (Cd.next ?_) | refine Cd.condF rfl (by first | rfl | assumption | (simp only [decide_eq_true_eq, decide_eq_false_iff_not, Bool.not_eq_true', Bool.not_eq_false', Bool.not_eq_eq_eq_not, Bool.not_true, Bool.not_false, beq_iff_eq, beq_eq_false_iff_ne, ne_eq, decide_eq_decide, eq_self, true_iff, iff_true, not_true_eq_false, not_false_eq_true]; first | done | omega)) ?_)
  rename Nat => zb
  refine Ops.call (read_spec bs) rfl (noPd rfl) rfl rfl rfl (fun v A' hR => ?_)
  obtain ⟨rb, rfl, rfl⟩ := hR
  repeat' (first | refine Cd.seq ?_ | refine Cd.reg ?_ | refine Ops.mv rfl rfl rfl rfl ?_ | refine Ops.asg rfl rfl rfl rfl ?_)
  refine Ops.callB (rnum_spec B0 rb bs 0 16 0 (Nat.zero_le _) (by omega) (by omega)) hB rfl (noPd rfl) rfl rfl rfl (fun v A' hR => ?_)
  obtain ⟨rfl, rfl⟩ := hR
  have hk : (rdNum bs 16 0 0).1 ≤ 16 := rdNum_le
  have hkp : (rdNum bs 16 0 0).2.1 ≤ bs.size := rdNum_at (Nat.zero_le _)
  have hsp : readM bs = readG bs (fieldsF ((rdNum bs 16 0 0).1 : Nat)) (Ms.of ((rdNum bs 16 0 0).1 : Nat), (rdNum bs 16 0 0).2) (fieldsF ((rdNum bs 16 0 0).1 : Nat)).length := rfl
  generalize readM bs = rm at hsp ⊢
  generalize rdNum bs 16 0 0 = r0 at hsp hk hkp ⊢
  obtain ⟨kd, p0, e0⟩ := r0
  dsimp only at hsp hk hkp ⊢
  skip
  refine Ops.cvI rfl rfl rfl rfl ?_
  rw [show IntKind.wrap .i64 ((kd : Nat) : Int) = ((kd : Nat) : Int) from by simp [IntKind.wrap, IntKind.bits, IntKind.signed]; omega]
  generalize hc5 : Code.seq (Code.seq (Code.region 5 _ _) _) _ = c5
  repeat' (first | refine Ops.nil ?_ | refine Ops.bld rfl rfl rfl rfl ?_ | refine Ops.alloc rfl rfl rfl (noPd rfl) (fun b => ?_) | refine Ops.stN rfl rfl rfl rfl rfl rfl (noPd rfl) ?_)
  rename Nat => mb
  subst hc5
  have hlen : (fieldsF (kd : Int)).length ≤ 5 := by
    unfold fieldsF
    (repeat' split)
    all_goals simp
  have hat := readG_at (b := bs) (fds := fieldsF (kd : Int)) (s := (Ms.of (kd : Int), p0, e0)) hkp (by omega) ⟨Nat.zero_le _, Nat.zero_le _, by show (0 : Int) ≤ 0 ∧ (0 : Int) < _; omega⟩
  have hat1 := hat (fieldsF (kd : Int)).length
  rw [← hsp] at hat1
  refine Cd.cut (σ := Unit) (fun _ => True) (fun _ => [(2, ptr zb), (4, ptr rb), (5, ptr mb)]) (fun _ => [MgB mb rm.1.row, RdB rb bs (rm.2.1 : Nat) rm.2.2, (zb, cl Ms.zero.row 61)]) ?_ (fun _ _ => ?_)
  · repeat' (first | refine Cd.seq ?_ | refine Cd.reg ?_ | refine Ops.fa0 rfl rfl rfl rfl ?_ | refine Ops.ld1 rfl rfl rfl rfl rfl ?_)
    refine Ops.call (fields_spec (kd : Int)) rfl (noPd rfl) rfl rfl rfl (fun v A' hR => ?_)
    generalize fieldsF (kd : Int) = fds at hR hlen hat hsp ⊢
    rcases hR with ⟨rfl, rfl, rfl⟩ | ⟨sb, rows, G, rfl, rfl, hF⟩
    · have e : rm = (Ms.of (kd : Int), p0, e0) := hsp
      subst e
      repeat' (first | refine Ops.nil ?_ | refine Ops.mv rfl rfl rfl rfl ?_ | refine Ops.lenS rfl rfl rfl rfl ?_ | refine Cd.block ?_)
      refine Cd.loopK (σ := Unit) (fun _ => True) (fun _ => [(2, ptr zb), (4, ptr rb), (5, ptr mb), (23, .int .i64 0), (24, .int .i64 0)]) (fun _ => [MgB mb (Ms.of (kd : Int)).row, RdB rb bs (p0 : Nat) e0, (zb, cl Ms.zero.row 61)]) (fun _ => 0) () trivial ⟨rfl, rfl, rfl, rfl, rfl, trivial⟩ (fun w h => h.split) (fun _ _ => ?_)
      repeat' (first | refine Cd.seq ?_ | refine Cd.reg ?_ | refine Ops.bin rfl rfl rfl rfl rfl ?_ | refine Cd.condF rfl rfl ?_)
      exact Cd.exit (inTx (roundX (inBs (meet_end (Q := fun _ _ _ => True) () trivial ⟨rfl, rfl, rfl, trivial⟩ (fun w h => h.split)))))
    · repeat' (first | refine Ops.nil ?_ | refine Ops.mv rfl rfl rfl rfl ?_ | refine Ops.lenS rfl rfl rfl rfl ?_ | refine Cd.block ?_)
      refine Cd.loopK (σ := Nat) (fun i => i ≤ fds.length) (fun i => [(2, ptr zb), (4, ptr rb), (5, ptr mb), (22, .slice (some ⟨sb, 0, none⟩) fds.length fds.length), (23, .int .i64 ((fds.length : Nat) : Int)), (24, .int .i64 ((i : Nat) : Int))]) (fun i => MgB mb (readG bs fds (Ms.of (kd : Int), p0, e0) i).1.row :: RdB rb bs ((readG bs fds (Ms.of (kd : Int), p0, e0) i).2.1 : Nat) (readG bs fds (Ms.of (kd : Int), p0, e0) i).2.2 :: (zb, cl Ms.zero.row 61) :: (sb, cl (rows.flatten ++ []) 117) :: G) (fun i => fds.length - i) 0 (Nat.zero_le _) ⟨rfl, rfl, rfl, rfl, rfl, rfl, trivial⟩ (fun w h => (h.split : Sat _ (MgB mb (Ms.of (kd : Int)).row :: RdB rb bs (p0 : Nat) e0 :: (zb, cl Ms.zero.row 61) :: (sb, cl (rows.flatten ++ []) 117) :: G) w)) (fun i hi => ?_)
      by_cases hlt : i < fds.length
      · have hlt' : ((i : Nat) : Int) < ((fds.length : Nat) : Int) := by omega
        obtain ⟨fd, hfd⟩ : ∃ fd, fds[i]? = some fd := ⟨_, List.getElem?_eq_getElem hlt⟩
        obtain ⟨f1, c1, f2, c2, f3, c3, hr, k3, q3⟩ := hF.read hfd
        haveI := k3
        have hr2 : rows[((i : Nat) : Int).toNat]? = some [.func (.func f1) #[] c1.toArray, .func (.func f2) #[] c2.toArray, .func (.func f3) #[] c3.toArray] := by rw [Int.toNat_natCast]; exact hr
        have hs : readG bs fds (Ms.of (kd : Int), p0, e0) (i + 1) = fd.read bs (readG bs fds (Ms.of (kd : Int), p0, e0) i) := by rw [readG, hfd]
        have hz1 := hat i
        clear hsp hat
        generalize readG bs fds (Ms.of (kd : Int), p0, e0) i = ri at hs hz1 ⊢
        obtain ⟨mi, pi, ei⟩ := ri
        dsimp only at hz1 ⊢
        repeat' (first | refine Cd.seq ?_ | refine Cd.reg ?_ | refine Ops.bin rfl rfl rfl rfl rfl ?_ | refine Cd.block ?_ | refine Cd.skip (Cd.next ?_) | refine Ops.ixa0 rfl rfl rfl rfl (by omega) (by omega) rfl ?_ | refine Cd.condT rfl (by first | rfl | assumption | (simp only [decide_eq_true_eq, decide_eq_false_iff_not, Bool.not_eq_true', Bool.not_eq_false', Bool.not_eq_eq_eq_not, Bool.not_true, Bool.not_false, beq_iff_eq, beq_eq_false_iff_ne, ne_eq, decide_eq_decide, eq_self, true_iff, iff_true, not_true_eq_false, not_false_eq_true]; first | done | omega)) ?_)
        refine Ops.ldRowN (sz := 3) (o := 0) rfl rfl rfl hF.ok hr2 rfl ?_
        repeat' (first | refine Cd.reg ?_ | refine Ops.mv rfl rfl rfl rfl ?_ | refine Ops.fa0 rfl rfl rfl rfl ?_ | refine Ops.ld1 rfl rfl rfl rfl rfl ?_ | refine Ops.alloc rfl rfl rfl (noPd rfl) (fun b => ?_) | refine Ops.stN rfl rfl rfl rfl rfl rfl (noPd rfl) ?_)
        refine Ops.callVB (fi := []) (ca := c3) (vs := [ptr mb, ptr rb]) (q3 B0 mb mi rb bs pi ei hz1.1 (by omega)) hB rfl (noPd rfl) rfl rfl rfl rfl (fun v A' hR => ?_)
        subst hR
        repeat' (first | refine Ops.nilN (inB (Cd.next ?_)) | refine Cd.reg ?_ | refine Ops.mv rfl rfl rfl rfl ?_ | refine Ops.addI rfl rfl rfl rfl (by omega) (by omega) rfl ?_)
        exact Ops.nilN (round_end (i + 1 : Nat) (by show i + 1 ≤ fds.length; omega) (by show fds.length - (i + 1) < fds.length - i; omega) ⟨rfl, rfl, rfl, rfl, rfl, rfl, trivial⟩ (fun w h => by rw [hs]; exact h.split))
      · have hlt' : ¬ ((i : Nat) : Int) < ((fds.length : Nat) : Int) := by omega
        have he : i = fds.length := by omega
        subst he
        rw [← hsp]
        repeat' (first | refine Cd.seq ?_ | refine Cd.reg ?_ | refine Ops.bin rfl rfl rfl rfl rfl ?_ | refine Cd.condF rfl (by first | rfl | assumption | (simp only [decide_eq_true_eq, decide_eq_false_iff_not, Bool.not_eq_true', Bool.not_eq_false', Bool.not_eq_eq_eq_not, Bool.not_true, Bool.not_false, beq_iff_eq, beq_eq_false_iff_ne, ne_eq, decide_eq_decide, eq_self, true_iff, iff_true, not_true_eq_false, not_false_eq_true]; first | done | omega)) ?_)
        exact Cd.exit (inTx (roundX (inBs (meet_end (Q := fun _ _ _ => True) () trivial ⟨rfl, rfl, rfl, trivial⟩ (fun w h => h.split)))))
  clear hsp hat
  obtain ⟨m, p, e⟩ := rm
  dsimp only at hat1 ⊢
  repeat' (first | refine Cd.seq ?_ | refine Cd.reg ?_ | refine Ops.mv rfl rfl rfl rfl ?_)
  refine Ops.call (end_spec rb bs p e) rfl (noPd rfl) rfl rfl rfl (fun v A' hR => ?_)
  obtain ⟨rfl, rfl⟩ := hR
  generalize endF bs p e = en
  obtain ⟨en, ep⟩ := en
  dsimp only
  by_cases he : en = 0
  case neg =>
    rw [if_neg (fun q => he q.1)]
    repeat' (first | refine Cd.seq ?_ | refine Cd.reg ?_ | refine Ops.nil ?_ | refine Ops.mv rfl rfl rfl rfl ?_ | refine Ops.asg rfl rfl rfl rfl ?_ | refine Ops.bin rfl rfl rfl rfl rfl ?_ | refine Ops.pickT rfl rfl rfl rfl rfl ?_ | refine Ops.ext rfl rfl rfl rfl rfl ?_ | refine Ops.bld rfl rfl rfl rfl ?_ | refine Ops.stN rfl rfl rfl rfl rfl rfl (noPd rfl) ?_ | refine Ops.gSkip rfl rfl rfl ?_ | refine Cd.condT rfl rfl ?_ | ((fail_if_success refine Ops.probe rfl ?_); refine Ops.gT rfl rfl (by first | rfl | assumption | (simp only [decide_eq_true_eq, decide_eq_false_iff_not, Bool.not_eq_true', Bool.not_eq_false', Bool.not_eq_eq_eq_not, Bool.not_true, Bool.not_false, beq_iff_eq, beq_eq_false_iff_ne, ne_eq, decide_eq_decide, eq_self, true_iff, iff_true, not_true_eq_false, not_false_eq_true]; first | done | omega)) ?_))
    exact Cd.ret (ret2 (A' := []) rfl (Res.cellN rfl) (Res.tmp rfl) (fun _ h => h.split) ⟨rfl, rfl⟩)
  subst he
  repeat' (first | refine Cd.seq ?_ | refine Cd.reg ?_ | refine Ops.mv rfl rfl rfl rfl ?_ | refine Ops.asg rfl rfl rfl rfl ?_ | refine Ops.ldN rfl rfl rfl rfl ?_ | refine Ops.bin rfl rfl rfl rfl rfl ?_ | refine Ops.ext rfl rfl rfl rfl rfl ?_)
  refine Ops.call (wcheck_spec m hat1.2) rfl (noPd rfl) rfl rfl rfl (fun v A' hR => ?_)
  obtain ⟨rfl, rfl⟩ := hR
  generalize wcheckF m = we
  by_cases hw : we = 0
  · subst hw
    rw [if_pos ⟨rfl, rfl⟩]
    repeat' (first | refine Cd.seq ?_ | refine Cd.reg ?_ | refine Ops.nil ?_ | refine Ops.asg rfl rfl rfl rfl ?_ | refine Ops.ldN rfl rfl rfl rfl ?_ | refine Ops.bin rfl rfl rfl rfl rfl ?_ | refine Ops.pickF rfl rfl rfl rfl rfl ?_ | refine Ops.stN rfl rfl rfl rfl rfl rfl (noPd rfl) ?_ | refine Cd.condF rfl rfl ?_ | refine Cd.skip (Cd.next ?_))
    exact Cd.ret (ret2 (A' := []) rfl (Res.cellN rfl) (Res.tmp rfl) (fun _ h => h.split) ⟨rfl, rfl⟩)
  · rw [if_neg (fun q => hw q.2)]
    repeat' (first | refine Cd.seq ?_ | refine Cd.reg ?_ | refine Ops.nil ?_ | refine Ops.asg rfl rfl rfl rfl ?_ | refine Ops.bin rfl rfl rfl rfl rfl ?_ | refine Ops.pickF rfl rfl rfl rfl rfl ?_ | refine Ops.bld rfl rfl rfl rfl ?_ | refine Ops.stN rfl rfl rfl rfl rfl rfl (noPd rfl) ?_ | refine Cd.condT rfl (by first | rfl | assumption | (simp only [decide_eq_true_eq, decide_eq_false_iff_not, Bool.not_eq_true', Bool.not_eq_false', Bool.not_eq_eq_eq_not, Bool.not_true, Bool.not_false, beq_iff_eq, beq_eq_false_iff_ne, ne_eq, decide_eq_decide, eq_self, true_iff, iff_true, not_true_eq_false, not_false_eq_true]; first | done | omega)) ?_)
    exact Cd.ret (ret2 (A' := []) rfl (Res.cellN rfl) (Res.tmp rfl) (fun _ h => h.split) ⟨rfl, rfl⟩)
end Go.Proofs.YtnmjdoaogdaehaaGreat
namespace Go.Proofs.YtnmjdoaogdaehaaGreat
open Go Go.Sep Go.Proofs
set_option maxRecDepth 10000
set_option maxHeartbeats 40000000
set_option synthInstance.maxSize 2000
set_option linter.unusedSimpArgs false
set_option linter.unusedVariables false
/-! a runner says hello -/
@[reducible] def Ch.res (n : Int) : Ch := ⟨1, n, 0, 0, 0, 0, 0, 0, ⟨#[]⟩, []⟩
theorem draws_new (xb lb tb cb mb db wb sb : Nat) (c : Cf) (hc : CfOk c) (tv : Value) (dead : Bool) (la re b rs la1 re1 : Int) (h0 : 0 ≤ re) (h1 : re ≤ 1099511627776) (h2 : 0 ≤ la) (hn : nextB c.block la re = ((b, rs, 0), la1, re1)) (hrs : rs ≠ 0) :
    Con Tryz.prog 105 #[ptr xb] [CoB xb lb tb cb mb db wb sb c tv dead, CtB cb c.block la re] fun v A => ∃ g, v = .tuple #[.int .i64 b, .slice (some ⟨g, 0, none⟩) 1 1, .bool true] ∧ A = [CoB xb lb tb cb mb db wb sb c tv dead, CtB cb c.block la1 re1, (g, cl ((Ch.res rs).row none 0) 51)] := by
  obtain ⟨_, _, _, _, _, _, ⟨g1, g2⟩, _, _⟩ := id hc
  refine Con.intro (vs := [_]) Tryz.func105 rfl Tryz.ntmps105 rfl (fun B => ?_)
  repeat' (first | refine Cd.seq ?_ | refine Cd.reg ?_ | refine Ops.mv rfl rfl rfl rfl ?_ | refine Ops.asg rfl rfl rfl rfl ?_ | refine Ops.nilP rfl rfl rfl rfl ?_ | refine Ops.fa0 rfl rfl rfl rfl ?_ | refine Ops.ld1 rfl rfl rfl rfl rfl ?_)
  refine Ops.call (bnext_spec cb c.block la re g1 g2 h0 h1 h2) rfl (noPd rfl) rfl rfl rfl (fun v A' hR => ?_)
  rw [hn] at hR
  obtain ⟨rfl, rfl⟩ := hR
  dsimp only
  repeat' (first | refine Cd.seq ?_ | refine Cd.reg ?_ | refine Ops.nil ?_ | refine Ops.mv rfl rfl rfl rfl ?_ | refine Ops.asg rfl rfl rfl rfl ?_ | refine Ops.bin rfl rfl rfl rfl rfl ?_ | refine Ops.ext rfl rfl rfl rfl rfl ?_ | refine Ops.bld rfl rfl rfl rfl ?_ | refine Ops.bs1 rfl rfl rfl rfl rfl rfl rfl (noPd rfl) (fun b => ?_) | refine Cd.condF rfl rfl ?_ | refine Cd.skip (Cd.next ?_) | refine Cd.condF rfl (by first | rfl | assumption | (simp only [decide_eq_true_eq, decide_eq_false_iff_not, Bool.not_eq_true', Bool.not_eq_false', Bool.not_eq_eq_eq_not, Bool.not_true, Bool.not_false, beq_iff_eq, beq_eq_false_iff_ne, ne_eq, decide_eq_decide, eq_self, true_iff, iff_true, not_true_eq_false, not_false_eq_true]; first | done | omega)) ?_)
  rename Nat => g
  exact Cd.ret (ret3 (A' := [CoB xb lb tb cb mb db wb sb c tv dead, CtB cb c.block la1 re1, (g, cl ((Ch.res rs).row none 0) 51)]) rfl (Res.tmp rfl) (Res.tmp rfl) (Res.tmp rfl) (fun _ h => h.split) ⟨g, rfl, rfl⟩)
/-- Who is heard, what he says. -/
@[reducible] def heV (xb : Nat) (node life : Int) (m : Ms) : List Value := [ptr xb, .int .i64 node, .int .i64 life, .int .i64 m.kind, .int .i64 m.session, .int .i64 m.number, .int .i64 m.job, .int .i64 m.badge, .int .i64 m.index, .int .i64 m.count, .int .i64 m.rcode, .int .u64 m.rbits, .string m.text, .string m.prog]
theorem slot_spec (xb : Nat) (node life : Int) (m : Ms) (h1 : 2 ≤ node) (h2 : node ≤ 9) : Con Tryz.prog 104 #[.agg (heV xb node life m).toArray] [] fun v A => v = .int .i64 (node - 2) ∧ A = [] := by
  refine Con.intro (vs := [_]) Tryz.func104 rfl Tryz.ntmps104 rfl (fun B => ?_)
  repeat' (first | refine Cd.seq ?_ | refine Cd.reg ?_ | refine Ops.nil ?_ | refine Ops.asg rfl rfl rfl rfl ?_ | refine Ops.fa0 rfl rfl rfl rfl ?_ | refine Ops.fa rfl rfl rfl rfl ?_ | refine Ops.ld1 rfl rfl rfl rfl rfl ?_ | refine Ops.subI rfl rfl rfl rfl (by omega) (by omega) rfl ?_ | refine Ops.box rfl rfl rfl rfl (noPd rfl) (fun b => ?_))
  exact Cd.ret (ret1 (A' := []) rfl (Res.tmp rfl) (fun _ h => h.split) ⟨rfl, rfl⟩)
theorem told_spec (m : Ms) (hok : MsOk m) : Con Tryz.prog 107 #[.agg m.row.toArray] [] fun v A => v = .string (encF m).1 ∧ A = [] := by
  refine Con.intro (vs := [_]) Tryz.func107 rfl Tryz.ntmps107 rfl (fun B => ?_)
  repeat' (first | refine Cd.seq ?_ | refine Cd.reg ?_ | refine Ops.asg rfl rfl rfl rfl ?_ | refine Ops.ldN rfl rfl rfl rfl ?_ | refine Ops.box rfl rfl rfl rfl (noPd rfl) (fun b => ?_))
  refine Ops.call (wencode_spec m hok) rfl (noPd rfl) rfl rfl rfl (fun v A' hR => ?_)
  obtain ⟨rfl, rfl⟩ := hR
  repeat' (first | refine Cd.seq ?_ | refine Cd.reg ?_ | refine Ops.nil ?_ | refine Ops.mv rfl rfl rfl rfl ?_ | refine Ops.asg rfl rfl rfl rfl ?_ | refine Ops.ext rfl rfl rfl rfl rfl ?_)
  exact Cd.ret (ret1 (A' := []) rfl (Res.tmp rfl) (fun _ h => h.split) ⟨rfl, rfl⟩)
/-- makes, of changes that one owns. -/
theorem makes_own (B0 : Base) (xb lb tb cb mb db wb sb : Nat) (c : Cf) (dead : Bool) (w w1 : Wl) (x x1 : Dk) (k : Nat) (D : List Blk) (hD : DkA db x k D) (s : StP) (SD : List Blk) (hS : StA sb s SD) (ok : StOk s) (tv : Value) (tl : List Cg) (TG : List Blk) (hT : OwnC tv tl TG) (htl : tl.length ≤ 1000000000)
    (g : Nat) (r : Int) (wok : WlOk w x.S.length) (hk : k ≤ 800000000000)
    (hz : (encodeF [Ch.res r]).1.size ≤ 900000) (hev : w.recs < c.every) (hrm : (encodeF [Ch.res r]).1.size ≤ roomW w x.S.length) (hap : appendF w x (encodeF [Ch.res r]).1 = ((w1, x1), 0)) :
    ConB Tryz.prog B0 30 #[ptr xb, .slice (some ⟨g, 0, none⟩) 1 1] (CoB xb lb tb cb mb db wb sb c tv dead :: WlB wb db w :: (SD ++ (D ++ (TG ++ [(g, cl ((Ch.res r).row none 0) 51)]))))
      fun v X => ∃ SD1 D1 tv1 TG1, X = CoB xb lb tb cb mb db wb sb c tv1 dead :: WlB wb db w1 :: (SD1 ++ (D1 ++ (TG1 ++ [(g, cl ((Ch.res r).row none 0) 51)]))) ∧ StA sb (applyF s [Ch.res r]).2 SD1 ∧ DkA db x1 (k + (encodeF [Ch.res r]).1.size + 20) D1 ∧ OwnC tv1 (tl ++ [⟨Ch.res r, none, 0⟩]) TG1 := by
  rw [show CoB xb lb tb cb mb db wb sb c tv dead :: WlB wb db w :: (SD ++ (D ++ (TG ++ [(g, cl ((Ch.res r).row none 0) 51)]))) = (CoB xb lb tb cb mb db wb sb c tv dead :: WlB wb db w :: (SD ++ (D ++ TG))) ++ [(g, cl ((Ch.res r).row none 0) 51)] from by simp only [List.cons_append, List.append_assoc]]
  refine ConB.mono (ConB.lend (R := fun v A => ∃ SD1 D1 tv1 TG1, A = CoB xb lb tb cb mb db wb sb c tv1 dead :: WlB wb db w1 :: (SD1 ++ (D1 ++ TG1)) ∧ StA sb (applyF s [Ch.res r]).2 SD1 ∧ DkA db x1 (k + (encodeF [Ch.res r]).1.size + 20) D1 ∧ OwnC tv1 (tl ++ [⟨Ch.res r, none, 0⟩]) TG1) fun B1 e hG => ?_) (fun v X hR => by
    obtain ⟨A, ⟨SD1, D1, tv1, TG1, rfl, q1, q2, q3⟩, rfl⟩ := hR
    exact ⟨SD1, D1, tv1, TG1, by simp only [List.cons_append, List.append_assoc], q1, q2, q3⟩)
  · skip
    have hO : Own 51 10 (.slice (some ⟨g, 0, none⟩) 1 1) [(Ch.res r).row none 0] [(g, cl ((Ch.res r).row none 0) 51)] := ⟨RowsOk.one rfl rfl, .inr ⟨g, 1, [], rfl, rfl, rfl, Nat.le_refl _⟩⟩
    have hr : RIn 10 B1 (some ⟨g, 0, none⟩) [(Ch.res r).row none 0] := Own.rin hO hG
    have hC : CIn B1 (some ⟨g, 0, none⟩) [⟨Ch.res r, none, 0⟩] := ⟨hr, fun q hq => (by
      rw [List.mem_singleton] at hq; subst hq
      intro i t ht; cases ht), fun q hq => (by rw [List.mem_singleton] at hq; subst hq; exact Nat.zero_le _), fun q hq => (by rw [List.mem_singleton] at hq; subst hq; show (0 : Int) ≤ 0 ∧ (0 : Int) < _; omega)⟩
    exact makes_spec B1 xb lb tb cb mb db wb sb c dead w w1 x x1 k D hD s SD hS ok tv tl TG hT htl (some ⟨g, 0, none⟩) 1 [⟨Ch.res r, none, 0⟩] hC (by show (0 : Nat) < 1; omega) (by show (1 : Nat) ≤ 2000000; omega) (fun q hq => (by rw [List.mem_singleton] at hq; subst hq; exact step_reserve B1 _ rfl)) wok hk hz hev hrm hap
theorem hello_new (B0 : Base) (xb lb tb cb mb db wb sb : Nat) (c : Cf) (hc : CfOk c) (dead : Bool) (w w1 : Wl) (x x1 : Dk) (k : Nat) (D : List Blk) (hD : DkA db x k D) (s : StP) (SD : List Blk) (hS : StA sb s SD) (ok : StOk s) (tv : Value) (tl : List Cg) (TG : List Blk) (hT : OwnC tv tl TG) (htl : tl.length ≤ 1000000000)
    (sv : Value) (rs : List Se.Dk) (G : List Blk) (hO : Se.OwnK sv rs G) (la re bg r la1 re1 : Int) (h0 : 0 ≤ re) (h1 : re ≤ 1099511627776) (h2 : 0 ≤ la) (hn : nextB c.block la re = ((bg, r, 0), la1, re1)) (hr0 : r ≠ 0) (hbg : 0 ≤ bg ∧ bg ≤ 1099511627776)
    (wok : WlOk w x.S.length) (hk : k ≤ 800000000000)
    (hz : (encodeF [Ch.res r]).1.size ≤ 900000) (hev : w.recs < c.every) (hrm : (encodeF [Ch.res r]).1.size ≤ roomW w x.S.length) (hap : appendF w x (encodeF [Ch.res r]).1 = ((w1, x1), 0))
    (node life : Int) (m : Ms) (hn1 : 2 ≤ node) (hn2 : node ≤ 9) (hfr : Se.helloV (Se.rowAt rs (node - 2)) life = (2, 0)) :
    ConB Tryz.prog B0 52 #[.agg (heV xb node life m).toArray] (CoB xb lb tb cb mb db wb sb c tv dead :: (Se.TabB tb sv G ++ (CtB cb c.block la re :: WlB wb db w :: (SD ++ (D ++ TG)))))
      fun v A => v = .string (encF ⟨7, bg, 0, 0, 0, 0, 0, 0, 0, ⟨#[]⟩, ⟨#[]⟩⟩).1 ∧ ∃ SD1 D1 tv1 TG1 G1, A = CoB xb lb tb cb mb db wb sb c tv1 dead :: (Se.TabB tb sv G1 ++ (CtB cb c.block la1 re1 :: WlB wb db w1 :: (SD1 ++ (D1 ++ TG1)))) ∧ StA sb (applyF s [Ch.res r]).2 SD1 ∧ DkA db x1 (k + (encodeF [Ch.res r]).1.size + 20) D1 ∧ OwnC tv1 (tl ++ [⟨Ch.res r, none, 0⟩]) TG1 ∧ Se.OwnK sv (Se.putRow rs (node - 2) (Se.openV (Se.rowAt rs (node - 2)) (node - 2) life bg)) G1 := by
  refine ConB.intro (vs := [_]) Tryz.func52 rfl Tryz.ntmps52 rfl (fun B hB => ?_)
  repeat' (first | refine Cd.seq ?_ | refine Cd.reg ?_ | refine Ops.asg rfl rfl rfl rfl ?_ | refine Ops.box rfl rfl rfl rfl (noPd rfl) (fun b => ?_))
  rename Nat => hb
  refine Cd.draw [(0, 0, []), (1, 1, []), (2, 0, []), (3, 0, []), (4, 0, []), (5, 1, []), (6, 1, []), (8, 0, []), (9, 0, []), (10, 1, []), (7, 2, [1, 5, 10]), (11, 2, []), (12, 0, []), (13, 0, []), (14, 0, []), (15, 0, []), (16, 0, [])] (by kernel_rfl) (by kernel_rfl) (by simp only [picked, nth]; exact rfl) ?_
  repeat' (first | refine Ops.nilP rfl rfl rfl rfl ?_ | refine Ops.fa0 rfl rfl rfl rfl ?_ | refine Ops.fa rfl rfl rfl rfl ?_ | refine Ops.ld1 rfl rfl rfl rfl rfl ?_ | refine Ops.ldN rfl rfl rfl rfl ?_ | fail)
  refine Ops.call (slot_spec xb node life m hn1 hn2) rfl (by first | exact noPd rfl | (intro v A' hR i hi; obtain ⟨A2, hR, rfl⟩ := hR; (try obtain ⟨rfl, rfl⟩ := hR); (repeat (rcases List.mem_cons.1 hi with rfl | hi; · (first | exact Still.ld1 rfl rfl rfl rfl rfl | exact Still.ldN rfl rfl rfl rfl | exact Still.len rfl rfl rfl rfl rfl | exact Still.skip rfl rfl rfl | exact Still.ldRow1 rfl rfl rfl (by assumption) (by assumption) rfl rfl | exact Still.ldR rfl rfl rfl (by apply_assumption) rfl))); cases hi)) rfl rfl rfl (fun v A' hR => ?_)
  obtain ⟨rfl, rfl⟩ := hR
  skip
  refine Ops.call (Se.hello_fun tb sv rs G (node - 2) life hO) rfl (by first | exact noPd rfl | (intro v A' hR i hi; obtain ⟨A2, hR, rfl⟩ := hR; (try obtain ⟨rfl, rfl⟩ := hR); (repeat (rcases List.mem_cons.1 hi with rfl | hi; · (first | exact Still.ld1 rfl rfl rfl rfl rfl | exact Still.ldN rfl rfl rfl rfl | exact Still.len rfl rfl rfl rfl rfl | exact Still.skip rfl rfl rfl | exact Still.ldRow1 rfl rfl rfl (by assumption) (by assumption) rfl rfl | exact Still.ldR rfl rfl rfl (by apply_assumption) rfl))); cases hi)) rfl rfl rfl (fun v A' hR => ?_)
  rw [hfr] at hR
  obtain ⟨rfl, rfl⟩ := hR
  dsimp only
  repeat' (first | refine Cd.seq ?_ | refine Cd.reg ?_ | refine Ops.nil ?_ | refine Ops.mv rfl rfl rfl rfl ?_ | refine Ops.asg rfl rfl rfl rfl ?_ | refine Ops.fa0 rfl rfl rfl rfl ?_ | refine Ops.ld1 rfl rfl rfl rfl rfl ?_ | refine Ops.bin rfl rfl rfl rfl rfl ?_ | refine Ops.ext rfl rfl rfl rfl rfl ?_ | refine Cd.condT rfl rfl ?_ | refine Cd.condF rfl rfl ?_ | refine Cd.skip (Cd.next ?_))
  refine Ops.call (draws_new xb lb tb cb mb db wb sb c hc tv dead la re bg r la1 re1 h0 h1 h2 hn hr0) rfl (noPd rfl) rfl rfl rfl (fun v A' hR => ?_)
  obtain ⟨g, rfl, rfl⟩ := hR
  repeat' (first | refine Cd.seq ?_ | refine Cd.reg ?_ | refine Ops.nil ?_ | refine Ops.mv rfl rfl rfl rfl ?_ | refine Ops.asg rfl rfl rfl rfl ?_ | refine Ops.fa0 rfl rfl rfl rfl ?_ | refine Ops.ld1 rfl rfl rfl rfl rfl ?_ | refine Ops.un rfl rfl rfl rfl ?_ | refine Ops.ext rfl rfl rfl rfl rfl ?_ | refine Cd.condF rfl rfl ?_ | refine Cd.skip (Cd.next ?_))
  refine Ops.callB (makes_own B0 xb lb tb cb mb db wb sb c dead w w1 x x1 k D hD s SD hS ok tv tl TG hT htl g r wok hk hz hev hrm hap) hB rfl (noPd rfl) rfl rfl rfl (fun v A' hR => ?_)
  obtain ⟨SD1, D1, tv1, TG1, rfl, hS1, hD1, hT1⟩ := hR
  repeat' (first | refine Cd.seq ?_)
  refine Cd.draw [(0, 0, []), (1, 1, []), (2, 0, []), (3, 0, []), (4, 0, []), (5, 1, []), (6, 1, []), (8, 0, []), (9, 0, []), (10, 1, []), (11, 0, []), (7, 2, [1, 5, 10]), (12, 2, [])] (by kernel_rfl) (by kernel_rfl) (by simp only [picked, nth]; exact rfl) ?_
  repeat' (first | refine Ops.mv rfl rfl rfl rfl ?_ | refine Ops.nilP rfl rfl rfl rfl ?_ | refine Ops.fa0 rfl rfl rfl rfl ?_ | refine Ops.fa rfl rfl rfl rfl ?_ | refine Ops.ld1 rfl rfl rfl rfl rfl ?_ | refine Ops.ldN rfl rfl rfl rfl ?_ | fail)
  refine Ops.call (slot_spec xb node life m hn1 hn2) rfl (by first | exact noPd rfl | (intro v A' hR i hi; obtain ⟨A2, hR, rfl⟩ := hR; (try obtain ⟨rfl, rfl⟩ := hR); (repeat (rcases List.mem_cons.1 hi with rfl | hi; · (first | exact Still.ld1 rfl rfl rfl rfl rfl | exact Still.ldN rfl rfl rfl rfl | exact Still.len rfl rfl rfl rfl rfl | exact Still.skip rfl rfl rfl | exact Still.ldRow1 rfl rfl rfl (by assumption) (by assumption) rfl rfl | exact Still.ldR rfl rfl rfl (by apply_assumption) rfl))); cases hi)) rfl rfl rfl (fun v A' hR => ?_)
  obtain ⟨rfl, rfl⟩ := hR
  skip
  refine Ops.call (Se.open_fun tb sv rs G (node - 2) life bg hO) rfl (noPd rfl) rfl rfl rfl (fun v A' hR => ?_)
  obtain ⟨⟨er, rfl⟩, G1, rfl, hO1⟩ := hR
  repeat' (first | refine Cd.seq ?_ | refine Cd.reg ?_ | refine Ops.nil ?_ | refine Ops.mv rfl rfl rfl rfl ?_ | refine Ops.asg rfl rfl rfl rfl ?_ | refine Ops.bld rfl rfl rfl rfl ?_ | fail)
  refine Ops.call (told_spec ⟨7, bg, 0, 0, 0, 0, 0, 0, 0, ⟨#[]⟩, ⟨#[]⟩⟩ ⟨Nat.zero_le _, Nat.zero_le _, by show (0 : Int) ≤ 0 ∧ (0 : Int) < _; omega⟩) rfl (noPd rfl) rfl rfl rfl (fun v A' hR => ?_)
  obtain ⟨rfl, rfl⟩ := hR
  repeat' (first | refine Ops.nil ?_ | refine Ops.asg rfl rfl rfl rfl ?_)
  exact Cd.ret (ret1 (A' := CoB xb lb tb cb mb db wb sb c tv1 dead :: (Se.TabB tb sv G1 ++ (CtB cb c.block la1 re1 :: WlB wb db w1 :: (SD1 ++ (D1 ++ TG1))))) rfl (Res.tmp rfl) (fun _ h => h.split) ⟨rfl, SD1, D1, tv1, TG1, G1, rfl, hS1, hD1, hT1, hO1⟩)
end Go.Proofs.YtnmjdoaogdaehaaGreat
namespace Go.Proofs.YtnmjdoaogdaehaaGreat
open Go Go.Sep Go.Proofs
set_option maxRecDepth 10000
set_option maxHeartbeats 40000000
set_option synthInstance.maxSize 2000
set_option linter.unusedSimpArgs false
set_option linter.unusedVariables false
/-! what is done while the disk lives -/
theorem caught1_ret (B0 : Base) (bx eb : Nat) : DCon Tryz.prog B0 46 #[ptr bx, ptr eb] .returning [] fun u' A => u' = .returning ∧ A = [] := by
  refine DCon.intro (vs := [_, _]) Tryz.func46 rfl Tryz.ntmps46 rfl (fun B c₀ cs hx hu => ?_)
  have hrec : recoverD (c₀ :: cs) = none := by simp [recoverD, hu]
  have hc0 : c₀ = { c₀ with mode := .returning } := by rw [← hu]
  refine CdS.seq ?_
  refine CdS.rec_no rfl hrec rfl rfl ?_
  refine Ops.nilN (CdS.next ?_)
  refine CdS.of rfl ?_
  rw [hc0]
  haveI := (⟨Tryz.underlying20⟩ : TyD Tryz.prog 20 _)
  repeat' (first | refine Cd.seq ?_ | refine Cd.reg ?_ | refine Cd.block ?_)
  refine Ops.eqIfaceNil ⟨_, rfl⟩ rfl rfl rfl rfl ?_
  repeat' (first | refine Cd.reg ?_ | refine Ops.nil ?_ | refine Ops.asg rfl rfl rfl rfl ?_ | refine Cd.condT rfl rfl ?_)
  exact Ops.nilN (inB (endS (A' := []) rfl (fun _ h => h.split) ⟨rfl, rfl⟩))
theorem caught_calm (B0 : Base) (xb lb tb cb mb db wb sb : Nat) (c : Cf) (tv : Value) (x : Dk) (k : Nat) (D : List Blk) (hD : DkA db x k D) (hde : x.de = false) (F : List Blk) (f : FuncId) (ca : List Value) [FnOk Tryz.prog f] (R : Value → List Blk → Prop)
    (hdo : ConB Tryz.prog B0 f ca.toArray (CoB xb lb tb cb mb db wb sb c tv false :: (D ++ F)) R) :
    ConB Tryz.prog B0 20 #[ptr xb, .func (.func f) #[] ca.toArray] (CoB xb lb tb cb mb db wb sb c tv false :: (D ++ F)) fun v A => v = .int .i64 0 ∧ ∃ v0, R v0 A := by
  refine ConX.calm (X := fun _ _ => False) (ConX.intro (vs := [_, _]) Tryz.func20 rfl Tryz.ntmps20 rfl (fun B hB => ?_)) (fun _ _ h => h)
  repeat' (first | refine Cd.seq ?_ | refine Cd.reg ?_ | refine Ops.ld1 rfl rfl rfl rfl rfl ?_ | refine Ops.box rfl rfl rfl rfl (noPd rfl) (fun b => ?_) | refine Ops.alloc rfl rfl rfl (noPd rfl) (fun b => ?_))
  rename_i bx
  rename Nat => eb
  refine Ops.call (lives_spec xb lb tb cb mb db wb sb c tv false x k D hD) rfl (noPd rfl) rfl rfl rfl (fun v A' hR => ?_)
  rw [hde, Bool.or_self] at hR
  obtain ⟨rfl, rfl⟩ := hR
  repeat' (first | refine Ops.mkF rfl rfl rfl rfl rfl ?_ | refine Cd.seq ?_ | refine Cd.reg ?_ | refine Ops.nil ?_ | refine Ops.un rfl rfl rfl rfl ?_ | refine Cd.condF rfl rfl ?_ | refine Cd.skip (Cd.next ?_))
  refine Ops.dfr (fi := []) (ca := [ptr bx, ptr eb]) (vs := []) rfl rfl rfl rfl ?_
  repeat' (first | refine Cd.seq ?_ | refine Cd.reg ?_ | refine Ops.mv rfl rfl rfl rfl ?_)
  refine Ops.callVB (fi := []) (ca := ca) (vs := []) hdo hB rfl (noPd rfl) rfl rfl rfl rfl (fun v A' hR => ?_)
  rename Value => v0
  repeat' (first | refine Cd.seq ?_ | refine Cd.reg ?_ | refine Ops.nil ?_ | refine Ops.st1 rfl rfl rfl rfl rfl (noPd rfl) ?_)
  refine Cd.ret (leaveD_ret (caught1_ret B0 bx eb) hB (fun u' A2 hR2 => ?_))
  obtain ⟨rfl, rfl⟩ := hR2
  exact .inl ⟨rfl, retX (ret1 (A' := A') rfl (Res.cell1 rfl rfl) (fun _ h => h.split) ⟨rfl, v0, hR⟩)⟩
end Go.Proofs.YtnmjdoaogdaehaaGreat
